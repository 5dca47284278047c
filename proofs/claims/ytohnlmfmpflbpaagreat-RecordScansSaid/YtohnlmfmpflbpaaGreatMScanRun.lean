/- The inner loop of RecordScans: a range over record.All, left after some number. Conditions: none. -/
import Derived.Test.YtohnlmfmpflbpaaGreatMAppB
import Derived.Test.YtohnlmfmpflbpaaGreatMFoundAt
import Derived.Test.YtohnlmfmpflbpaaGreatMLawA
import Derived.Test.YtohnlmfmpflbpaaGreatMRefScan
import Derived.Test.YtohnlmfmpflbpaaGreatMRound
set_option linter.unusedSimpArgs false
set_option linter.unusedVariables false
set_option linter.all false
namespace Go.Proofs.YtohnlmfmpflbpaaGreat
open Go.RowKit

attribute [local go_sem] Oper.semAt_some

def findBlock (r : Nat) : Code → Option Code
  | .block i c => if i = r then some (.block i c) else findBlock r c
  | .seq a b => match findBlock r a with
    | some c => some c
    | none => findBlock r b
  | .loop c => findBlock r c
  | .scope c => findBlock r c
  | .cond _ a b => match findBlock r a with
    | some c => some c
    | none => findBlock r b
  | _ => none
def inBlock : Code → Code
  | .block _ c => c
  | _ => .skip
noncomputable def scansRange : Code := inBlock ((Tryz.f4.body.bind (findBlock 6)).getD .skip)

theorem Kept2.trans {g : Nat} {a b c : World} (h : Kept2 g none a b) (k : Kept2 g none b c) : Kept2 g none a c :=
  ⟨k.os.trans h.os, k.tape.trans h.tape, k.output.trans h.output, Nat.le_trans h.size k.size, fun j hj hne hr => (k.block j (Nat.lt_of_lt_of_le hj h.size) hne hr).trans (h.block j hj hne hr)⟩
theorem kept2_below {g : Nat} {w w' : World} (h : Below w.heap.size w w') : Kept2 g none w w' := ⟨h.os, h.tape, h.output, h.size, fun j hj _ _ => h.block j hj⟩
theorem Kept2.grown {g : Nat} {w V V' : World} {row : Option Nat} (h : Kept2 g none w V) (hg : V.grownBy V' row) (hr : ∀ k, row = some k → w.heap.size ≤ k) : Kept2 g none w V' :=
  ⟨hg.os.trans h.os, hg.tape.trans h.tape, hg.output.trans h.output, Nat.le_trans h.size hg.size, fun j hj hne hn => (hg.block j (Nat.lt_of_lt_of_le hj h.size) (fun e => by have := hr j e.symm; omega)).trans (h.block j hj hne hn)⟩
theorem Kept2.toBelow {g : Nat} {m w V : World} (h : Kept2 g none w V) (hm : Below m.heap.size m w) (hg : m.heap.size ≤ g) : Below m.heap.size m V :=
  ⟨h.os.trans hm.os, h.tape.trans hm.tape, h.output.trans hm.output, Nat.le_trans hm.size h.size, fun j hj => (h.block j (Nat.lt_of_lt_of_le hj hm.size) (by omega) (fun e => by cases e)).trans (hm.block j hj)⟩

/-- What holds while the range goes on. -/
structure RunI (W0 : World) (g14 mo : Nat) (pre : List Hit) (V : World) : Prop where
  k2 : Kept2 g14 none W0 V
  o14 : Own V 3 g14 [.int .i64 (pre.length : Int)]
  lt : pre = [] ∨ pre.length < mo
def RunX (W0 : World) (g14 mo : Nat) (c : Code) (pre : List Hit) (V : World) : Prop := c = .exit 6 ∧ Kept2 g14 none W0 V ∧ Own V 3 g14 [.int .i64 (pre.length : Int)] ∧ pre.length = max mo 1
theorem runI_own {W0 : World} {g14 mo B : Nat} (hb : W0.heap.size ≤ B) : OwnFrom B (RunI W0 g14 mo) := fun s A C row hs hg hr =>
  ⟨hs.k2.grown hg (fun k e => Nat.le_trans hb (hr k e).1), own_cells hs.o14 hg (fun r e => (hr r e).2), hs.lt⟩
theorem runX_own {W0 : World} {g14 mo B : Nat} (hb : W0.heap.size ≤ B) (c : Code) : OwnFrom B (RunX W0 g14 mo c) := fun s A C row hs hg hr =>
  ⟨hs.1, hs.2.1.grown hg (fun k e => Nat.le_trans hb (hr k e).1), own_cells hs.2.2.1 hg (fun r e => (hr r e).2), hs.2.2.2⟩

set_option maxRecDepth 100000 in
set_option maxHeartbeats 6400000 in
theorem scans_range (bl : List UInt8) (g0 g7 g13 g14 n0 base n cap mo N cf : Nat) (a af : Option Addr) (xs : List Hit) (Wm W : World) {Q : Exit → Act → World → Prop} {ds : List Deferred} {x0 x1 x2 x3 x4 x5 x6 x8 x9 x10 x11 x12 x15 x16 x17 x18 x19 x20 x21 x22 x23 x24 x25 x26 x27 x28 x29 x30 x31 x32 x33 x34 x35 x36 x37 x38 x39 x40 x41 x42 x43 x44 x45 x46 x47 x48 x49 x50 x51 x52 x53 x54 x55 x56 x57 x58 x59 x60 x61 x62 x63 x64 x65 x66 x67 x68 x69 x70 x71 x72 x73 x74 x75 x76 x77 x78 x79 x80 x81 x82 x83 x84 x85 x86 x87 x88 x89 x90 x91 x92 x93 x94 x95 x96 x97 x98 x99 x100 x101 x102 x103 x104 x106 x107 x108 x109 x110 x111 x112 x113 x114 x115 x116 x117 x118 x119 x120 x121 x122 x123 x124 x125 x126 x127 x128 x129 x130 x131 x132 x133 x134 x135 x136 x137 x138 x139 x140 x141 x142 x143 x144 : Value}
    (hS : Hid (List.map hkey xs = scanFrom bl 0)) (hN : Hid (xs.length = N)) (o7 : Own W 51 g7 [.slice af N cf]) (o13 : Own W 3 g13 [.int .i64 (mo : Int)]) (o14 : Own W 3 g14 [.int .i64 0])
    (hrf : Wm.ownsRow base 56 8 (.slice af N cf) N (xs.flatMap foundCells)) (hht : Hits base Wm xs) (hm : Below Wm.heap.size Wm W)
    (h14 : Wm.heap.size ≤ g14) (h7 : g7 ≠ g14) (h13 : g13 ≠ g14) (h0 : g0 ≠ g14) (hn0 : n0 ≤ Wm.heap.size) (hg0 : g0 < W.heap.size)
    (hc0 : W.cell? ⟨g0, 0, none⟩ = some (.slice a n cap)) (hAK : ∀ W', KeepG n0 g0 W W' → BytesA W' a bl) (Hn : Hid (bl.length = n)) (hcap : n ≤ cap) (hmax : cap ≤ 9223372036854775807) (hn : n ≤ 1000000) (hmo : mo ≤ 2000000) (hNn : N ≤ 1000000)
    (hQ : ∀ (D : Nat) (W' : World), W.heap.size ≤ D → Kept2 g14 none W W' → Own W' 3 g14 [.int .i64 ((min (max mo 1) N : Nat) : Int)] → W'.heap[D]? = some (.deferred (some [])) → Q .normal ⟨#[x0, x1, x2, x3, x4, x5, x6, .pointer (some ⟨g7, 0, none⟩), x8, x9, x10, x11, x12, .pointer (some ⟨g13, 0, none⟩), .pointer (some ⟨g14, 0, none⟩), x15, x16, x17, x18, x19, x20, x21, x22, x23, x24, x25, x26, x27, x28, x29, x30, x31, x32, x33, x34, x35, x36, x37, x38, x39, x40, x41, x42, x43, x44, x45, x46, x47, x48, x49, x50, x51, x52, x53, x54, x55, x56, x57, x58, x59, x60, x61, x62, x63, x64, x65, x66, x67, x68, x69, x70, x71, x72, x73, x74, x75, x76, x77, x78, x79, x80, x81, x82, x83, x84, x85, x86, x87, x88, x89, x90, x91, x92, x93, x94, x95, x96, x97, x98, x99, x100, x101, x102, x103, x104, .func (.func 48) #[] #[.pointer (some ⟨g0, 0, none⟩)], x106, x107, x108, x109, x110, x111, x112, x113, x114, x115, x116, x117, x118, x119, x120, x121, x122, x123, x124, x125, x126, x127, x128, x129, x130, x131, x132, x133, x134, x135, x136, x137, x138, x139, x140, x141, x142, x143, x144], { target := .collected D, args := #[] } :: ds⟩ W') (hX : ∀ a w, Q .normal a w → Q (.exit 6) a w) :
    Code.wpIn Fence.wide 5 Tryz.prog scansRange Q ⟨#[x0, x1, x2, x3, x4, x5, x6, .pointer (some ⟨g7, 0, none⟩), x8, x9, x10, x11, x12, .pointer (some ⟨g13, 0, none⟩), .pointer (some ⟨g14, 0, none⟩), x15, x16, x17, x18, x19, x20, x21, x22, x23, x24, x25, x26, x27, x28, x29, x30, x31, x32, x33, x34, x35, x36, x37, x38, x39, x40, x41, x42, x43, x44, x45, x46, x47, x48, x49, x50, x51, x52, x53, x54, x55, x56, x57, x58, x59, x60, x61, x62, x63, x64, x65, x66, x67, x68, x69, x70, x71, x72, x73, x74, x75, x76, x77, x78, x79, x80, x81, x82, x83, x84, x85, x86, x87, x88, x89, x90, x91, x92, x93, x94, x95, x96, x97, x98, x99, x100, x101, x102, x103, x104, .func (.func 48) #[] #[.pointer (some ⟨g0, 0, none⟩)], x106, x107, x108, x109, x110, x111, x112, x113, x114, x115, x116, x117, x118, x119, x120, x121, x122, x123, x124, x125, x126, x127, x128, x129, x130, x131, x132, x133, x134, x135, x136, x137, x138, x139, x140, x141, x142, x143, x144], ds⟩ W := by
  conv => arg 4; whnf
  have hI0 : RunI W g14 mo [] W := ⟨Kept2.refl _ _ _, o14, .inl rfl⟩
  have hlt14 := o14.lt
  have hlt13 := o13.lt
  have hlt7 := o7.lt
  have hms := hm.size
  refine range_wp (g0 := g0) (n0 := n0) rfl (enters_of Tryz.func48 (by kernel_rfl) rfl) (all_yields _ g0 n0 W.heap.size a bl n cap W hc0 (Nat.le_trans hn0 hms) (Nat.le_refl _) hAK Hn hcap hmax) (Below.refl _ _) (Nat.le_trans hn0 hms) hg0 (fun _ => rfl)
    (RunI W g14 mo) (RunX W g14 mo) (runI_own (Nat.le_refl _)) (fun c => runX_own (Nat.le_refl _) c) hI0 ?assign ?done ?stop
  case done =>
    rintro D zs W' hD hS2 hI hK
    have hz : zs.length = N := by
      have h1 := congrArg List.length (hS2.trans hS.out.symm)
      simpa [hN.out] using h1
    refine hQ D W' hD hI.k2 ?_ hK
    have h := hI.o14
    rw [hz] at h
    have hlt := hI.lt
    have e : min (max mo 1) N = N := by
      rcases hlt with rfl | hlt
      · have : N = 0 := hz.symm
        omega
      · omega
    rw [e]; exact h
  case stop =>
    rintro D c pre W' hD ⟨rest, hS2⟩ ⟨rfl, hk, ho, hl⟩ hK
    refine wpIn_exit ?_
    have hz : pre.length ≤ N := by
      have h1 := congrArg List.length (hS.out.trans hS2)
      simp [hN.out] at h1
      omega
    have e : min (max mo 1) N = pre.length := by omega
    exact hX _ _ (hQ D W' hD hk (by rw [e]; exact ho) hK)
  case assign =>
    rintro lp pre ⟨at', u, F⟩ V0 K hI ⟨hsc, hu, hty⟩ hlt hK
    dsimp only at hu hty
    clear hI0 hc0 hAK hQ
    obtain ⟨am, lm, cm, ap, lp', cp, rfl⟩ := hu.open
    have hst := run_store_float
    simp only [encHit]
    gi_wp2
    obtain ⟨V, hV, o16, hBV, hSV⟩ := boxes1 V0 27 [.int .u32 (F.seq : Int), .int .i64 F.point, .int .i64 F.source, .int .i64 F.turn, .float .f32 F.scale, .slice am lm cm, .slice ap lp' cp]
    have hkV : KeepsOthers V0 V := by rw [hV]; exact KeepsOthers.alloc _ _
    have hIV : RunI W g14 mo pre V := by rw [hV]; exact (runI_own (B := W.heap.size) (Nat.le_refl _)).alloc _ hI
    rw [← hV]
    clear hV
    refine hK _ V hkV (KeepG.of_below hBV) ?_
    rintro W2 ⟨hl1, o, o', ho, hoc, hW2⟩
    have hI2 := (runI_own (B := W.heap.size) (Nat.le_refl _)).putObj o' hIV hl1 ho hoc
    have o16 := own_cells o16 (grownBy_putObj' V lp o') (fun r e => by cases e; exact ⟨o, ho, hoc⟩)
    have hu2 := (hu.below hBV (Nat.le_refl _)).keepT (hty.below hBV (Nat.le_refl _)) (keepT_put (o' := o') ho hoc)
    rw [← hW2] at hI2 o16 hu2
    obtain ⟨hu2, -⟩ := hu2
    obtain ⟨k2, o14, hlm⟩ := hI2
    have hbm := k2.toBelow hm h14
    have o7 := k2.own o7 h7 (fun e => by cases e)
    have o13 := k2.own o13 h13 (fun e => by cases e)
    have hmk : ∃ x, xs[pre.length]? = some x ∧ hkey x = (at', F) := by
      obtain ⟨rest, e⟩ := hsc
      rw [← hS.out] at e
      have h1 := congrArg (fun l => l[pre.length]?) e
      simp only [List.getElem?_map] at h1
      rw [List.getElem?_append_right (by simp)] at h1
      simp only [List.length_map, Nat.sub_self, List.getElem?_cons_zero] at h1
      obtain ⟨x, hx, e⟩ := Option.map_eq_some_iff.1 h1
      exact ⟨x, hx, e⟩
    obtain ⟨⟨p, v, F'⟩, hx, hxk⟩ := hmk
    injection hxk with e1 e2
    dsimp only at e1 e2
    subst e1 e2
    have hiN : pre.length < N := by have := (List.getElem?_eq_some_iff.1 hx).1; have := hN.out; omega
    have hrx := (hht _ (List.mem_of_getElem? hx)).1
    dsimp only at hrx
    obtain ⟨bm, lm2, cm2, bp, lp2, cp2, rfl⟩ := hrx.open
    have hrx2 := hrx.below hbm (Nat.le_refl _)
    obtain ⟨gf, rfl, hcf⟩ := row_at (row_below hrf hbm) (by omega)
    have fc := fun j y hy => hcf (pre.length * 8 + j) y (flatMap_at (found_len hht) hx hy)
    have c0 := fc 0 _ rfl
    have c1 := fc 1 _ rfl
    have c2 := fc 2 _ rfl
    have c3 := fc 3 _ rfl
    have c4 := fc 4 _ rfl
    have c5 := fc 5 _ rfl
    have c6 := fc 6 _ rfl
    have c7 := fc 7 _ rfl
    rw [Nat.add_zero] at c0
    have hlen : (pre ++ [((p, (Value.agg #[.int .u32 (F'.seq : Int), .int .i64 F'.point, .int .i64 F'.source, .int .i64 F'.turn, .float .f32 F'.scale, .slice am lm cm, .slice ap lp' cp]), F') : Hit)]).length = pre.length + 1 := by simp
    have HLEN := Lib.hid hlen
    have hlm2 : pre.length = 0 ∨ pre.length < mo := by
      rcases hlm with h | h
      · left; rw [h]; rfl
      · exact .inr h
    have HLM := Lib.hid hlm2
    clear hlm2
    clear hcf fc hx hlen hlm hsc hK hkV hIV hI hW2 ho hoc hty hu hBV hSV
    generalize pre.length = i at *
    have fo16 := o16.free; have co160 := o16.cell 0 _ rfl; have co161 := o16.cell 1 _ rfl; have co162 := o16.cell 2 _ rfl; have co163 := o16.cell 3 _ rfl; have co164 := o16.cell 4 _ rfl; have co165 := o16.cell 5 _ rfl; have co166 := o16.cell 6 _ rfl
    have q7 := o7.cell 0 _ rfl
    have q14 := o14.cell 0 _ rfl
    have j1 : ((i : Int) ≥ (N : Int)) = False := by simp; omega
    have j2 : decide ((N : Int) ≤ (i : Int)) = false := by rw [decide_eq_false_iff_not]; omega
    have j3 : (i : Int) < (N : Int) := by omega
    have hS0 : (fun w' : World => w'.cell? ⟨g14, 0, none⟩ = some (.int .i64 (i : Int)) ∧ w'.cell? ⟨g7, 0, none⟩ = some (.slice (some ⟨gf, 0, none⟩) N cf) ∧ w'.cell? ⟨gf, i * 8, none⟩ = some (.int .i64 (p : Int)) ∧ w'.cell? ⟨V0.heap.size, 0, none⟩ = some (.int .u32 (F'.seq : Int)) ∧ w'.cell? ⟨V0.heap.size, 1, none⟩ = some (.int .i64 F'.point) ∧ w'.cell? ⟨V0.heap.size, 2, none⟩ = some (.int .i64 F'.source) ∧ w'.cell? ⟨V0.heap.size, 3, none⟩ = some (.int .i64 F'.turn) ∧ w'.cell? ⟨V0.heap.size, 4, none⟩ = some (.float .f32 F'.scale) ∧ w'.cell? ⟨V0.heap.size, 5, none⟩ = some (.slice am lm cm) ∧ w'.cell? ⟨V0.heap.size, 6, none⟩ = some (.slice ap lp' cp) ∧ w'.cell? ⟨gf, i * 8 + 1, none⟩ = some (.int .u32 (F'.seq : Int)) ∧ w'.cell? ⟨gf, i * 8 + 2, none⟩ = some (.int .i64 F'.point) ∧ w'.cell? ⟨gf, i * 8 + 3, none⟩ = some (.int .i64 F'.source) ∧ w'.cell? ⟨gf, i * 8 + 4, none⟩ = some (.int .i64 F'.turn) ∧ w'.cell? ⟨gf, i * 8 + 5, none⟩ = some (.float .f32 F'.scale) ∧ w'.cell? ⟨gf, i * 8 + 6, none⟩ = some (.slice bm lm2 cm2) ∧ w'.cell? ⟨gf, i * 8 + 7, none⟩ = some (.slice bp lp2 cp2)) W2.drew := ⟨q14, q7, c0, co160, co161, co162, co163, co164, co165, co166, c1, c2, c3, c4, c5, c6, c7⟩
    clear co160 co161 co162 co163 co164 co165 co166 fo16 c0 c1 c2 c3 c4 c5 c6 c7 q7 q14
    gi_wp2
    refine region_round_lit (S := (fun w' : World => w'.cell? ⟨g14, 0, none⟩ = some (.int .i64 (i : Int)) ∧ w'.cell? ⟨g7, 0, none⟩ = some (.slice (some ⟨gf, 0, none⟩) N cf) ∧ w'.cell? ⟨gf, i * 8, none⟩ = some (.int .i64 (p : Int)) ∧ w'.cell? ⟨V0.heap.size, 0, none⟩ = some (.int .u32 (F'.seq : Int)) ∧ w'.cell? ⟨V0.heap.size, 1, none⟩ = some (.int .i64 F'.point) ∧ w'.cell? ⟨V0.heap.size, 2, none⟩ = some (.int .i64 F'.source) ∧ w'.cell? ⟨V0.heap.size, 3, none⟩ = some (.int .i64 F'.turn) ∧ w'.cell? ⟨V0.heap.size, 4, none⟩ = some (.float .f32 F'.scale) ∧ w'.cell? ⟨V0.heap.size, 5, none⟩ = some (.slice am lm cm) ∧ w'.cell? ⟨V0.heap.size, 6, none⟩ = some (.slice ap lp' cp) ∧ w'.cell? ⟨gf, i * 8 + 1, none⟩ = some (.int .u32 (F'.seq : Int)) ∧ w'.cell? ⟨gf, i * 8 + 2, none⟩ = some (.int .i64 F'.point) ∧ w'.cell? ⟨gf, i * 8 + 3, none⟩ = some (.int .i64 F'.source) ∧ w'.cell? ⟨gf, i * 8 + 4, none⟩ = some (.int .i64 F'.turn) ∧ w'.cell? ⟨gf, i * 8 + 5, none⟩ = some (.float .f32 F'.scale) ∧ w'.cell? ⟨gf, i * 8 + 6, none⟩ = some (.slice bm lm2 cm2) ∧ w'.cell? ⟨gf, i * 8 + 7, none⟩ = some (.slice bp lp2 cp2))) 23 #[false, false, false, false, false, false, false, false, false, false, false, false, false, false, false, false, false, false, false, false, false, false, false] rfl rfl (by kernel_rfl) (by kernel_rfl) ?hL hS0 (fun hHeld => ?_)
    case hL => rintro ⟨_, _, h⟩; exact h
    clear hS0
    refine take_at (v := ?v0) 0 108 rfl rfl (by kernel_rfl) (by kernel_rfl) (by kernel_rfl) (fun _ _ _ h => h) (by rfl) ?hy0 (by assumption) ?rest0
    case hy0 => (intro w' hSw; (try dsimp only at hSw); go_simp; try with_reducible rfl)
    simp only [Act.put, List.setIfInBounds_toArray, List.set_cons_zero, List.set_cons_succ]
    refine take_at (v := ?v1) 1 109 rfl rfl (by kernel_rfl) (by kernel_rfl) (by kernel_rfl) (fun _ _ _ h => h) (by rfl) ?hy1 (by assumption) ?rest1
    case hy1 => (intro w' hSw; (try dsimp only at hSw); go_simp; try with_reducible rfl)
    simp only [Act.put, List.setIfInBounds_toArray, List.set_cons_zero, List.set_cons_succ]
    refine take_at (v := ?v2) 2 110 rfl rfl (by kernel_rfl) (by kernel_rfl) (by kernel_rfl) (fun _ _ _ h => h) (by rfl) ?hy2 (by assumption) ?rest2
    case hy2 => (intro w' hSw; (try dsimp only at hSw); go_simp; try with_reducible rfl)
    simp only [Act.put, List.setIfInBounds_toArray, List.set_cons_zero, List.set_cons_succ]
    refine take_at (v := ?v3) 3 111 rfl rfl (by kernel_rfl) (by kernel_rfl) (by kernel_rfl) (fun _ _ _ h => h) (by rfl) ?hy3 (by assumption) ?rest3
    case hy3 => (intro w' hSw; (try dsimp only at hSw); go_simp; try with_reducible rfl)
    simp only [Act.put, List.setIfInBounds_toArray, List.set_cons_zero, List.set_cons_succ]
    refine take_at (v := ?v4) 4 112 rfl rfl (by kernel_rfl) (by kernel_rfl) (by kernel_rfl) (fun _ _ _ h => h) (by rfl) ?hy4 (by assumption) ?rest4
    case hy4 => (intro w' hSw; (try dsimp only at hSw); go_simp; try with_reducible rfl)
    simp only [Act.put, List.setIfInBounds_toArray, List.set_cons_zero, List.set_cons_succ]
    refine take_at (v := ?v5) 5 113 rfl rfl (by kernel_rfl) (by kernel_rfl) (by kernel_rfl) (fun _ _ _ h => h) (by rfl) ?hy5 (by assumption) ?rest5
    case hy5 => (intro w' hSw; (try dsimp only at hSw); go_simp; try with_reducible rfl)
    simp only [Act.put, List.setIfInBounds_toArray, List.set_cons_zero, List.set_cons_succ]
    refine take_at (v := ?v6) 6 114 rfl rfl (by kernel_rfl) (by kernel_rfl) (by kernel_rfl) (fun _ _ _ h => h) (by rfl) ?hy6 (by assumption) ?rest6
    case hy6 => (intro w' hSw; (try dsimp only at hSw); go_simp; try with_reducible rfl)
    simp only [Act.put, List.setIfInBounds_toArray, List.set_cons_zero, List.set_cons_succ]
    refine take_at (v := ?v7) 7 115 rfl rfl (by kernel_rfl) (by kernel_rfl) (by kernel_rfl) (fun _ _ _ h => h) (by rfl) ?hy7 (by assumption) ?rest7
    case hy7 => (intro w' hSw; (try dsimp only at hSw); go_simp; try with_reducible rfl)
    simp only [Act.put, List.setIfInBounds_toArray, List.set_cons_zero, List.set_cons_succ]
    refine take_at (v := ?v8) 8 116 rfl rfl (by kernel_rfl) (by kernel_rfl) (by kernel_rfl) (fun _ _ _ h => h) (by rfl) ?hy8 (by assumption) ?rest8
    case hy8 => (intro w' hSw; (try dsimp only at hSw); go_simp; try with_reducible rfl)
    simp only [Act.put, List.setIfInBounds_toArray, List.set_cons_zero, List.set_cons_succ]
    refine take_at (v := ?v9) 9 117 rfl rfl (by kernel_rfl) (by kernel_rfl) (by kernel_rfl) (fun _ _ _ h => h) (by rfl) ?hy9 (by assumption) ?rest9
    case hy9 => (intro w' hSw; (try dsimp only at hSw); go_simp; try with_reducible rfl)
    simp only [Act.put, List.setIfInBounds_toArray, List.set_cons_zero, List.set_cons_succ]
    refine take_at (v := ?v10) 10 118 rfl rfl (by kernel_rfl) (by kernel_rfl) (by kernel_rfl) (fun _ _ _ h => h) (by rfl) ?hy10 (by assumption) ?rest10
    case hy10 => (intro w' hSw; (try dsimp only at hSw); go_simp; try with_reducible rfl)
    simp only [Act.put, List.setIfInBounds_toArray, List.set_cons_zero, List.set_cons_succ]
    refine take_at (v := ?v11) 11 119 rfl rfl (by kernel_rfl) (by kernel_rfl) (by kernel_rfl) (fun _ _ _ h => h) (by rfl) ?hy11 (by assumption) ?rest11
    case hy11 => (intro w' hSw; (try dsimp only at hSw); go_simp; try with_reducible rfl)
    simp only [Act.put, List.setIfInBounds_toArray, List.set_cons_zero, List.set_cons_succ]
    refine take_at (v := ?v12) 12 120 rfl rfl (by kernel_rfl) (by kernel_rfl) (by kernel_rfl) (fun _ _ _ h => h) (by rfl) ?hy12 (by assumption) ?rest12
    case hy12 => (intro w' hSw; (try dsimp only at hSw); go_simp; try with_reducible rfl)
    simp only [Act.put, List.setIfInBounds_toArray, List.set_cons_zero, List.set_cons_succ]
    refine take_at (v := ?v13) 13 121 rfl rfl (by kernel_rfl) (by kernel_rfl) (by kernel_rfl) (fun _ _ _ h => h) (by rfl) ?hy13 (by assumption) ?rest13
    case hy13 => (intro w' hSw; (try dsimp only at hSw); go_simp; try with_reducible rfl)
    simp only [Act.put, List.setIfInBounds_toArray, List.set_cons_zero, List.set_cons_succ]
    refine take_at (v := ?v14) 14 122 rfl rfl (by kernel_rfl) (by kernel_rfl) (by kernel_rfl) (fun _ _ _ h => h) (by rfl) ?hy14 (by assumption) ?rest14
    case hy14 => (intro w' hSw; (try dsimp only at hSw); go_simp; try with_reducible rfl)
    simp only [Act.put, List.setIfInBounds_toArray, List.set_cons_zero, List.set_cons_succ]
    refine take_at (v := ?v15) 15 123 rfl rfl (by kernel_rfl) (by kernel_rfl) (by kernel_rfl) (fun _ _ _ h => h) (by rfl) ?hy15 (by assumption) ?rest15
    case hy15 => (intro w' hSw; (try dsimp only at hSw); go_simp; try with_reducible rfl)
    simp only [Act.put, List.setIfInBounds_toArray, List.set_cons_zero, List.set_cons_succ]
    refine take_at (v := ?v16) 16 124 rfl rfl (by kernel_rfl) (by kernel_rfl) (by kernel_rfl) (fun _ _ _ h => h) (by rfl) ?hy16 (by assumption) ?rest16
    case hy16 => (intro w' hSw; (try dsimp only at hSw); go_simp; try with_reducible rfl)
    simp only [Act.put, List.setIfInBounds_toArray, List.set_cons_zero, List.set_cons_succ]
    refine take_at (v := ?v17) 17 125 rfl rfl (by kernel_rfl) (by kernel_rfl) (by kernel_rfl) (fun _ _ _ h => h) (by rfl) ?hy17 (by assumption) ?rest17
    case hy17 => (intro w' hSw; (try dsimp only at hSw); go_simp; try with_reducible rfl)
    simp only [Act.put, List.setIfInBounds_toArray, List.set_cons_zero, List.set_cons_succ]
    refine take_at (v := ?v18) 18 126 rfl rfl (by kernel_rfl) (by kernel_rfl) (by kernel_rfl) (fun _ _ _ h => h) (by rfl) ?hy18 (by assumption) ?rest18
    case hy18 => (intro w' hSw; (try dsimp only at hSw); go_simp; try with_reducible rfl)
    simp only [Act.put, List.setIfInBounds_toArray, List.set_cons_zero, List.set_cons_succ]
    refine take_at (v := ?v19) 19 127 rfl rfl (by kernel_rfl) (by kernel_rfl) (by kernel_rfl) (fun _ _ _ h => h) (by rfl) ?hy19 (by assumption) ?rest19
    case hy19 => (intro w' hSw; (try dsimp only at hSw); go_simp; try with_reducible rfl)
    simp only [Act.put, List.setIfInBounds_toArray, List.set_cons_zero, List.set_cons_succ]
    have hb0 : Below W2.heap.size W2 W2.drew := (Below.refl _ _).drew
    have hr1 := hu2.below hb0 (Nat.le_refl _)
    have hr2 := hrx2.below hb0 (Nat.le_refl _)
    refine wpAnyH_ready (rs := [20]) (by kernel_rfl) (by simp) ?_
    refine AllReadyH.cons (o := _) rfl (fun K hK => ?_) AllReadyH.nil
    go_simp
    go_at_call 21
    refine (sameFrames_yes _ _ F' W2.drew hr1 hr2).mono ?_
    rintro e W5 ⟨_, rfl, rfl, hb5⟩
    have hS5 : (fun w' : World => w'.cell? ⟨g14, 0, none⟩ = some (.int .i64 (i : Int)) ∧ w'.cell? ⟨g7, 0, none⟩ = some (.slice (some ⟨gf, 0, none⟩) N cf) ∧ w'.cell? ⟨gf, i * 8, none⟩ = some (.int .i64 (p : Int)) ∧ w'.cell? ⟨V0.heap.size, 0, none⟩ = some (.int .u32 (F'.seq : Int)) ∧ w'.cell? ⟨V0.heap.size, 1, none⟩ = some (.int .i64 F'.point) ∧ w'.cell? ⟨V0.heap.size, 2, none⟩ = some (.int .i64 F'.source) ∧ w'.cell? ⟨V0.heap.size, 3, none⟩ = some (.int .i64 F'.turn) ∧ w'.cell? ⟨V0.heap.size, 4, none⟩ = some (.float .f32 F'.scale) ∧ w'.cell? ⟨V0.heap.size, 5, none⟩ = some (.slice am lm cm) ∧ w'.cell? ⟨V0.heap.size, 6, none⟩ = some (.slice ap lp' cp) ∧ w'.cell? ⟨gf, i * 8 + 1, none⟩ = some (.int .u32 (F'.seq : Int)) ∧ w'.cell? ⟨gf, i * 8 + 2, none⟩ = some (.int .i64 F'.point) ∧ w'.cell? ⟨gf, i * 8 + 3, none⟩ = some (.int .i64 F'.source) ∧ w'.cell? ⟨gf, i * 8 + 4, none⟩ = some (.int .i64 F'.turn) ∧ w'.cell? ⟨gf, i * 8 + 5, none⟩ = some (.float .f32 F'.scale) ∧ w'.cell? ⟨gf, i * 8 + 6, none⟩ = some (.slice bm lm2 cm2) ∧ w'.cell? ⟨gf, i * 8 + 7, none⟩ = some (.slice bp lp2 cp2)) W5 := by
      have hc : ∀ {a : Addr} {v : Value}, W2.drew.cell? a = some v → W5.cell? a = some v := fun {a v} h => (hb5.cell (World.block_lt_of_cell? W2.drew _ h)).trans h
      obtain ⟨h0, h1, h2, h3, h4, h5, h6, h7, h8, h9, h10, h11, h12, h13, h14, h15, h16⟩ := hHeld
      exact ⟨hc h0, hc h1, hc h2, hc h3, hc h4, hc h5, hc h6, hc h7, hc h8, hc h9, hc h10, hc h11, hc h12, hc h13, hc h14, hc h15, hc h16⟩
    refine hK.out _ _ hS5 (fun hHeld5 => ?_)
    clear hK K hHeld hS5 hr1 hr2
    refine take_at (v := ?v21) 21 129 rfl rfl (by kernel_rfl) (by kernel_rfl) (by kernel_rfl) (fun _ _ _ h => h) (by rfl) ?hy21 (by assumption) ?rest21
    case hy21 => (intro w' hSw; (try dsimp only at hSw); go_simp; try with_reducible rfl)
    simp only [Act.put, List.setIfInBounds_toArray, List.set_cons_zero, List.set_cons_succ]
    refine take_at (v := ?v22) 22 130 rfl rfl (by kernel_rfl) (by kernel_rfl) (by kernel_rfl) (fun _ _ _ h => h) (by rfl) ?hy22 (by assumption) ?rest22
    case hy22 => (intro w' hSw; (try dsimp only at hSw); go_simp; try with_reducible rfl)
    simp only [Act.put, List.setIfInBounds_toArray, List.set_cons_zero, List.set_cons_succ]
    refine wpAnyH_done (by kernel_rfl) ?_ _
    clear hHeld5
    have hb5 : Below W2.heap.size W2 W5 := hb0.trans hb5
    have p14 := o14.below hb5 o14.lt
    have p13 := o13.below hb5 o13.lt
    have fp14 := p14.free; have cp140 := p14.cell 0 _ rfl
    have fp13 := p13.free; have cp130 := p13.cell 0 _ rfl
    have hko : KeepsOthers W2 W5 := KeepsOthers.of_grownBy (row := none) (grown_of_below hb5 none) (fun j ob e _ => by cases e)
    have hkg : KeepG n0 g0 W2 W5 := KeepG.of_below hb5
    have hk5 : Kept2 g14 none W W5 := k2.trans (kept2_below hb5)
    clear o14 o13 o7 hu2 hrx hrx2 hbm k2
    have hk6 : Kept2 g14 none W (W5.setCell ⟨g14, 0, none⟩ (.int .i64 ((i : Int) + 1))) := hk5.trans (kept2_of (grown_refl _ _))
    have ho6 : Own (W5.setCell ⟨g14, 0, none⟩ (.int .i64 ((i : Int) + 1))) 3 g14 [.int .i64 (((i + 1 : Nat)) : Int)] := by
      rw [show ((i + 1 : Nat) : Int) = (i : Int) + 1 by omega]
      exact p14.set 0 _
    rw [← HLEN.out] at ho6
    have hko6 := hko.trans (KeepsOthers.setCell W5 ⟨g14, 0, none⟩ (.int .i64 ((i : Int) + 1)))
    have hkg6 := hkg.trans (KeepG.setCell W5 (p := ⟨g14, 0, none⟩) (n0 := n0) (g := g0) (by show n0 ≤ g14; omega) (fun e => h0 e.symm) (.int .i64 ((i : Int) + 1)))
    have hor := HLM.out
    by_cases hmi : mo ≤ i + 1
    · have m1 : decide ((mo : Int) ≤ (i : Int) + 1) = true := by rw [decide_eq_true_eq]; omega
      gi_wp2
      exact ⟨hko6, rfl, hk6, ho6, by rw [HLEN.out]; omega⟩
    · have m1 : decide ((mo : Int) ≤ (i : Int) + 1) = false := by rw [decide_eq_false_iff_not]; omega
      gi_wp2
      exact ⟨hko6, hkg6, hk6, ho6, .inr (by rw [HLEN.out]; omega)⟩
end Go.Proofs.YtohnlmfmpflbpaaGreat
