/- What Decode has collected is a frame. Conditions: none. The two drawn regions of Decode's loop. Conditions: none. -/
import Derived.Test.YtohnlmfmpflbpaaGreatMDecA
import Derived.Test.YtohnlmfmpflbpaaGreatMRegion
import Derived.Deep.RegionLaw
set_option linter.unusedSimpArgs false
set_option linter.unusedVariables false
set_option linter.all false
namespace Go.Proofs.YtohnlmfmpflbpaaGreat
open Go.RowKit

theorem row_below {w w' : World} {base n size : Nat} {T : TypeId} {xs : List Value} {v : Value} (h : w.ownsRow base T size v n xs) (hb : Below w.heap.size w w') : w'.ownsRow base T size v n xs :=
  World.ownsRow.kept h (grown_of_below hb none) (by cases v.ownBlock <;> simp)
theorem row7 {w : World} {base n size g : Nat} {T : TypeId} {xs : List Value} {v v0 v1 v2 v3 v4 v5 v6 : Value} (h : w.ownsRow base T size v n xs) (hg : g < base) : (((((((w.setCell ⟨g, 0, none⟩ v0).setCell ⟨g, 1, none⟩ v1).setCell ⟨g, 2, none⟩ v2).setCell ⟨g, 3, none⟩ v3).setCell ⟨g, 4, none⟩ v4).setCell ⟨g, 5, none⟩ v5).setCell ⟨g, 6, none⟩ v6).ownsRow base T size v n xs :=
  row_far (row_far (row_far (row_far (row_far (row_far (row_far h hg) hg) hg) hg) hg) hg) hg

theorem row_sl {w : World} {base n : Nat} {T : TypeId} {xs : List Value} {v : Value} (h : w.ownsRow base T 1 v n xs) : Sl w v xs := by
  have hl := h.1
  rcases h.2 with ⟨rfl, h0⟩ | ⟨g, cap, cur, rfl, hb, hg, hc, hm, hs, ht⟩
  · exact .inl ⟨rfl, List.eq_nil_of_length_eq_zero (by omega)⟩
  · rw [Nat.mul_one] at hl
    refine .inr ⟨g, 0, cap, by rw [hl], by omega, hm, fun i hi => ?_⟩
    have := h.cells (g := g) rfl i xs[i] (List.getElem?_eq_getElem hi)
    rw [Addr.add_lit] at this
    exact this

theorem flat_get {l : List Pr} {i j : Nat} {p : Pr} {x : Value} (hp : l[i]? = some p) (hx : p.cells[j]? = some x) : (l.flatMap Pr.cells)[i * 4 + j]? = some x := by
  have hj : j < 4 := by have := (List.getElem?_eq_some_iff.1 hx).1; exact this
  induction l generalizing i with
  | nil => simp at hp
  | cons q t ih =>
    rw [List.flatMap_cons]
    cases i with
    | zero =>
      simp only [List.getElem?_cons_zero, Option.some.injEq] at hp
      subst hp
      rw [List.getElem?_append_left (by show _ < 4; omega), Nat.zero_mul, Nat.zero_add]
      exact hx
    | succ i =>
      rw [List.getElem?_cons_succ] at hp
      rw [List.getElem?_append_right (by show 4 ≤ _; omega)]
      show (List.flatMap Pr.cells t)[(i + 1) * 4 + j - 4]? = _
      rw [show (i + 1) * 4 + j - 4 = i * 4 + j by omega]
      exact ih hp
theorem flat_length (l : List Pr) : (l.flatMap Pr.cells).length = 4 * l.length := by
  induction l with
  | nil => rfl
  | cons q t ih => rw [List.flatMap_cons, List.length_append, ih, List.length_cons]; show 4 + _ = _; omega

theorem row_slp {w : World} {base n : Nat} {T : TypeId} {l : List Pr} {v : Value} (h : w.ownsRow base T 4 v n (l.flatMap Pr.cells)) : SlP w v l := by
  have hl := h.1
  rw [flat_length] at hl
  rcases h.2 with ⟨rfl, h0⟩ | ⟨g, cap, cur, rfl, hb, hg, hc, hm, hs, ht⟩
  · exact .inl ⟨rfl, List.eq_nil_of_length_eq_zero (by omega)⟩
  · have hn : n = l.length := by omega
    subst hn
    refine .inr ⟨g, 0, cap, rfl, hc, hm, fun i p hi j x hx => ?_⟩
    have := h.cells (g := g) rfl (i * 4 + j) x (flat_get hi hx)
    rw [Addr.add_lit] at this
    simpa [Nat.add_assoc] using this

theorem decFr_ok (l : List UInt8) : (decFr l).ok := by
  have h1 := longAt_lt l 4
  have h2 := longAt_lt l 12
  have h3 := wordAt_lt l 8
  have h4 := byteAt_lt l 3
  have h5 := byteAt_lt l 10
  constructor
  · exact h1
  · show I64 (wordAt l 8 : Int); unfold I64; omega
  · show I64 (byteAt l 3 : Int); unfold I64; omega
  · show I64 (byteAt l 10 : Int); unfold I64; omega
  · exact h2
  · intro x hx
    obtain ⟨i, _, rfl⟩ := List.mem_map.1 hx
    have := wordAt_lt l (16 + 10 * i)
    unfold I64; omega
  · intro p hp
    obtain ⟨i, _, rfl⟩ := List.mem_map.1 hp
    exact ⟨s16_ok (wordAt_lt _ _), s16_ok (wordAt_lt _ _), s16_ok (wordAt_lt _ _), s16_ok (wordAt_lt _ _)⟩

theorem dec_rep {w : World} {l : List UInt8} {base : Nat} {vm vp : Value} (hm : w.ownsRow base 3 1 vm (byteAt l 2) (mts l (byteAt l 2))) (hp : w.ownsRow base 90 4 vp (byteAt l 2) (prs l (byteAt l 2))) :
    FrRep w (.agg #[.int .u32 (longAt l 4 : Int), .int .i64 (wordAt l 8 : Int), .int .i64 (byteAt l 3 : Int), .int .i64 (byteAt l 10 : Int), .float .f32 (longAt l 12), vm, vp]) (decFr l) := by
  refine ⟨vm, vp, rfl, ?_, ?_, decFr_ok l⟩
  · have e : (decFr l).mates.map i64v = mts l (byteAt l 2) := by simp [decFr, mts, i64v]
    rw [e]; exact row_sl hm
  · have e : (decFr l).pairs.flatMap Pr.cells = prs l (byteAt l 2) := by simp [decFr, prs, List.flatMap_map]
    exact row_slp (by rw [e]; exact hp)

theorem dec_one {l : List UInt8} {w : World} (h : decErr l = if byteAt l 11 ≠ 0 ∨ (decFr l).valid = false then 1 else 0) (h1 : byteAt l 11 ≠ 0 ∨ (decFr l).valid = false) :
    DecPost l w (.tuple #[.agg #[.int .u32 0, .int .i64 0, .int .i64 0, .int .i64 0, .float .f32 0, .slice none 0 0, .slice none 0 0], .int .i64 0, .int .i64 1]) :=
  dec_bad (e := 1) (by rw [h, if_pos h1]) (by omega)
theorem dec_zero {l : List UInt8} {w : World} {u : Value} {N : Nat} (hN : N = headLen l) (h : decErr l = if byteAt l 11 ≠ 0 ∨ (decFr l).valid = false then 1 else 0) (h1 : byteAt l 11 = 0) (h2 : (decFr l).valid = true) (hu : FrRep w u (decFr l)) :
    DecPost l w (.tuple #[u, .int .i64 (N : Int), .int .i64 0]) := by
  have e : decErr l = 0 := by rw [h, if_neg (by rw [h2]; simp [h1])]
  unfold DecPost
  rw [if_pos e, if_pos e, e, ← hN]
  exact ⟨u, rfl, hu⟩
end Go.Proofs.YtohnlmfmpflbpaaGreat

namespace Go.Proofs.YtohnlmfmpflbpaaGreat
open Go.RowKit

noncomputable def region14 : Code := (Tryz.f49.body.bind (findRegion 14)).getD .skip
noncomputable def region15 : Code := (Tryz.f49.body.bind (findRegion 15)).getD .skip

set_option maxRecDepth 100000 in
set_option maxHeartbeats 6400000 in
theorem reg14 (l : List UInt8) (a : Option Addr) (n cap g1 g3 base k : Nat) (w0 w : World) {R : Act → World → Prop} {u0 u1 u2 u3 u4 u5 u6 u8 u10 u12 u13 u14 u15 u16 u17 u18 u19 u20 u21 u22 u23 u24 u25 u26 u27 u28 u29 u30 u31 u32 u33 u34 u35 u36 u37 u38 u39 u40 u41 u42 u43 u44 u45 u46 u47 u48 u49 u50 u51 u52 u53 u54 u55 u56 u57 u58 u59 u60 u61 u62 u63 u64 u65 u66 u67 u68 u69 u70 u71 u72 u73 u74 u75 u76 u77 u78 u79 u80 u81 u82 u83 u84 u85 u86 u87 u88 u89 u90 u91 u92 u93 u94 u95 : Value}
    (hI : DecInv w0 l a n cap g1 g3 base k k w) (h13 : g1 + 1 < g3) (h3 : g3 + 1 < base)
    (hA : BytesA w a l) (Hn : Hid (l.length = n)) (hk : k < 256) (hi : 16 + 10 * k + 9 < n) (hn : n ≤ 9223372036854775807)
    (hQ : ∀ (w' : World) (x47 x48 x49 x50 x51 x52 x53 x54 x55 : Value), DecInv w0 l a n cap g1 g3 base (k + 1) k w' → R ⟨List.toArray (u0 :: u1 :: u2 :: u3 :: u4 :: u5 :: u6 :: .func (.func 76) #[] #[.pointer (some ⟨g1, 0, none⟩)] :: u8 :: .pointer (some ⟨g3 + 1, 0, none⟩) :: u10 :: .int .i64 (16 + 10 * (k : Int)) :: u12 :: u13 :: u14 :: u15 :: u16 :: u17 :: u18 :: u19 :: u20 :: u21 :: u22 :: u23 :: u24 :: u25 :: u26 :: u27 :: u28 :: u29 :: u30 :: u31 :: u32 :: u33 :: u34 :: u35 :: u36 :: u37 :: u38 :: u39 :: u40 :: u41 :: u42 :: u43 :: u44 :: u45 :: u46 :: x47 :: x48 :: x49 :: x50 :: x51 :: x52 :: x53 :: x54 :: x55 :: u56 :: u57 :: u58 :: u59 :: u60 :: u61 :: u62 :: u63 :: u64 :: u65 :: u66 :: u67 :: u68 :: u69 :: u70 :: u71 :: u72 :: u73 :: u74 :: u75 :: u76 :: u77 :: u78 :: u79 :: u80 :: u81 :: u82 :: u83 :: u84 :: u85 :: u86 :: u87 :: u88 :: u89 :: u90 :: u91 :: u92 :: u93 :: u94 :: u95 :: []), []⟩ w') :
    Code.wp Tryz.prog region14 (Only R) ⟨List.toArray (u0 :: u1 :: u2 :: u3 :: u4 :: u5 :: u6 :: .func (.func 76) #[] #[.pointer (some ⟨g1, 0, none⟩)] :: u8 :: .pointer (some ⟨g3 + 1, 0, none⟩) :: u10 :: .int .i64 (16 + 10 * (k : Int)) :: u12 :: u13 :: u14 :: u15 :: u16 :: u17 :: u18 :: u19 :: u20 :: u21 :: u22 :: u23 :: u24 :: u25 :: u26 :: u27 :: u28 :: u29 :: u30 :: u31 :: u32 :: u33 :: u34 :: u35 :: u36 :: u37 :: u38 :: u39 :: u40 :: u41 :: u42 :: u43 :: u44 :: u45 :: u46 :: u47 :: u48 :: u49 :: u50 :: u51 :: u52 :: u53 :: u54 :: u55 :: u56 :: u57 :: u58 :: u59 :: u60 :: u61 :: u62 :: u63 :: u64 :: u65 :: u66 :: u67 :: u68 :: u69 :: u70 :: u71 :: u72 :: u73 :: u74 :: u75 :: u76 :: u77 :: u78 :: u79 :: u80 :: u81 :: u82 :: u83 :: u84 :: u85 :: u86 :: u87 :: u88 :: u89 :: u90 :: u91 :: u92 :: u93 :: u94 :: u95 :: []), []⟩ w := by
  conv => arg 2; whnf
  obtain ⟨vm, vp, hbx, hm, hp, hbs⟩ := hI
  have o1 := hbx.o1
  have o4 := hbx.o4
  obtain ⟨am, cm, rfl⟩ : ∃ am cm, vm = .slice am k cm := by
    rcases hm.2 with ⟨h, h0⟩ | ⟨g, cap, cur, h, _⟩
    · exact ⟨none, 0, by rw [h, h0]⟩
    · exact ⟨_, _, h⟩
  have hfin := fun (wa : World) (vm' : Value) (hg : w.grownBy wa (Value.slice am k cm).ownBlock) (hma : wa.ownsRow base 3 1 vm' (k + 1) (mts l (k + 1))) => inv14 hbx hm hp hbs h13 h3 hg hma
  have HF := Lib.hid hfin
  have hmn := mts_succ l k
  have HM := Lib.hid hmn
  have c10 := o1.cell 0 _ rfl
  have hg4 : g3 + 1 < base := h3
  have hw := fun w' (h1 : w'.cell? ⟨g1, 0, none⟩ = some (.slice a n cap)) (h2 : BytesA w' a l) => word_spec' g1 a l n cap (16 + 10 * k) (16 + 10 * (k : Int)) w' (by omega) h1 h2 Hn (by omega) hn
  have HW := Lib.hid hw
  clear hw hfin hmn hbx
  have hw8 := wordAt_lt l (16 + 10 * k)
  generalize wordAt l (16 + 10 * k) = z at *
  have hwz : IntKind.i64.wrap (z : Int) = (z : Int) := IntWalk.i64_in _ (by omega)
  generalize g3 + 1 = g4 at *
  have c45 := o4.cell 5 _ rfl
  have f4 := o4.free
  go_region_law (first
    | (go_simp; go_at_call 76; refine (HW.out w.drew c10 hA).mono ?_; rintro e W1 ⟨rfl, kk, hW1⟩; have o41 : Own W1 27 g4 [.int .u32 (longAt l 4 : Int), .int .i64 (wordAt l 8 : Int), .int .i64 (byteAt l 3 : Int), .int .i64 (byteAt l 10 : Int), .float .f32 (longAt l 12), .slice am k cm, vp] := (by rw [hW1]; exact o4); have c45 := o41.cell 5 _ rfl; have f4 := o41.free; have hm1 : W1.ownsRow base 3 1 (.slice am k cm) k (mts l k) := (by rw [hW1]; exact hm); have hz1 : w.heap.size = W1.heap.size := (by rw [hW1]; rfl); have hg1 : w.grownBy W1 (Value.slice am k cm).ownBlock := (by rw [hW1]; exact grown_drewN (grown_drew (grown_refl _ _)) _); have hl4 := o41.lt; clear hW1)
    | (refine step_app_int _ rfl (.tmp 48) (.tmp 53) rfl base (.slice am k cm) k _ (by rfl) (World.ownsRow.alloc hm1 _) W1.heap.size z (by rfl) ((own_new W1 3 [.int .i64 (z : Int)]).cell 0 _ rfl) (by omega) (by simp; omega) ?_; intro ga ca wa hma hga; have o42 := Own.keptRow (o41.alloc _) (World.ownsRow.alloc hm1 _) hga hg4; have f42 := o42.free; have c42 := o42.cell 5 _ rfl))
  all_goals
    show R _ _
    refine hQ _ _ _ _ _ _ _ _ _ _ ?_
    exact HF.out wa _ (grown_trans hg1 (grown_trans (World.grownBy_alloc _ _ _) hga)) (by rw [HM.out]; exact hma)
end Go.Proofs.YtohnlmfmpflbpaaGreat
