/- record.Encode. Conditions: none. Rows of a call's own: kept, far, below. Conditions: none. append of one element to a row of one's own. Conditions: none. -/
import Derived.Test.YtfkogkcpndaoeaaGreatMRec
import Derived.Laws.Cover3
import Derived.Deep.AppendLies
set_option linter.all false
namespace Go.Proofs.YtfkogkcpndaoeaaGreat
open Go.RowKit
def u16n (x : Int) : Nat := (x % 65536).toNat
theorem u16n_lt (x : Int) : u16n x < 65536 := by unfold u16n; omega
theorem u16n_cast (x : Int) : IntKind.u16.wrap x = (u16n x : Int) := by rw [u16_wrap]; unfold u16n; omega
def encHead (f : Fr) : List UInt8 :=
  [87, 86, UInt8.ofNat f.pairs.length, UInt8.ofNat f.source.toNat] ++ be32 f.seq ++ be16 f.point.toNat ++ [UInt8.ofNat f.turn.toNat, 0] ++ be32 f.scale
def Pr.list (p : Pr) : List Int := [p.a0, p.a1, p.b0, p.b1]
def be16s (l : List Int) : List UInt8 := l.flatMap fun x => be16 (u16n x)
def encAt (x : Int × Pr) : List UInt8 := be16 (u16n x.1) ++ be16s x.2.list
def encPairs (l : List (Int × Pr)) : List UInt8 := l.flatMap encAt
def encBody (f : Fr) : List UInt8 := encHead f ++ encPairs (f.mates.zip f.pairs)
def enc (f : Fr) : List UInt8 := encBody f ++ be16 (crc (encBody f))
theorem encAt_length (x : Int × Pr) : (encAt x).length = 10 := rfl
theorem encPairs_length (l : List (Int × Pr)) : (encPairs l).length = 10 * l.length := by
  unfold encPairs
  induction l with
  | nil => rfl
  | cons x t ih => rw [List.flatMap_cons, List.length_append, ih, encAt_length, List.length_cons]; omega
theorem encHead_length (f : Fr) : (encHead f).length = 16 := rfl
theorem encPairs_snoc {l : List (Int × Pr)} {k : Nat} {x : Int × Pr} (h : l[k]? = some x) : encPairs (l.take (k + 1)) = encPairs (l.take k) ++ encAt x := by
  rw [take_snoc' h]; simp [encPairs]
where take_snoc' {l : List (Int × Pr)} {k : Nat} {x : Int × Pr} (h : l[k]? = some x) : l.take (k + 1) = l.take k ++ [x] := by rw [List.take_add_one, h]; rfl
theorem be16s_snoc {l : List Int} {k : Nat} {x : Int} (h : l[k]? = some x) : be16s (l.take (k + 1)) = be16s (l.take k) ++ be16 (u16n x) := by
  rw [List.take_add_one, h]; simp [be16s]
theorem be16s_length (l : List Int) : (be16s l).length = 2 * l.length := by
  unfold be16s
  induction l with
  | nil => rfl
  | cons x t ih => rw [List.flatMap_cons, List.length_append, ih, be16_length, List.length_cons]; omega
theorem ownB_new (w : World) (cs : Array Value) (l : List UInt8) (n : Nat) (hc : cs = (l.map byteV).toArray) (hn : l.length = n) (h : n ≤ 9223372036854775807) (h0 : 0 < n) : OwnB (w.alloc (.cells cs 5)) w.heap.size (.slice (some ⟨w.heap.size, 0, none⟩) n n) l := by
  subst hc hn
  refine ⟨by simp, .inr ⟨w.heap.size, l.length, _, rfl, Nat.le_refl _, own_new w 5 (l.map byteV), Nat.le_refl _, by unfold maxLen; exact h, by simp, ?_⟩⟩
  rw [Nat.mul_one, List.take_of_length_le (by simp)]
theorem OwnB.base {w : World} {b c : Nat} {v : Value} {l : List UInt8} (h : OwnB w b v l) (hb : c ≤ b) : OwnB w c v l := by
  obtain ⟨h1, h2⟩ := h
  refine ⟨h1, ?_⟩
  rcases h2 with h2 | ⟨g, cap, cur, e, hg, r⟩
  · exact .inl h2
  · exact .inr ⟨g, cap, cur, e, Nat.le_trans hb hg, r⟩
theorem run_fb32 (b : Nat) (w : World) : (callFunc 12 #[.float .f32 b]).run Tryz.prog w = .ok (.value (.int .u32 (b : Int))) w := by
  rw [run_callFunc_extern (fn := Tryz.f12) (e := Extern.MathFloatBits.float32bits) (by kernel_rfl) (by kernel_rfl) (by kernel_rfl) (by kernel_rfl) (by kernel_rfl)]
  rfl
theorem Fr.valid_iff {f : Fr} : f.valid = true ↔ (1 ≤ f.pairs.length ∧ f.pairs.length ≤ 8) ∧ f.mates.length = f.pairs.length ∧ (0 ≤ f.point ∧ f.point ≤ 1023) ∧ (1 ≤ f.source ∧ f.source ≤ f.pairs.length) ∧ (0 ≤ f.turn ∧ f.turn ≤ 63) ∧ scaleOK f.scale = true ∧ badMates f.mates = false := by
  unfold Fr.valid inR
  simp only [Bool.and_eq_true, decide_eq_true_eq, Bool.not_eq_true']
  constructor
  · rintro ⟨⟨⟨⟨⟨⟨h1, h2⟩, h3⟩, h4⟩, h5⟩, h6⟩, h7⟩
    exact ⟨by omega, by omega, h3, h4, h5, h6, h7⟩
  · rintro ⟨h1, h2, h3, h4, h5, h6, h7⟩
    exact ⟨⟨⟨⟨⟨⟨by omega, by omega⟩, h3⟩, h4⟩, h5⟩, h6⟩, h7⟩
theorem badMates_at {l : List Int} (h : badMates l = false) {k : Nat} {x : Int} (hx : l[k]? = some x) : 0 ≤ x ∧ x ≤ 65535 := by
  unfold badMates at h
  rw [List.any_eq_false] at h
  have := h x (List.mem_of_getElem? hx)
  simpa [inR] using this
theorem SlP.at {w : World} {a : Option Addr} {n c : Nat} {l : List Pr} (h : SlP w (.slice a n c) l) {i : Nat} {p : Pr} (hi : l[i]? = some p) :
    ∃ b o, a = some ⟨b, o, none⟩ ∧ w.cell? ⟨b, o + i * 4, none⟩ = some (.int .i16 p.a0) ∧ w.cell? ⟨b, o + i * 4 + 1, none⟩ = some (.int .i16 p.a1) ∧ w.cell? ⟨b, o + i * 4 + 2, none⟩ = some (.int .i16 p.b0) ∧ w.cell? ⟨b, o + i * 4 + 3, none⟩ = some (.int .i16 p.b1) := by
  obtain ⟨a', n', c', e, _, _, _, hc⟩ := h.any
  injection e with e _ _
  subst e
  exact hc.out i p hi
theorem Sl.at {w : World} {a : Option Addr} {n c : Nat} {l : List Value} (h : Sl w (.slice a n c) l) {i : Nat} {x : Value} (hi : l[i]? = some x) :
    ∃ b o, a = some ⟨b, o, none⟩ ∧ w.cell? ⟨b, o + i, none⟩ = some x := by
  obtain ⟨a', n', c', e, _, _, _, hc⟩ := h.any
  injection e with e _ _
  subst e
  exact hc.out i x hi
theorem OwnB.bytes {w : World} {b n c : Nat} {a : Option Addr} {l : List UInt8} (h : OwnB w b (.slice a n c) l) : BytesA w a l := fun i x hx => by
  obtain ⟨_, h2⟩ := h
  rcases h2 with ⟨_, h⟩ | ⟨g, cap, cur, e, _, hgc, _, _, _, htk⟩
  · rw [List.eq_nil_of_length_eq_zero h] at hx; simp at hx
  · injection e with e _ _
    subst e
    refine ⟨g, 0, rfl, ?_⟩
    rw [Nat.zero_add]
    have hi : i < l.length := (List.getElem?_eq_some_iff.1 hx).1
    have e2 : (l.map byteV)[i]? = some (.int .u8 ((x.toNat : Nat) : Int)) := by rw [List.getElem?_map, hx]; rfl
    rw [← htk, Nat.mul_one, List.getElem?_take_of_lt hi] at e2
    simp only [World.cell?, hgc]
    simpa using e2
def RetE (w : World) (l : List UInt8) (e : Ending) (w' : World) : Prop := ∃ v', e = .returned (.tuple #[v', .int .i64 0]) ∧ OwnB w' w.heap.size v' l ∧ Below w.heap.size w w'
set_option maxRecDepth 100000 in
set_option maxHeartbeats 1600000 in
theorem encode_yes (v : Value) (f : Fr) (w : World) (h : FrRep w v f) (hv : f.valid = true) :
    Calls Tryz.prog 31 #[v] w (RetE w (enc f)) := by
  obtain ⟨⟨hn1, hn2⟩, hml, ⟨hp1, hp2⟩, ⟨hs1, hs2⟩, ⟨ht1, ht2⟩, hsc, hbm⟩ := Fr.valid_iff.1 hv
  have H := Lib.hid hv
  have Hml := Lib.hid hml
  have Hbm := Lib.hid hbm
  clear hv hml hbm hsc
  obtain ⟨vm, vp, rfl, hm, hp, hok⟩ := h
  obtain ⟨am, lm, cm, rfl, Hlm, hcm, hmm, hcelm⟩ := hm.any
  obtain ⟨ap, lp, cp, rfl, Hlp, hcp, hmp, hcelp⟩ := hp.any
  obtain rfl : lp = lm := by have h1 := Hlm.out; have := Hlp.out; have := Hml.out; rw [List.length_map] at h1; omega
  have hf : FrRep w _ f := ⟨_, _, rfl, hm, hp, hok⟩
  have hrun := run_fb32
  go_enter Tryz.func31, Tryz.ntmps31
  go_upto_region 1 with (fail)
  obtain ⟨W, hW, o1, hB, hS⟩ := boxes1 w 92 [.int .u32 (f.seq : Int), .int .i64 f.point, .int .i64 f.source, .int .i64 f.turn, .float .f32 f.scale, .slice am lp cm, .slice ap lp cp]
  rw [← hW]
  clear hW
  have hfW := hf.below hB (Nat.le_refl _)
  have fo1 := o1.free; have co10 := o1.cell 0 _ rfl; have co11 := o1.cell 1 _ rfl; have co12 := o1.cell 2 _ rfl; have co13 := o1.cell 3 _ rfl; have co14 := o1.cell 4 _ rfl; have co15 := o1.cell 5 _ rfl; have co16 := o1.cell 6 _ rfl
  go_wp2_with fail
  refine (valid_spec _ f W hfW).mono ?_
  rintro e W1 ⟨_, rfl, rfl, hb1⟩
  rw [H.out]
  clear co10 co11 co12 co13 co14 co15 co16 fo1
  have hsW1 : W.heap.size ≤ W1.heap.size := hb1.size; have hB := hB.trans (hb1.mono hB.size); have o1 := o1.below hb1 o1.lt; have fo1 := o1.free; have co10 := o1.cell 0 _ rfl; have co11 := o1.cell 1 _ rfl; have co12 := o1.cell 2 _ rfl; have co13 := o1.cell 3 _ rfl; have co14 := o1.cell 4 _ rfl; have co15 := o1.cell 5 _ rfl; have co16 := o1.cell 6 _ rfl
  have hlp1 : 1 ≤ lp := by have := Hlp.out; omega
  have hlp8 : lp ≤ 8 := by have := Hlp.out; omega
  have hs2 : f.source ≤ (lp : Int) := by have := Hlp.out; omega
  go_upto_region 4 with (fail)
  have ow : OwnB (W1.alloc (.cells #[.int .u8 87, .int .u8 86, .int .u8 (lp : Int), .int .u8 f.source] 5)) W1.heap.size (.slice (some ⟨W1.heap.size, 0, none⟩) 4 4) [87, 86, UInt8.ofNat f.pairs.length, UInt8.ofNat f.source.toNat] := by
    refine ownB_new _ _ _ _ ?_ rfl (by omega) (by omega)
    simp only [List.map, byteV]
    rw [ofNat_val (by omega), ofNat_val (by omega), Hlp.out, Int.toNat_of_nonneg (by omega)]
    rfl
  have hK : KeptB W1.heap.size W1 (W1.alloc (.cells #[.int .u8 87, .int .u8 86, .int .u8 (lp : Int), .int .u8 f.source] 5)) := (KeptB.refl _ _).alloc _
  have hz2 : W1.heap.size ≤ (W1.alloc (.cells #[.int .u8 87, .int .u8 86, .int .u8 (lp : Int), .int .u8 f.source] 5)).heap.size := hK.size
  clear co10 co11 co12 co13 co14 co15 co16 fo1
  generalize W1.alloc (.cells #[.int .u8 87, .int .u8 86, .int .u8 (lp : Int), .int .u8 f.source] 5) = W2 at *
  have o2 := hK.own o1 (by decide)
  have fo2 := o2.free; have co20 := o2.cell 0 _ rfl; have co21 := o2.cell 1 _ rfl; have co22 := o2.cell 2 _ rfl; have co23 := o2.cell 3 _ rfl; have co24 := o2.cell 4 _ rfl; have co25 := o2.cell 5 _ rfl; have co26 := o2.cell 6 _ rfl
  go_wp2_with fail
  refine (four_spec W1.heap.size _ _ f.seq W2 ow hz2 (by simp) hok.seq).mono ?_
  rintro e W3 ⟨v3, rfl, ow3, hk3⟩
  have o3 := hk3.own o2 (by decide); have hK := hK.trans hk3; have hz3 := Nat.le_trans hz2 hk3.size; clear co20 co21 co22 co23 co24 co25 co26 fo2; have fo3 := o3.free; have co30 := o3.cell 0 _ rfl; have co31 := o3.cell 1 _ rfl; have co32 := o3.cell 2 _ rfl; have co33 := o3.cell 3 _ rfl; have co34 := o3.cell 4 _ rfl; have co35 := o3.cell 5 _ rfl; have co36 := o3.cell 6 _ rfl
  go_wp2_with fail
  refine (two_spec' W1.heap.size _ _ f.point.toNat _ W3 (by omega) ow3 hz3 (by simp [be32_length]) (by omega)).mono ?_
  rintro e W4 ⟨v4, rfl, ow4, hk4⟩
  have o4 := hk4.own o3 (by decide); have hK := hK.trans hk4; have hz4 := Nat.le_trans hz3 hk4.size; clear co30 co31 co32 co33 co34 co35 co36 fo3; have fo4 := o4.free; have co40 := o4.cell 0 _ rfl; have co41 := o4.cell 1 _ rfl; have co42 := o4.cell 2 _ rfl; have co43 := o4.cell 3 _ rfl; have co44 := o4.cell 4 _ rfl; have co45 := o4.cell 5 _ rfl; have co46 := o4.cell 6 _ rfl
  go_wp2_with (at_builtin; go_must (refine append_bytes2 W4 rfl (.tmp 29) (.tmp 33) _ rfl Tryz.underlying86 W1.heap.size _ _ (UInt8.ofNat f.turn.toNat) 0 _ _ (by rw [ofNat_val (by omega)]; omega) (by simp) rfl rfl ow4 (by simp [be32_length, be16_length]) hz4 ?_); intro v5 W5 ow5 hg5; have hk5 := KeptB.grown hg5 ow4; have o5 := hk5.own o4 (by decide); have hK := hK.trans hk5; have hz5 := Nat.le_trans hz4 hk5.size; clear co40 co41 co42 co43 co44 co45 co46 fo4; have fo5 := o5.free; have co50 := o5.cell 0 _ rfl; have co51 := o5.cell 1 _ rfl; have co52 := o5.cell 2 _ rfl; have co53 := o5.cell 3 _ rfl; have co54 := o5.cell 4 _ rfl; have co55 := o5.cell 5 _ rfl; have co56 := o5.cell 6 _ rfl)
  refine (four_spec W1.heap.size _ _ f.scale W5 ow5 hz5 (by simp [be32_length, be16_length]) hok.scale).mono ?_
  rintro e W6 ⟨v6, rfl, ow6, hk6⟩
  have o6 := hk6.own o5 (by decide); have hK := hK.trans hk6; have hz6 := Nat.le_trans hz5 hk6.size; clear co50 co51 co52 co53 co54 co55 co56 fo5; have fo6 := o6.free; have co60 := o6.cell 0 _ rfl; have co61 := o6.cell 1 _ rfl; have co62 := o6.cell 2 _ rfl; have co63 := o6.cell 3 _ rfl; have co64 := o6.cell 4 _ rfl; have co65 := o6.cell 5 _ rfl; have co66 := o6.cell 6 _ rfl
  have ow6 : OwnB W6 W1.heap.size v6 (encHead f) := ow6
  have hl6 := encHead_length f
  have Hl6 := Lib.hid hl6
  clear hl6 ow ow3 ow4 ow5 hk3 hk4 hk5 hk6
  generalize hhd : encHead f = hd at *
  have Hhd := Lib.hid hhd
  clear hhd
  go_wp2_with fail
  clear co60 co61 co62 co63 co64 co65 co66 fo6 hg5
  go_loopw [4, 43] (fun bv iv wr => ∃ k : Nat, k ≤ lp ∧ iv = .int .i64 (k : Int) ∧ OwnB wr W1.heap.size bv (hd ++ encPairs ((f.mates.zip f.pairs).take k)) ∧ KeptB W1.heap.size W1 wr) (fun _ i _ => lp - (intOf i).toNat)
  case atStart => exact ⟨0, Nat.zero_le _, rfl, by simpa [encPairs] using ow6, hK⟩
  case round =>
    clear ow6 hK hz6
    obtain ⟨k, hk, rfl, ow, hK⟩ := hrel
    have hz := hK.size
    have o7 := hK.own o1 (by decide)
    by_cases hlt : k < lp
    · obtain ⟨p, hpk⟩ : ∃ p, f.pairs[k]? = some p := ⟨_, List.getElem?_eq_getElem (by have := Hlp.out; omega)⟩
      obtain ⟨m, hmk⟩ : ∃ m, f.mates[k]? = some m := ⟨_, List.getElem?_eq_getElem (by have := Hlp.out; have := Hml.out; omega)⟩
      have hx : (f.mates.zip f.pairs)[k]? = some (m, p) := by rw [List.getElem?_zip_eq_some]; exact ⟨hmk, hpk⟩
      have hBr := hB.trans ((hK.below (Nat.le_refl _)).mono hB.size)
      obtain ⟨bp, op, rfl, q0, q1, q2, q3⟩ := (hp.below hBr (Nat.le_refl _)).at hpk
      obtain ⟨bm, om, rfl, q4⟩ := (hm.below hBr (Nat.le_refl _)).at (i := k) (x := i64v m) (by simp [hmk])
      unfold i64v at q4
      have hm2 := badMates_at Hbm.out hmk
      have hpo := hok.pairs p (List.mem_of_getElem? hpk)
      have HX := Lib.hid hx
      have Hpo := Lib.hid hpo
      obtain ⟨hm2, hm3⟩ := hm2
      clear hpk hmk hx hpo
      have fo7 := o7.free; have co70 := o7.cell 0 _ rfl; have co71 := o7.cell 1 _ rfl; have co72 := o7.cell 2 _ rfl; have co73 := o7.cell 3 _ rfl; have co74 := o7.cell 4 _ rfl; have co75 := o7.cell 5 _ rfl; have co76 := o7.cell 6 _ rfl
      go_upto_region 11 with (fail)
      obtain ⟨V, hV, ob, hBV, hSV⟩ := boxes1 wr 145 [.int .i16 p.a0, .int .i16 p.a1, .int .i16 p.b0, .int .i16 p.b1]
      rw [← hV]
      clear hV co70 co71 co72 co73 co74 co75 co76 fo7 q0 q1 q2 q3
      replace q4 := (hBV.cell (p := ⟨bm, om + k, none⟩) (World.block_lt_of_cell? wr _ q4)).trans q4
      have owV := ow.below hBV
      have hKV : KeptB W1.heap.size W1 V := hK.trans (KeptB.of_below hBV)
      generalize wr.heap.size = gp at *
      have o8 := o7.below hBV (by have := o1.lt; have := hK.size; omega)
      have hz8 := hKV.size
      have fo8 := o8.free; have co80 := o8.cell 0 _ rfl; have co81 := o8.cell 1 _ rfl; have co82 := o8.cell 2 _ rfl; have co83 := o8.cell 3 _ rfl; have co84 := o8.cell 4 _ rfl; have co85 := o8.cell 5 _ rfl; have co86 := o8.cell 6 _ rfl
      go_wp2_with fail
      have hlen : (hd ++ encPairs ((f.mates.zip f.pairs).take k)).length ≤ 96 := by
        rw [List.length_append, encPairs_length, Hl6.out, List.length_take]; omega
      generalize hL : hd ++ encPairs ((f.mates.zip f.pairs).take k) = L at *
      have HL := Lib.hid hL
      clear hL ow
      refine (two_spec' W1.heap.size _ L (u16n m) _ V (by unfold u16n; omega) owV hz8 (by omega) (u16n_lt m)).mono ?_
      rintro e W9 ⟨v9, rfl, ow9, hk9⟩
      have ob := hk9.own ob (by decide)
      have hKV := hKV.trans hk9
      clear co80 co81 co82 co83 co84 co85 co86 fo8 q4 o8 hk9 owV
      have fob := ob.free; have cob0 := ob.cell 0 _ rfl; have cob1 := ob.cell 1 _ rfl; have cob2 := ob.cell 2 _ rfl; have cob3 := ob.cell 3 _ rfl
      go_wp2_with fail
      go_loopw [4, 69] (fun bv iv wi => ∃ j : Nat, j ≤ 4 ∧ iv = .int .i64 (j : Int) ∧ OwnB wi W1.heap.size bv ((L ++ be16 (u16n m)) ++ be16s (p.list.take j)) ∧ KeptB W1.heap.size W1 wi) (fun _ i _ => 4 - (intOf i).toNat)
      case atStart => exact ⟨0, Nat.zero_le _, rfl, by simpa [be16s] using ow9, hKV⟩
      case round =>
        clear ow9 hKV cob0 cob1 cob2 cob3 fob ob
        obtain ⟨j, hj, rfl, ow, hKj⟩ := hrel
        have hzj := hKj.size
        by_cases hj4 : j < 4
        · obtain ⟨x, hx⟩ : ∃ x, p.list[j]? = some x := ⟨_, List.getElem?_eq_getElem (by simpa [Pr.list] using hj4)⟩
          have hidx : ∀ w, (Instr.index 146 (.agg #[.int .i16 p.a0, .int .i16 p.a1, .int .i16 p.b0, .int .i16 p.b1]) (.int .i64 (j : Int))).run Tryz.prog w = .ok (.int .i16 x) w := by
            intro w
            rcases (show j = 0 ∨ j = 1 ∨ j = 2 ∨ j = 3 by omega) with rfl | rfl | rfl | rfl
            all_goals
              simp only [Pr.list, List.getElem?_cons_zero, List.getElem?_cons_succ, Option.some.injEq] at hx
              subst hx
              kernel_rfl
          have hx16 : I16 x := by
            obtain ⟨h1, h2, h3, h4⟩ := Hpo.out
            have := List.mem_of_getElem? hx
            simp only [Pr.list, List.mem_cons, List.not_mem_nil, or_false] at this
            rcases this with rfl | rfl | rfl | rfl <;> assumption
          have hsn := be16s_snoc hx
          have Hsn := Lib.hid hsn
          have hbl := be16s_length (p.list.take j)
          have hbl2 : (be16s (p.list.take j)).length ≤ 8 := by rw [hbl, List.length_take]; omega
          clear hsn hbl hx
          go_wp2_with fail
          refine (two_spec' W1.heap.size _ _ (u16n x) _ wr (u16n_cast x) ow hzj (by rw [List.length_append, List.length_append, be16_length]; omega) (u16n_lt x)).mono ?_
          rintro e Wj ⟨vj, rfl, owj, hkj⟩
          rw [List.append_assoc, ← Hsn.out] at owj
          clear ow hidx
          go_wp2_with fail
          go_roundw
          case rel => exact ⟨j + 1, by omega, by go_num, owj, hKj.trans hkj⟩
          case measure => simp [intOf]; omega
        · obtain rfl : j = 4 := by omega
          have hfin : (L ++ be16 (u16n m)) ++ be16s (p.list.take 4) = hd ++ encPairs ((f.mates.zip f.pairs).take (k + 1)) := by
            rw [encPairs_snoc HX.out, ← List.append_assoc, HL.out, List.append_assoc]; rfl
          rw [hfin] at ow
          clear hfin
          go_wp2_with fail
          go_roundw
          case rel => exact ⟨k + 1, by omega, by go_num, ow, hKj⟩
          case measure => simp [intOf]; omega
    · obtain rfl : k = lp := by omega
      rw [List.take_of_length_le (by rw [List.length_zip, Hml.out, Hlp.out]; omega)] at ow
      obtain ⟨ab, cb, rfl, hcb1, hcb2⟩ := ow.shape
      have hbl : (hd ++ encPairs (f.mates.zip f.pairs)).length ≤ 96 := by
        rw [List.length_append, encPairs_length, Hl6.out, List.length_zip, Hml.out, Hlp.out]; omega
      have hbs := ow.bytes
      generalize hL : hd ++ encPairs (f.mates.zip f.pairs) = L at *
      have HL := Lib.hid hL
      obtain ⟨nl, hnl⟩ : ∃ nl, L.length = nl := ⟨_, rfl⟩
      rw [hnl] at hcb1 hbl ⊢
      have Hnl := Lib.hid hnl
      have ow' : OwnB wr W1.heap.size (.slice ab nl cb) L := hnl ▸ ow
      clear hL hnl ow
      go_wp2_with fail
      refine (sum_spec ab L nl cb wr hbs Hnl hcb1 hcb2).mono ?_
      rintro e w' ⟨rfl, rfl⟩
      go_wp2_with fail
      refine (two_spec W1.heap.size _ L (crc L) wr ow' hz (by have := Hnl.out; omega) (crc_lt L)).mono ?_
      rintro e w' ⟨vz, rfl, owz, hkz⟩
      go_wp2_with fail
      go_ret2
      exact ⟨vz, rfl, by unfold enc encBody; rw [Hhd.out, HL.out]; exact owz.base hB.size, hB.trans (((hK.trans hkz).below (Nat.le_refl _)).mono hB.size)⟩
end Go.Proofs.YtfkogkcpndaoeaaGreat
namespace Go.Proofs.YtfkogkcpndaoeaaGreat
open Go.RowKit
def byteAt (l : List UInt8) (i : Nat) : Nat := (l.getD i 0).toNat
theorem byteAt_get {l : List UInt8} {i : Nat} {x : UInt8} (h : l[i]? = some x) : x.toNat = byteAt l i := by unfold byteAt; rw [List.getD_eq_getElem?_getD, h]; rfl
theorem Own.grown {w w' : World} {E : TypeId} {g g' : Nat} {cs : List Value} (h : Own w E g cs) (hg : w.grownBy w' (some g')) (hne : g ≠ g') : Own w' E g cs := by
  have hl := h.lt
  unfold Own at *
  rw [hg.block g hl (fun e => hne (Option.some.inj e))]; exact h
theorem Own.keptRow {w w' : World} {E : TypeId} {g base n size : Nat} {T : TypeId} {cs xs : List Value} {v : Value} (h : Own w E g cs) (hr : w.ownsRow base T size v n xs) (hg : w.grownBy w' v.ownBlock) (hb : g < base) : Own w' E g cs := by
  have hl := h.lt
  unfold Own at *
  rw [hg.block g hl (fun e => by have := (hr.lt g e.symm).1; omega)]; exact h
theorem below_row {w w' : World} {B base n size : Nat} {T : TypeId} {xs : List Value} {v : Value} {a : World} (h : Below B a w) (hr : w.ownsRow base T size v n xs) (hg : w.grownBy w' v.ownBlock) (hb : B ≤ base) (hw : B ≤ w.heap.size) : Below B a w' :=
  h.grown hg hw (fun j hj => Nat.le_trans hb (hr.lt j hj).1)
theorem row_ne {w : World} {b1 b2 s1 s2 n1 n2 : Nat} {T1 T2 : TypeId} {v1 v2 : Value} {x1 x2 : List Value} (h1 : w.ownsRow b1 T1 s1 v1 n1 x1) (h2 : w.ownsRow b2 T2 s2 v2 n2 x2) (h : T1 ≠ T2) : v1.ownBlock = none ∨ v1.ownBlock ≠ v2.ownBlock := by
  rcases h1.2 with ⟨rfl, _⟩ | ⟨g, cap, cur, rfl, _, hg, _⟩
  · exact .inl rfl
  · refine .inr fun e => ?_
    rcases h2.2 with ⟨rfl, _⟩ | ⟨g', cap', cur', rfl, _, hg', _⟩
    · simp [Value.ownBlock] at e
    · have : g = g' := by simpa [Value.ownBlock] using e
      subst this
      rw [hg] at hg'
      simp only [Option.some.injEq, Obj.cells.injEq] at hg'
      exact h hg'.2.1
theorem Own.far {w : World} {E : TypeId} {g g' i : Nat} {cs : List Value} {u : Value} (h : Own w E g cs) (hne : g' ≠ g) : Own (w.setCell ⟨g', i, none⟩ u) E g cs := h.other (a := ⟨g', i, none⟩) hne u
theorem row_below {w w' : World} {base n size : Nat} {T : TypeId} {xs : List Value} {v : Value} (h : w.ownsRow base T size v n xs) (hb : Below w.heap.size w w') : w'.ownsRow base T size v n xs :=
  World.ownsRow.kept h (grown_of_below hb none) (by cases v.ownBlock <;> simp)
theorem BytesA.cell {w : World} {a : Option Addr} {l : List UInt8} (h : BytesA w a l) {i : Nat} (hi : i < l.length) : ∃ b o, a = some ⟨b, o, none⟩ ∧ w.cell? ⟨b, o + i, none⟩ = some (.int .u8 (byteAt l i : Int)) := by
  obtain ⟨b, o, e, hc⟩ := h i _ (List.getElem?_eq_getElem hi)
  exact ⟨b, o, e, by rw [hc, byteAt_get (List.getElem?_eq_getElem hi)]⟩
theorem BytesA.below {B : Nat} {w w' : World} {a : Option Addr} {l : List UInt8} (h : BytesA w a l) (hb : Below B w w') (hB : w.heap.size ≤ B) : BytesA w' a l := fun i x hx => by
  obtain ⟨b, o, e, hc⟩ := h i x hx
  exact ⟨b, o, e, (hb.cell (Nat.lt_of_lt_of_le (World.block_lt_of_cell? w _ hc) hB)).trans hc⟩
end Go.Proofs.YtfkogkcpndaoeaaGreat
namespace Go.Proofs.YtfkogkcpndaoeaaGreat
open Go.RowKit
theorem append_oneL {ops : Array Oper} {rest : List Oper} {o : Oper} {a : Act} {Q : Exit → Act → World → Prop} (W : World) (hgd : o.guard = none) (s x : Operand) (t e : TypeId) (z : Value) (size bytes : Nat)
    (ho : o.op = .call { callee := .builtin .append, args := #[s, x], argTypes := #[t, t] }) (ht : Tryz.prog.underlying t = some (.slice e)) (hinfo : (Tryz.prog.info? e).map (fun i => (i.zero, i.size, i.bytes)) = some (some z, size, bytes)) (hzs : z.cells.size = size) (hsz : 0 < size) (hby : bytes ≤ 1000)
    (base : Nat) (v : Value) (n : Nat) (xs cs : List Value) (hs : a.eval s = v) (hO : (W.alloc (.cells cs.toArray e)).ownsRow base e size v n xs) (hx : a.eval x = .slice (some ⟨W.heap.size, 0, none⟩) 1 1) (hcs : cs.length = size) (h1 : ∀ u ∈ cs, u.oneCell' = true) (hn : n < 1000000) (hbase : base ≤ W.heap.size)
    (K : ∀ g cap w', w'.ownsRow base e size (.slice (some ⟨g, 0, none⟩) (n + 1) cap) (n + 1) (xs ++ cs) → (W.alloc (.cells cs.toArray e)).grownBy w' v.ownBlock → (v.ownBlock = some g ∨ g = (W.alloc (.cells cs.toArray e)).heap.size) → wpList Tryz.prog ops Q rest (a.put o.dst (.slice (some ⟨g, 0, none⟩) (n + 1) cap)) w') :
    wpList Tryz.prog ops Q (o :: rest) a (W.alloc (.cells cs.toArray e)) := by
  obtain ⟨i0, hi, hz0, hz1, hz2⟩ := info_parts hinfo
  exact wpList_append_lies _ hgd s x t ho base e i0 z size bytes ht hi hz0 hz1 hz2 hzs hsz v n xs hs hO ⟨W.heap.size, 0, none⟩ 1 1 cs hx (by omega)
    (fun j u hj => by rw [Addr.add_lit, Nat.zero_add]; exact (own_new W e cs).cell j u hj) h1 (by omega) (by unfold maxLen; omega) (by have : (n + 1) * bytes ≤ 1000000 * 1000 := Nat.mul_le_mul (by omega) hby; omega) (by simp; omega) _ rfl (fun g cap w' h1 h2 h3 _ => K g cap w' h1 h2 h3)
end Go.Proofs.YtfkogkcpndaoeaaGreat
