/- record.inRange, slices.ContainsFunc at the mates' test. Conditions: none. Frames: what it means that a value is a frame; record.Valid. Conditions: none. record.two, record.four: bytes behind a slice. Conditions: the slice is the call's own. -/
import Derived.Test.YtfkogkcpndaoeaaGreatMBase
import Derived.Test.YtfkogkcpndaoeaaGreatMDec
import Derived.Test.YtfkogkcpndaoeaaGreatMSum
import Derived.Deep.DeepCutAuto
import Derived.Deep.RegionWith
import Derived.StillTailTactics
import Derived.Deep.CutBlock
import Derived.RegionTactic
import Derived.BigRegion
import Derived.Deep.RegionHeld3
import Derived.Outline
set_option linter.all false
namespace Go.Proofs.YtfkogkcpndaoeaaGreat
open Go.RowKit
def inR (x lo hi : Int) : Bool := decide (lo ≤ x ∧ x ≤ hi)
set_option maxHeartbeats 400000 in
theorem inRange_spec (x lo hi : Int) (w : World) :
    Calls Tryz.prog 125 #[.int .i64 x, .int .i64 lo, .int .i64 hi] w (fun e w' => e = .returned (.bool (inR x lo hi)) ∧ w = w') := by
  by_cases h1 : lo ≤ x
  · by_cases h2 : x ≤ hi
    · have h : inR x lo hi = true := by simp [inR, h1, h2]
      have H := Lib.hid h
      clear h
      go_enter Tryz.func125, Tryz.ntmps125
      go_wp2
      go_ret
      exact ⟨by rw [H.out]; first | rfl | simp [h2], rfl⟩
    · have h : inR x lo hi = false := by simp [inR, h2]
      have H := Lib.hid h
      clear h
      go_enter Tryz.func125, Tryz.ntmps125
      go_wp2
      go_ret
      exact ⟨by rw [H.out]; first | rfl | simp [h2], rfl⟩
  · have h : inR x lo hi = false := by simp [inR, h1]
    have H := Lib.hid h
    clear h
    go_enter Tryz.func125, Tryz.ntmps125
    go_wp2
    go_ret
    exact ⟨by rw [H.out]; rfl, rfl⟩
theorem wrong_spec (x : Int) (w : World) :
    Calls Tryz.prog 126 #[.int .i64 x] w (fun e w' => e = .returned (.bool (!inR x 0 65535)) ∧ w = w') := by
  go_enter Tryz.func126, Tryz.ntmps126
  go_wp2_with fail
  refine (inRange_spec x 0 65535 w).mono ?_
  rintro e w' ⟨rfl, rfl⟩
  go_wp2_with fail
  go_ret
  exact ⟨rfl, rfl⟩
def i64v (x : Int) : Value := .int .i64 x
def badMates (l : List Int) : Bool := l.any fun x => !inR x 0 65535
theorem badMates_snoc {l : List Int} {k : Nat} {x : Int} (h : l[k]? = some x) : badMates (l.take (k + 1)) = (badMates (l.take k) || !inR x 0 65535) := by
  rw [List.take_add_one, h]; simp [badMates]
theorem badMates_of {l : List Int} {k : Nat} {x : Int} (h : l[k]? = some x) (hx : (!inR x 0 65535) = true) : badMates l = true := by
  unfold badMates
  rw [List.any_eq_true]
  exact ⟨x, List.mem_of_getElem? h, hx⟩
theorem Sl.any {w : World} {v : Value} {xs : List Value} (h : Sl w v xs) :
    ∃ (a : Option Addr) (len cap : Nat), v = .slice a len cap ∧ Hid (xs.length = len) ∧ len ≤ cap ∧ cap ≤ 9223372036854775807 ∧ Hid (∀ i x, xs[i]? = some x → ∃ b o, a = some ⟨b, o, none⟩ ∧ w.cell? ⟨b, o + i, none⟩ = some x) := by
  rcases h with ⟨rfl, rfl⟩ | ⟨b, o, cap, rfl, h2, h3, h4⟩
  · exact ⟨none, 0, 0, rfl, rfl, Nat.le_refl _, by omega, fun i x hx => by simp at hx⟩
  · refine ⟨_, xs.length, cap, rfl, rfl, h2, by unfold maxLen at h3; exact h3, fun i x hx => ⟨b, o, rfl, ?_⟩⟩
    obtain ⟨hi, rfl⟩ := List.getElem?_eq_some_iff.1 hx
    exact h4 i hi
def IdxPost (l : List Int) (w : World) (e : Ending) (w' : World) : Prop := (∃ r : Int, e = .returned (.int .i64 r) ∧ (decide (0 ≤ r) = badMates l)) ∧ w = w'
set_option maxHeartbeats 800000 in
theorem indexFunc_spec (v : Value) (l : List Int) (w : World) (h : Sl w v (l.map i64v)) :
    Calls Tryz.prog 171 #[v, .func (.func 126) #[] #[]] w (IdxPost l w) := by
  obtain ⟨a, len, cap, rfl, Hlen, hcap, hmax, Hc⟩ := h.any
  clear h
  go_enter Tryz.func171, Tryz.ntmps171
  go_wp2_with fail
  go_loop [8] (fun iv => ∃ k : Nat, k ≤ len ∧ iv = .int .i64 (k : Int) ∧ Hid (badMates (l.take k) = false)) (fun i => len - (intOf i).toNat)
  case atStart => exact ⟨0, Nat.zero_le _, rfl, rfl⟩
  case round =>
    obtain ⟨k, hk, rfl, He⟩ := hrel
    by_cases hlt : k < len
    · obtain ⟨x, hx⟩ : ∃ x, l[k]? = some x := ⟨_, List.getElem?_eq_getElem (by have := Hlen.out; simp at this; omega)⟩
      obtain ⟨b, o, rfl, hc⟩ := Hc.out k (i64v x) (by simp [hx])
      unfold i64v at hc
      have HX := Lib.hid hx
      clear hx
      cases hin : inR x 0 65535
      · have hb := Lib.hid (badMates_of HX.out (by rw [hin]; rfl))
        go_wp2_with (refine (wrong_spec x w).mono ?_; rintro e w' ⟨rfl, rfl⟩)
        go_ret
        exact ⟨⟨_, rfl, by rw [hb.out]; simp⟩, rfl⟩
      · have hb := badMates_snoc HX.out
        rw [He.out, hin] at hb
        have hb := Lib.hid hb
        go_wp2_with (refine (wrong_spec x w).mono ?_; rintro e w' ⟨rfl, rfl⟩)
        go_round
        case rel => exact ⟨k + 1, by omega, by go_num, hb⟩
        case measure => simp [intOf]; omega
    · obtain rfl : k = len := by omega
      have hb : badMates l = false := by
        have h := He.out
        rw [List.take_of_length_le (by have := Hlen.out; simp at this; omega)] at h
        exact h
      have hb := Lib.hid hb
      go_wp2_with fail
      go_ret
      exact ⟨⟨_, rfl, by rw [hb.out]; rfl⟩, rfl⟩
theorem containsFunc_spec (v : Value) (l : List Int) (w : World) (h : Sl w v (l.map i64v)) :
    Calls Tryz.prog 127 #[v, .func (.func 126) #[] #[]] w (fun e w' => e = .returned (.bool (badMates l)) ∧ w = w') := by
  go_enter Tryz.func127, Tryz.ntmps127
  go_wp2_with fail
  refine (indexFunc_spec v l w h).mono ?_
  rintro e w' ⟨⟨r, rfl, hr⟩, rfl⟩
  have hr := Lib.hid hr
  go_wp2_with fail
  go_ret
  exact ⟨by rw [← hr.out]; rfl, rfl⟩
end Go.Proofs.YtfkogkcpndaoeaaGreat
namespace Go.Proofs.YtfkogkcpndaoeaaGreat
open Go.RowKit
structure Pr where
  a0 : Int
  a1 : Int
  b0 : Int
  b1 : Int
deriving DecidableEq
structure Fr where
  seq : Nat
  point : Int
  source : Int
  turn : Int
  scale : Nat
  mates : List Int
  pairs : List Pr
def i16v (x : Int) : Value := .int .i16 x
def Pr.cells (p : Pr) : List Value := [i16v p.a0, i16v p.a1, i16v p.b0, i16v p.b1]
def I16 (x : Int) : Prop := -32768 ≤ x ∧ x ≤ 32767
def I64 (x : Int) : Prop := -9223372036854775808 ≤ x ∧ x ≤ 9223372036854775807
def Pr.ok (p : Pr) : Prop := I16 p.a0 ∧ I16 p.a1 ∧ I16 p.b0 ∧ I16 p.b1
def SlP (w : World) (v : Value) (l : List Pr) : Prop :=
  (v = .slice none 0 0 ∧ l = []) ∨
  ∃ b o cap, v = .slice (some ⟨b, o, none⟩) l.length cap ∧ l.length ≤ cap ∧ cap ≤ maxLen ∧
    ∀ (i : Nat) (p : Pr), l[i]? = some p → ∀ (j : Nat) (x : Value), p.cells[j]? = some x → w.cell? ⟨b, o + i * 4 + j, none⟩ = some x
theorem SlP.below {B : Nat} {w w' : World} {v : Value} {l : List Pr} (h : SlP w v l) (hb : Below B w w') (hB : w.heap.size ≤ B) : SlP w' v l := by
  rcases h with h | ⟨b, o, cap, h1, h2, h3, h4⟩
  · exact .inl h
  · refine .inr ⟨b, o, cap, h1, h2, h3, fun i p hi j x hj => ?_⟩
    have hc := h4 i p hi j x hj
    rw [hb.cell (Nat.lt_of_lt_of_le (World.block_lt_of_cell? w _ hc) hB)]
    exact hc
theorem SlP.any {w : World} {v : Value} {l : List Pr} (h : SlP w v l) :
    ∃ (a : Option Addr) (len cap : Nat), v = .slice a len cap ∧ Hid (l.length = len) ∧ len ≤ cap ∧ cap ≤ 9223372036854775807 ∧
      Hid (∀ (i : Nat) (p : Pr), l[i]? = some p → ∃ b o, a = some ⟨b, o, none⟩ ∧ w.cell? ⟨b, o + i * 4, none⟩ = some (.int .i16 p.a0) ∧ w.cell? ⟨b, o + i * 4 + 1, none⟩ = some (.int .i16 p.a1) ∧ w.cell? ⟨b, o + i * 4 + 2, none⟩ = some (.int .i16 p.b0) ∧ w.cell? ⟨b, o + i * 4 + 3, none⟩ = some (.int .i16 p.b1)) := by
  rcases h with ⟨rfl, rfl⟩ | ⟨b, o, cap, rfl, h2, h3, h4⟩
  · exact ⟨none, 0, 0, rfl, rfl, Nat.le_refl _, by omega, fun i x hx => by simp at hx⟩
  · exact ⟨_, l.length, cap, rfl, rfl, h2, by unfold maxLen at h3; exact h3, fun i p hp => ⟨b, o, rfl, h4 i p hp 0 _ rfl, h4 i p hp 1 _ rfl, h4 i p hp 2 _ rfl, h4 i p hp 3 _ rfl⟩⟩
structure Fr.ok (f : Fr) : Prop where
  seq : f.seq < 4294967296
  point : I64 f.point
  source : I64 f.source
  turn : I64 f.turn
  scale : f.scale < 4294967296
  mates : ∀ x ∈ f.mates, I64 x
  pairs : ∀ p ∈ f.pairs, p.ok
def FrRep (w : World) (v : Value) (f : Fr) : Prop :=
  ∃ m p, v = .agg #[.int .u32 (f.seq : Int), .int .i64 f.point, .int .i64 f.source, .int .i64 f.turn, .float .f32 f.scale, m, p] ∧ Sl w m (f.mates.map i64v) ∧ SlP w p f.pairs ∧ f.ok
theorem FrRep.below {B : Nat} {w w' : World} {v : Value} {f : Fr} (h : FrRep w v f) (hb : Below B w w') (hB : w.heap.size ≤ B) : FrRep w' v f := by
  obtain ⟨m, p, e, h1, h2, h3⟩ := h
  exact ⟨m, p, e, h1.below hb hB, h2.below hb hB, h3⟩
def scaleOK (s : Nat) : Bool := (FloatKind.f32.format.order s 0 == some .gt) && (FloatKind.f32.format.order s 2139095039 == some .lt || FloatKind.f32.format.order s 2139095039 == some .eq)
def Fr.valid (f : Fr) : Bool :=
  inR (f.pairs.length : Int) 1 8 && decide ((f.mates.length : Int) = (f.pairs.length : Int)) && inR f.point 0 1023 && inR f.source 1 (f.pairs.length : Int) && inR f.turn 0 63 && scaleOK f.scale && !badMates f.mates
set_option maxRecDepth 100000 in
set_option maxHeartbeats 1600000 in
theorem valid_spec (v : Value) (f : Fr) (w : World) (h : FrRep w v f) :
    Calls Tryz.prog 69 #[v] w (Ret w fun _ v' => v' = .bool f.valid) := by
  obtain ⟨vm, vp, rfl, hm, hp, hok⟩ := h
  obtain ⟨am, lm, cm, rfl, Hlm, hcm, hmm, -⟩ := hm.any
  obtain ⟨ap, lp, cp, rfl, Hlp, hcp, hmp, -⟩ := hp.any
  have HV : Hid (f.valid = (inR (lp : Int) 1 8 && decide ((lm : Int) = (lp : Int)) && inR f.point 0 1023 && inR f.source 1 (lp : Int) && inR f.turn 0 63 && scaleOK f.scale && !badMates f.mates)) := by
    show _ = _
    have e := Hlm.out
    rw [List.length_map] at e
    unfold Fr.valid
    rw [Hlp.out, e]
  clear hok Hlm Hlp
  obtain ⟨seq, point, source, turn, scale, mates, pairs⟩ := f
  simp only at *
  cases h1 : inR (lp : Int) 1 8
  · have H1 := Lib.hid h1
    go_enter Tryz.func69, Tryz.ntmps69
    go_upto_region 1 with (fail)
    obtain ⟨W, hW, o1, hB, hS⟩ := boxes1 w 92 [.int .u32 (seq : Int), .int .i64 point, .int .i64 source, .int .i64 turn, .float .f32 scale, .slice am lm cm, .slice ap lp cp]
    rw [← hW]
    clear hW
    have hmW := hm.below hB (Nat.le_refl _)
    have fo1 := o1.free; have co10 := o1.cell 0 _ rfl; have co11 := o1.cell 1 _ rfl; have co12 := o1.cell 2 _ rfl; have co13 := o1.cell 3 _ rfl; have co14 := o1.cell 4 _ rfl; have co15 := o1.cell 5 _ rfl; have co16 := o1.cell 6 _ rfl
    go_wp2_with (first | (go_at_call 125; refine (inRange_spec _ _ _ _).mono ?_; rintro e w' ⟨rfl, rfl⟩) | (go_at_call 127; refine (containsFunc_spec _ _ _ hmW).mono ?_; rintro e w' ⟨rfl, rfl⟩))
    go_ret
    exact ⟨_, rfl, by rw [HV.out]; simp [H1.out], hB⟩
  cases h2 : decide ((lm : Int) = (lp : Int))
  · have h2' : ((lm : Int) != (lp : Int)) = true := by simpa using h2
    have H1 := Lib.hid h2
    clear h2
    go_enter Tryz.func69, Tryz.ntmps69
    go_upto_region 1 with (fail)
    obtain ⟨W, hW, o1, hB, hS⟩ := boxes1 w 92 [.int .u32 (seq : Int), .int .i64 point, .int .i64 source, .int .i64 turn, .float .f32 scale, .slice am lm cm, .slice ap lp cp]
    rw [← hW]
    clear hW
    have hmW := hm.below hB (Nat.le_refl _)
    have fo1 := o1.free; have co10 := o1.cell 0 _ rfl; have co11 := o1.cell 1 _ rfl; have co12 := o1.cell 2 _ rfl; have co13 := o1.cell 3 _ rfl; have co14 := o1.cell 4 _ rfl; have co15 := o1.cell 5 _ rfl; have co16 := o1.cell 6 _ rfl
    go_wp2_with (first | (go_at_call 125; refine (inRange_spec _ _ _ _).mono ?_; rintro e w' ⟨rfl, rfl⟩) | (go_at_call 127; refine (containsFunc_spec _ _ _ hmW).mono ?_; rintro e w' ⟨rfl, rfl⟩))
    go_ret
    exact ⟨_, rfl, by rw [HV.out]; simp [H1.out], hB⟩
  have h2' : ((lm : Int) != (lp : Int)) = false := by simpa using h2
  have H2 := Lib.hid h2
  clear h2
  cases h3 : inR point 0 1023
  · have H1 := Lib.hid h3
    go_enter Tryz.func69, Tryz.ntmps69
    go_upto_region 1 with (fail)
    obtain ⟨W, hW, o1, hB, hS⟩ := boxes1 w 92 [.int .u32 (seq : Int), .int .i64 point, .int .i64 source, .int .i64 turn, .float .f32 scale, .slice am lm cm, .slice ap lp cp]
    rw [← hW]
    clear hW
    have hmW := hm.below hB (Nat.le_refl _)
    have fo1 := o1.free; have co10 := o1.cell 0 _ rfl; have co11 := o1.cell 1 _ rfl; have co12 := o1.cell 2 _ rfl; have co13 := o1.cell 3 _ rfl; have co14 := o1.cell 4 _ rfl; have co15 := o1.cell 5 _ rfl; have co16 := o1.cell 6 _ rfl
    go_wp2_with (first | (go_at_call 125; refine (inRange_spec _ _ _ _).mono ?_; rintro e w' ⟨rfl, rfl⟩) | (go_at_call 127; refine (containsFunc_spec _ _ _ hmW).mono ?_; rintro e w' ⟨rfl, rfl⟩))
    go_ret
    exact ⟨_, rfl, by rw [HV.out]; simp [H1.out], hB⟩
  cases h4 : inR source 1 (lp : Int)
  · have H1 := Lib.hid h4
    go_enter Tryz.func69, Tryz.ntmps69
    go_upto_region 1 with (fail)
    obtain ⟨W, hW, o1, hB, hS⟩ := boxes1 w 92 [.int .u32 (seq : Int), .int .i64 point, .int .i64 source, .int .i64 turn, .float .f32 scale, .slice am lm cm, .slice ap lp cp]
    rw [← hW]
    clear hW
    have hmW := hm.below hB (Nat.le_refl _)
    have fo1 := o1.free; have co10 := o1.cell 0 _ rfl; have co11 := o1.cell 1 _ rfl; have co12 := o1.cell 2 _ rfl; have co13 := o1.cell 3 _ rfl; have co14 := o1.cell 4 _ rfl; have co15 := o1.cell 5 _ rfl; have co16 := o1.cell 6 _ rfl
    go_wp2_with (first | (go_at_call 125; refine (inRange_spec _ _ _ _).mono ?_; rintro e w' ⟨rfl, rfl⟩) | (go_at_call 127; refine (containsFunc_spec _ _ _ hmW).mono ?_; rintro e w' ⟨rfl, rfl⟩))
    go_ret
    exact ⟨_, rfl, by rw [HV.out]; simp [H1.out], hB⟩
  cases h5 : inR turn 0 63
  · have H1 := Lib.hid h5
    go_enter Tryz.func69, Tryz.ntmps69
    go_upto_region 1 with (fail)
    obtain ⟨W, hW, o1, hB, hS⟩ := boxes1 w 92 [.int .u32 (seq : Int), .int .i64 point, .int .i64 source, .int .i64 turn, .float .f32 scale, .slice am lm cm, .slice ap lp cp]
    rw [← hW]
    clear hW
    have hmW := hm.below hB (Nat.le_refl _)
    have fo1 := o1.free; have co10 := o1.cell 0 _ rfl; have co11 := o1.cell 1 _ rfl; have co12 := o1.cell 2 _ rfl; have co13 := o1.cell 3 _ rfl; have co14 := o1.cell 4 _ rfl; have co15 := o1.cell 5 _ rfl; have co16 := o1.cell 6 _ rfl
    go_wp2_with (first | (go_at_call 125; refine (inRange_spec _ _ _ _).mono ?_; rintro e w' ⟨rfl, rfl⟩) | (go_at_call 127; refine (containsFunc_spec _ _ _ hmW).mono ?_; rintro e w' ⟨rfl, rfl⟩))
    go_ret
    exact ⟨_, rfl, by rw [HV.out]; simp [H1.out], hB⟩
  have H1 := Lib.hid h1
  have H3 := Lib.hid h3
  have H4 := Lib.hid h4
  have H5 := Lib.hid h5
  cases h6 : (FloatKind.f32.format.order scale 0 == some .gt)
  · have H6 := Lib.hid h6
    go_enter Tryz.func69, Tryz.ntmps69
    go_upto_region 1 with (fail)
    obtain ⟨W, hW, o1, hB, hS⟩ := boxes1 w 92 [.int .u32 (seq : Int), .int .i64 point, .int .i64 source, .int .i64 turn, .float .f32 scale, .slice am lm cm, .slice ap lp cp]
    rw [← hW]
    clear hW
    have hmW := hm.below hB (Nat.le_refl _)
    have fo1 := o1.free; have co10 := o1.cell 0 _ rfl; have co11 := o1.cell 1 _ rfl; have co12 := o1.cell 2 _ rfl; have co13 := o1.cell 3 _ rfl; have co14 := o1.cell 4 _ rfl; have co15 := o1.cell 5 _ rfl; have co16 := o1.cell 6 _ rfl
    go_wp2_with (first | (go_at_call 125; refine (inRange_spec _ _ _ _).mono ?_; rintro e w' ⟨rfl, rfl⟩) | (go_at_call 127; refine (containsFunc_spec _ _ _ hmW).mono ?_; rintro e w' ⟨rfl, rfl⟩))
    go_ret
    exact ⟨_, rfl, by rw [HV.out]; simp [scaleOK, H6.out], hB⟩
  cases h7 : (FloatKind.f32.format.order scale 2139095039 == some .lt || FloatKind.f32.format.order scale 2139095039 == some .eq)
  · have H7 := Lib.hid h7
    go_enter Tryz.func69, Tryz.ntmps69
    go_upto_region 1 with (fail)
    obtain ⟨W, hW, o1, hB, hS⟩ := boxes1 w 92 [.int .u32 (seq : Int), .int .i64 point, .int .i64 source, .int .i64 turn, .float .f32 scale, .slice am lm cm, .slice ap lp cp]
    rw [← hW]
    clear hW
    have hmW := hm.below hB (Nat.le_refl _)
    have fo1 := o1.free; have co10 := o1.cell 0 _ rfl; have co11 := o1.cell 1 _ rfl; have co12 := o1.cell 2 _ rfl; have co13 := o1.cell 3 _ rfl; have co14 := o1.cell 4 _ rfl; have co15 := o1.cell 5 _ rfl; have co16 := o1.cell 6 _ rfl
    go_wp2_with (first | (go_at_call 125; refine (inRange_spec _ _ _ _).mono ?_; rintro e w' ⟨rfl, rfl⟩) | (go_at_call 127; refine (containsFunc_spec _ _ _ hmW).mono ?_; rintro e w' ⟨rfl, rfl⟩))
    go_ret
    exact ⟨_, rfl, by rw [HV.out]; simp [scaleOK, H7.out], hB⟩
  have H6 := Lib.hid h6
  have H7 := Lib.hid h7
  go_enter Tryz.func69, Tryz.ntmps69
  go_upto_region 1 with (fail)
  obtain ⟨W, hW, o1, hB, hS⟩ := boxes1 w 92 [.int .u32 (seq : Int), .int .i64 point, .int .i64 source, .int .i64 turn, .float .f32 scale, .slice am lm cm, .slice ap lp cp]
  rw [← hW]
  clear hW
  have hmW := hm.below hB (Nat.le_refl _)
  have fo1 := o1.free; have co10 := o1.cell 0 _ rfl; have co11 := o1.cell 1 _ rfl; have co12 := o1.cell 2 _ rfl; have co13 := o1.cell 3 _ rfl; have co14 := o1.cell 4 _ rfl; have co15 := o1.cell 5 _ rfl; have co16 := o1.cell 6 _ rfl
  go_wp2_with (first | (go_at_call 125; refine (inRange_spec _ _ _ _).mono ?_; rintro e w' ⟨rfl, rfl⟩) | (go_at_call 127; refine (containsFunc_spec _ _ _ hmW).mono ?_; rintro e w' ⟨rfl, rfl⟩))
  go_ret
  exact ⟨_, rfl, by rw [HV.out]; simp [H1.out, H2.out, H3.out, H4.out, H5.out, scaleOK, H6.out, H7.out], hB⟩
end Go.Proofs.YtfkogkcpndaoeaaGreat
namespace Go.Proofs.YtfkogkcpndaoeaaGreat
open Go.RowKit
def be16 (x : Nat) : List UInt8 := [UInt8.ofNat (x / 256), UInt8.ofNat (x % 256)]
def be32 (x : Nat) : List UInt8 := be16 (x / 65536) ++ be16 (x % 65536)
theorem be16_length (x : Nat) : (be16 x).length = 2 := rfl
theorem be32_length (x : Nat) : (be32 x).length = 4 := rfl
theorem ofNat_val {n : Nat} (h : n < 256) : ((UInt8.ofNat n).toNat : Nat) = n := by simp; omega
theorem append_bytes2 (W : World) {ops : Array Oper} {rest : List Oper} {o : Oper} {a : Act} {Q : Exit → Act → World → Prop} (hgd : o.guard = none) (s x : Operand) (t : TypeId)
    (ho : o.op = .call { callee := .builtin .append, args := #[s, x], argTypes := #[t, t] }) (ht : Tryz.prog.underlying t = some (.slice 5)) (base : Nat) (v : Value) (l : List UInt8) (b c : UInt8) (z y : Int)
    (hz : z = ((b.toNat : Nat) : Int)) (hy : y = ((c.toNat : Nat) : Int)) (hs : a.eval s = v) (hx : a.eval x = .slice (some ⟨W.heap.size, 0, none⟩) 2 2) (hO : OwnB W base v l) (hl : l.length < 1099511627776) (hbase : base ≤ W.heap.size)
    (K : ∀ v' w', OwnB w' base v' (l ++ [b, c]) → W.grownBy w' v.ownBlock → wpList Tryz.prog ops Q rest (a.put o.dst v') w') :
    wpList Tryz.prog ops Q (o :: rest) a (W.alloc (.cells #[.int .u8 z, .int .u8 y] 5)) := by
  obtain ⟨i0, hi, hz0, hz1, hz2⟩ := info_parts info_u8
  refine wpList_append_own _ hgd s x t ho base 5 i0 (.int .u8 0) 1 1 ht hi hz0 hz1 hz2 rfl (by decide) v l.length (l.map byteV) hs (World.ownsRow.alloc hO _) ⟨W.heap.size, 0, none⟩ 2 2 [.int .u8 z, .int .u8 y] hx rfl ?_ ?_ (by unfold maxLen; omega) (by omega) (by simp; omega) ?_
  · intro j u hj
    rw [Addr.add_lit, Nat.zero_add]
    exact (own_new W 5 [.int .u8 z, .int .u8 y]).cell j u hj
  · intro u hu
    simp only [List.mem_cons, List.not_mem_nil, or_false] at hu
    rcases hu with rfl | rfl <;> rfl
  · intro v' w' h1 h2 _
    refine K v' w' ?_ (grown_trans (World.grownBy_alloc W _ _) h2)
    unfold OwnB
    rw [List.length_append, List.map_append]
    have e : [b, c].map byteV = [.int .u8 z, .int .u8 y] := by unfold byteV; rw [hz, hy]; rfl
    show World.ownsRow _ _ _ _ _ (l.length + 2) (l.map byteV ++ [b, c].map byteV)
    rw [e]
    exact h1
structure KeptB (base : Nat) (w w' : World) : Prop where
  os : w'.os = w.os
  tape : w'.tape = w.tape
  output : w'.output = w.output
  size : w.heap.size ≤ w'.heap.size
  block : ∀ k, k < w.heap.size → (k < base ∨ ¬ TyB w k 5) → w'.heap[k]? = w.heap[k]?
theorem KeptB.refl (base : Nat) (w : World) : KeptB base w w := ⟨rfl, rfl, rfl, Nat.le_refl _, fun _ _ _ => rfl⟩
theorem KeptB.trans {base : Nat} {a b c : World} (h : KeptB base a b) (k : KeptB base b c) : KeptB base a c :=
  ⟨k.os.trans h.os, k.tape.trans h.tape, k.output.trans h.output, Nat.le_trans h.size k.size, fun i hi hn => (k.block i (Nat.lt_of_lt_of_le hi h.size) (hn.imp id fun hn ht => hn (ht.of (h.block i hi (.inr hn)).symm))).trans (h.block i hi hn)⟩
theorem KeptB.below {base : Nat} {a b : World} (h : KeptB base a b) (hb : base ≤ a.heap.size) : Below base a b := ⟨h.os, h.tape, h.output, h.size, fun k hk => h.block k (Nat.lt_of_lt_of_le hk hb) (.inl hk)⟩
theorem KeptB.of_below {base : Nat} {a b : World} (h : Below a.heap.size a b) : KeptB base a b := ⟨h.os, h.tape, h.output, h.size, fun k hk _ => h.block k hk⟩
theorem KeptB.own {base : Nat} {w w' : World} (h : KeptB base w w') {E : TypeId} {g : Nat} {cs : List Value} (o : Own w E g cs) (hE : E ≠ 5) : Own w' E g cs := by
  unfold Own at *
  rw [h.block g (Array.getElem?_eq_some_iff.1 o).1 (.inr fun ⟨cs', fr, e⟩ => by rw [o] at e; simp only [Option.some.injEq, Obj.cells.injEq] at e; exact hE e.2.1)]
  exact o
theorem KeptB.grown {base : Nat} {w w' : World} {v : Value} {l : List UInt8} (h : w.grownBy w' v.ownBlock) (o : OwnB w base v l) : KeptB base w w' :=
  ⟨h.os, h.tape, h.output, h.size, fun k hk hn => h.block k hk (fun e => by
    obtain ⟨_, h2⟩ := o
    rcases h2 with ⟨rfl, _⟩ | ⟨g, cap, cur, rfl, hbg, hgc, _⟩
    · simp [Value.ownBlock] at e
    · obtain rfl := Option.some.inj e
      rcases hn with h1 | h1
      · omega
      · exact h1 ⟨_, _, hgc⟩)⟩
theorem KeptB.drew {base : Nat} {w w' : World} (h : KeptB base w w') : KeptB base w w'.drew := ⟨h.os, h.tape, h.output, h.size, h.block⟩
theorem KeptB.alloc {base : Nat} {w w' : World} (h : KeptB base w w') (o : Obj) : KeptB base w (w'.alloc o) := h.trans (KeptB.of_below ((Below.refl _ _).alloc (Nat.le_refl _) o))
def RetB (w : World) (base : Nat) (l : List UInt8) (e : Ending) (w' : World) : Prop := ∃ v', e = .returned v' ∧ OwnB w' base v' l ∧ KeptB base w w'
theorem be_hi {x : Nat} (h : x < 65536) : ((x : Int) / 256) = (((UInt8.ofNat (x / 256)).toNat : Nat) : Int) := by rw [ofNat_val (by omega)]; omega
theorem be_lo (x : Nat) : ((x : Int) % 256) = (((UInt8.ofNat (x % 256)).toNat : Nat) : Int) := by rw [ofNat_val (by omega)]; omega
set_option maxHeartbeats 800000 in
theorem two_spec (base : Nat) (v : Value) (l : List UInt8) (x : Nat) (w : World) (h : OwnB w base v l) (hb : base ≤ w.heap.size) (hl : l.length < 1099511627776) (hx : x < 65536) :
    Calls Tryz.prog 71 #[v, .int .u16 (x : Int)] w (RetB w base (l ++ be16 x)) := by
  have hg := fun w' (g : w.grownBy w' v.ownBlock) => KeptB.grown g h
  obtain ⟨a, cap, rfl, hc1, hc2⟩ := h.shape
  have HG := Lib.hid hg
  clear hg
  go_enter Tryz.func71, Tryz.ntmps71
  go_wp2_with (at_builtin; go_must (refine append_bytes2 w rfl (.tmp 5) (.tmp 11) _ rfl Tryz.underlying86 base _ l (UInt8.ofNat (x / 256)) (UInt8.ofNat (x % 256)) _ _ (be_hi hx) (be_lo x) rfl rfl h hl hb ?_); intro v3 w3 ow3 hg3)
  go_ret
  exact ⟨_, rfl, ow3, HG.out _ hg3⟩
theorem u16_wrap (x : Int) : IntKind.u16.wrap x = x % 65536 := by simp [IntKind.wrap, IntKind.bits, IntKind.signed]
theorem two_spec' (base : Nat) (v : Value) (l : List UInt8) (x : Nat) (z : Int) (w : World) (hz : z = (x : Int)) (h : OwnB w base v l) (hb : base ≤ w.heap.size) (hl : l.length < 1099511627776) (hx : x < 65536) :
    Calls Tryz.prog 71 #[v, .int .u16 z] w (RetB w base (l ++ be16 x)) := by
  subst hz
  exact two_spec base v l x w h hb hl hx
set_option maxHeartbeats 800000 in
theorem four_spec (base : Nat) (v : Value) (l : List UInt8) (x : Nat) (w : World) (h : OwnB w base v l) (hb : base ≤ w.heap.size) (hl : l.length < 1099511627770) (hx : x < 4294967296) :
    Calls Tryz.prog 70 #[v, .int .u32 (x : Int)] w (RetB w base (l ++ be32 x)) := by
  go_enter Tryz.func70, Tryz.ntmps70
  go_wp2_with fail
  refine (two_spec' base v l (x / 65536) _ w (by omega) h hb (by omega) (by omega)).mono ?_
  rintro e w1 ⟨v1, rfl, ow1, hk1⟩
  go_wp2_with fail
  refine (two_spec' base v1 _ (x % 65536) _ w1 (by rw [u16_wrap]; omega) ow1 (Nat.le_trans hb hk1.size) (by rw [List.length_append, be16_length]; omega) (by omega)).mono ?_
  rintro e w2 ⟨v2, rfl, ow2, hk2⟩
  rw [List.append_assoc] at ow2
  go_wp2_with fail
  go_ret
  exact ⟨_, rfl, ow2, hk1.trans hk2⟩
end Go.Proofs.YtfkogkcpndaoeaaGreat
