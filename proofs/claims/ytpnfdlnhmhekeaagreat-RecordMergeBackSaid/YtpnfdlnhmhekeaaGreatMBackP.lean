/- Merging two sweeps, cutting them out again; plain. Conditions: none. A sweep shifted above another one, merged with it, cut out again; plain. Conditions: none. -/
import Derived.Test.YtpnfdlnhmhekeaaGreatMCut
set_option linter.unusedSimpArgs false
set_option linter.unusedVariables false
set_option linter.all false
namespace Go.Proofs.YtpnfdlnhmhekeaaGreat
open Go.RowKit

theorem rcmp_lt {x y : Rat} : rcmp x y = -1 ↔ x < y := by
  unfold rcmp
  split
  · rename_i h; simp [h]
  · rename_i h; split <;> simp [h]
theorem rcmp_gt {x y : Rat} : rcmp x y = 1 ↔ y < x := by
  unfold rcmp
  split
  · rename_i h; simp; exact Rat.not_lt.2 (Rat.le_of_lt h)
  · split
    · rename_i h; simp [h]
    · rename_i h; simp [h]
theorem rcmp_zero {x y : Rat} : rcmp x y = 0 ↔ x = y := by
  unfold rcmp
  split
  · rename_i h; simp; exact fun e => Rat.lt_irrefl (e ▸ h)
  · split
    · rename_i h; simp; exact fun e => Rat.lt_irrefl (e ▸ h)
    · rename_i h1 h2; simp; exact Rat.le_antisymm (Rat.not_lt.1 h2) (Rat.not_lt.1 h1)
theorem rcmp_cases (x y : Rat) : rcmp x y = -1 ∨ rcmp x y = 0 ∨ rcmp x y = 1 := by
  unfold rcmp
  split
  · exact .inl rfl
  · split
    · exact .inr (.inr rfl)
    · exact .inr (.inl rfl)
theorem rcmp_anti (x y : Rat) : rcmp y x = -rcmp x y := by
  rcases rcmp_cases x y with h | h | h
  · rw [h]; exact rcmp_gt.2 (rcmp_lt.1 h)
  · rw [h]; exact rcmp_zero.2 (rcmp_zero.1 h).symm
  · rw [h]; exact rcmp_lt.2 (rcmp_gt.1 h)
theorem qcmp_cases (x y : CQ) : qcmp x y = -1 ∨ qcmp x y = 0 ∨ qcmp x y = 1 := by
  unfold qcmp
  split
  · exact rcmp_cases _ _
  · exact rcmp_cases _ _
theorem qcmp_anti (x y : CQ) : qcmp y x = -qcmp x y := by
  unfold qcmp
  rw [rcmp_anti x.re y.re, rcmp_anti x.im y.im]
  by_cases h : rcmp x.re y.re = 0
  · rw [if_pos h, if_pos (by omega)]
  · rw [if_neg h, if_neg (by omega)]
theorem qcmp_real {x y : CQ} (hx : x.im = 0) (hy : y.im = 0) : qcmp x y = rcmp x.re y.re := by
  unfold qcmp
  split
  · rename_i h
    rw [hx, hy, h]
    exact rcmp_zero.2 rfl
  · rfl

theorem mergeP_comm : ∀ (xs ys : List Pt), mergeP xs ys = mergeP ys xs
  | [], ys => by rw [mergeP_nil]; simp [mergeP]
  | x :: xs, [] => by rw [mergeP_nil]; simp [mergeP]
  | x :: xs, y :: ys => by
    rw [mergeP, mergeP, mergeP_comm xs (y :: ys), mergeP_comm (x :: xs) ys, qcmp_anti x.f y.f]
    rcases qcmp_cases x.f y.f with h | h | h <;> rw [h] <;> simp
  termination_by xs ys => xs.length + ys.length

theorem mergeErr_comm (v u : Wv) : mergeErr v u = mergeErr u v := by
  unfold mergeErr
  rw [mergeP_comm v.pts u.pts]
  by_cases h : vwB v = true ∧ vwB u = true
  · obtain ⟨h1, h2⟩ := h
    simp only [h1, h2, and_self, if_true]
    by_cases h3 : (v.a.getD 0 []).length = (u.a.getD 0 []).length
    · rw [if_pos h3, if_pos h3.symm]
    · rw [if_neg h3, if_neg (fun e => h3 e.symm)]
  · have h' : ¬ (vwB u = true ∧ vwB v = true) := fun e => h ⟨e.2, e.1⟩
    rw [if_neg h, if_neg h']
theorem mergeRes_comm (v u : Wv) : mergeRes v u = mergeRes u v := by
  unfold mergeRes
  rw [mergeErr_comm, mergeP_comm]

theorem mergeP_mem : ∀ (xs ys l : List Pt), mergeP xs ys = some l → ∀ p ∈ l, p ∈ xs ∨ p ∈ ys
  | [], ys, l, h => by
    simp [mergeP] at h
    subst h
    exact fun p hp => .inr hp
  | x :: xs, [], l, h => by
    simp [mergeP] at h
    subst h
    exact fun p hp => .inl hp
  | x :: xs, y :: ys, l, h => by
    rw [mergeP] at h
    split at h
    · cases h
    · split at h
      · obtain ⟨l', h1, rfl⟩ := Option.map_eq_some_iff.1 h
        intro p hp
        rcases List.mem_cons.1 hp with rfl | hp
        · exact .inl List.mem_cons_self
        · rcases mergeP_mem xs (y :: ys) l' h1 p hp with h2 | h2
          · exact .inl (List.mem_cons_of_mem _ h2)
          · exact .inr h2
      · obtain ⟨l', h1, rfl⟩ := Option.map_eq_some_iff.1 h
        intro p hp
        rcases List.mem_cons.1 hp with rfl | hp
        · exact .inr List.mem_cons_self
        · rcases mergeP_mem (x :: xs) ys l' h1 p hp with h2 | h2
          · exact .inl h2
          · exact .inr (List.mem_cons_of_mem _ h2)
  termination_by xs ys => xs.length + ys.length
/-- All of ys lie below all of xs: they come first. -/
theorem mergeP_above : ∀ (ys : List Pt) (xs : List Pt), (∀ x ∈ xs, ∀ y ∈ ys, qcmp x.f y.f = 1) → mergeP xs ys = some (ys ++ xs)
  | [], xs, _ => by rw [mergeP_nil]; rfl
  | y :: ys, [], _ => by simp [mergeP]
  | y :: ys, x :: xs, h => by
    have h1 := h x List.mem_cons_self y List.mem_cons_self
    rw [mergeP, if_neg (by rw [h1]; decide), if_neg (by rw [h1]; decide), mergeP_above ys (x :: xs) (fun a ha b hb => h a ha b (List.mem_cons_of_mem _ hb))]
    rfl

theorem posQ_iff {x : CQ} : posQ x = true ↔ x.im = 0 ∧ 0 < x.re := by
  unfold posQ
  rw [Bool.and_eq_true, decide_eq_true_iff, decide_eq_true_iff]
  have hz : (cq 0 0 1).im = 0 := by simp [cq, Rat.div_def]
  have hr : (cq 0 0 1).re = 0 := by simp [cq, Rat.div_def]
  constructor
  · rintro ⟨h1, h2⟩
    rw [qcmp_real h1 hz, hr] at h2
    exact ⟨h1, by
      rcases rcmp_cases x.re 0 with h | h | h
      · omega
      · omega
      · exact rcmp_gt.1 h⟩
  · rintro ⟨h1, h2⟩
    rw [qcmp_real h1 hz, hr, rcmp_gt.2 h2]
    exact ⟨h1, by decide⟩

/-- Frequencies: real, above 0, ascending. -/
structure Asc (l : List CQ) : Prop where
  pos : ∀ x ∈ l, x.im = 0 ∧ 0 < x.re
  next : ∀ i x y, l[i]? = some x → l[i + 1]? = some y → x.re < y.re
theorem vf_asc {l : List CQ} : vfB l = true ↔ Asc l ∧ 0 < l.length ∧ l.length ≤ 1024 := by
  constructor
  · intro h
    have hl := vf_len h
    unfold vfB at h
    rw [Bool.and_eq_true, List.all_eq_true] at h
    have hstep : ∀ i, i < l.length → vfStep l i = true := fun i hi => h.1 i (List.mem_range.2 hi)
    have hpos : ∀ i x, l[i]? = some x → posQ x = true := fun i x hx => by
      have := hstep i (List.getElem?_eq_some_iff.1 hx).1
      unfold vfStep at this
      rw [hx] at this
      simp only [Bool.and_eq_true] at this
      exact this.1
    refine ⟨⟨fun x hx => ?_, fun i x y hx hy => ?_⟩, hl⟩
    · obtain ⟨i, hi⟩ := List.getElem?_of_mem hx
      exact posQ_iff.1 (hpos i x hi)
    · have h1 := hstep (i + 1) (List.getElem?_eq_some_iff.1 hy).1
      rw [vfStep_next hy hx (hpos _ _ hy), decide_eq_true_iff, qcmp_real (posQ_iff.1 (hpos _ _ hy)).1 (posQ_iff.1 (hpos _ _ hx)).1] at h1
      rcases rcmp_cases y.re x.re with h | h | h
      · omega
      · omega
      · exact rcmp_gt.1 h
  · rintro ⟨h, h0, h1⟩
    unfold vfB
    rw [Bool.and_eq_true, List.all_eq_true]
    refine ⟨fun i hi => ?_, by unfold inR; simp; omega⟩
    have hil : i < l.length := List.mem_range.1 hi
    have hx : l[i]? = some l[i] := List.getElem?_eq_getElem hil
    have hp := posQ_iff.2 (h.pos _ (List.mem_of_getElem? hx))
    cases i with
    | zero => exact vfStep_zero hx hp
    | succ i =>
      have hy : l[i]? = some l[i] := List.getElem?_eq_getElem (by omega)
      rw [vfStep_next hx hy hp, decide_eq_true_iff, qcmp_real (h.pos _ (List.mem_of_getElem? hx)).1 (h.pos _ (List.mem_of_getElem? hy)).1, rcmp_gt.2 (h.next i _ _ hy hx)]
      decide
theorem Asc.lt {l : List CQ} (h : Asc l) : ∀ (d i : Nat) (x y : CQ), l[i]? = some x → l[i + d + 1]? = some y → x.re < y.re
  | 0, i, x, y, hx, hy => h.next i x y hx hy
  | d + 1, i, x, y, hx, hy => by
    have hz : l[i + d + 1]? = some (l[i + d + 1]'(by have := (List.getElem?_eq_some_iff.1 hy).1; omega)) := List.getElem?_eq_getElem _
    have e1 := h.lt d i x _ hx hz
    have e2 := h.next (i + d + 1) _ y hz hy
    grind
theorem Asc.le_last {l : List CQ} (h : Asc l) {i : Nat} {x y : CQ} (hx : l[i]? = some x) (hy : l[l.length - 1]? = some y) : x.re ≤ y.re := by
  have hi : i < l.length := (List.getElem?_eq_some_iff.1 hx).1
  rcases Nat.lt_or_ge i (l.length - 1) with h1 | h1
  · have := h.lt (l.length - 1 - i - 1) i x y hx (by rw [show i + (l.length - 1 - i - 1) + 1 = l.length - 1 by omega]; exact hy)
    exact Rat.le_of_lt this
  · have : i = l.length - 1 := by omega
    subst this
    rw [hx] at hy
    rw [Option.some.inj hy]
    exact Rat.le_refl
theorem Asc.first_le {l : List CQ} (h : Asc l) {i : Nat} {x y : CQ} (hx : l[i]? = some x) (hy : l[0]? = some y) : y.re ≤ x.re := by
  cases i with
  | zero =>
    rw [hx] at hy
    rw [Option.some.inj hy]
    exact Rat.le_refl
  | succ i => exact Rat.le_of_lt (h.lt i 0 y x hy (by rw [Nat.zero_add]; exact hx))
theorem Asc.app {l m : List CQ} (hl : Asc l) (hm : Asc m) (h : ∀ x ∈ l, ∀ y ∈ m, x.re < y.re) : Asc (l ++ m) := by
  refine ⟨fun x hx => ?_, fun i x y hx hy => ?_⟩
  · rcases List.mem_append.1 hx with h1 | h1
    · exact hl.pos x h1
    · exact hm.pos x h1
  · rcases Nat.lt_or_ge (i + 1) l.length with h1 | h1
    · rw [List.getElem?_append_left (by omega)] at hx hy
      exact hl.next i x y hx hy
    · rw [List.getElem?_append_right h1] at hy
      rcases Nat.lt_or_ge i l.length with h2 | h2
      · rw [List.getElem?_append_left h2] at hx
        exact h x (List.mem_of_getElem? hx) y (List.mem_of_getElem? hy)
      · rw [List.getElem?_append_right h2] at hx
        exact hm.next (i - l.length) x y hx (by rw [show i - l.length + 1 = i + 1 - l.length by omega]; exact hy)
end Go.Proofs.YtpnfdlnhmhekeaaGreat

namespace Go.Proofs.YtpnfdlnhmhekeaaGreat
open Go.RowKit

def shiftF (t : CQ) (s : Nat) (x : CQ) : CQ := (x.add t).add (cq (s : Int) 0 1)
def shiftW (B : Wv) (t : CQ) (s : Nat) : Wv := ⟨B.fr.map (shiftF t s), B.a, B.b⟩

theorem cq_int (z : Int) : (cq z 0 1).re = (z : Rat) ∧ (cq z 0 1).im = 0 := by
  unfold cq
  have h1 : (((1 : Nat) : Int) : Rat) = 1 := rfl
  constructor
  · show (z : Rat) / (((1 : Nat) : Int) : Rat) = _
    rw [h1]
    grind
  · show ((0 : Int) : Rat) / (((1 : Nat) : Int) : Rat) = 0
    rw [h1]
    grind
theorem shiftF_re (t x : CQ) (s : Nat) : (shiftF t s x).re = x.re + t.re + ((s : Int) : Rat) := by
  show x.re + t.re + (cq (s : Int) 0 1).re = _
  rw [(cq_int _).1]
theorem shiftF_im {t x : CQ} (s : Nat) (hx : x.im = 0) (ht : t.im = 0) : (shiftF t s x).im = 0 := by
  show x.im + t.im + (cq (s : Int) 0 1).im = 0
  rw [(cq_int _).2, hx, ht]
  grind
theorem nat_nonneg (s : Nat) : (0 : Rat) ≤ ((s : Int) : Rat) := by
  have : ((0 : Int) : Rat) ≤ ((s : Int) : Rat) := Rat.intCast_le_intCast.2 (by omega)
  simpa using this

theorem asc_shift {l : List CQ} {t : CQ} (s : Nat) (h : Asc l) (ht : t.im = 0 ∧ 0 < t.re) : Asc (l.map (shiftF t s)) ∧ ∀ y ∈ l.map (shiftF t s), t.re < y.re := by
  have hs := nat_nonneg s
  refine ⟨⟨fun x hx => ?_, fun i x y hx hy => ?_⟩, fun y hy => ?_⟩
  · obtain ⟨z, hz, rfl⟩ := List.mem_map.1 hx
    have h1 := h.pos z hz
    refine ⟨shiftF_im s h1.1 ht.1, ?_⟩
    rw [shiftF_re]
    have h2 := h1.2
    have h3 := ht.2
    grind
  · rw [List.getElem?_map] at hx hy
    obtain ⟨a, ha, rfl⟩ := Option.map_eq_some_iff.1 hx
    obtain ⟨b, hb, rfl⟩ := Option.map_eq_some_iff.1 hy
    have h1 := h.next i a b ha hb
    rw [shiftF_re, shiftF_re]
    grind
  · obtain ⟨z, hz, rfl⟩ := List.mem_map.1 hy
    have h1 := (h.pos z hz).2
    rw [shiftF_re]
    grind

theorem vw_iff {x : Wv} : vwB x = true ↔ vfB x.fr = true ∧ x.a.length = x.fr.length ∧ x.b.length = x.fr.length ∧ squareB (x.a ++ x.b) = true := by
  unfold vwB
  rw [Bool.and_eq_true, Bool.and_eq_true, Bool.and_eq_true, decide_eq_true_iff, decide_eq_true_iff]
  constructor
  · rintro ⟨⟨⟨h1, h2⟩, h3⟩, h4⟩; exact ⟨h1, h2, h3, h4⟩
  · rintro ⟨h1, h2, h3, h4⟩; exact ⟨⟨⟨h1, h2⟩, h3⟩, h4⟩
theorem sq_all {a b : List (List (List CQ))} (h0 : 0 < a.length) (h : squareB (a ++ b) = true) : ∀ m ∈ a ++ b, matN (a.getD 0 []).length m = true := by
  cases a with
  | nil => simp at h0
  | cons m0 a =>
    have : squareB (m0 :: (a ++ b)) = (m0 :: (a ++ b)).all (matN m0.length) := rfl
    rw [List.cons_append, this, List.all_eq_true] at h
    exact h
theorem sq_of {l : List (List (List CQ))} {n : Nat} (h : ∀ m ∈ l, matN n m = true) : squareB l = true := by
  cases l with
  | nil => rfl
  | cons m0 l =>
    have hm := h m0 List.mem_cons_self
    have hn : m0.length = n := by
      unfold matN at hm
      simp at hm
      exact hm.1.1
    show (m0 :: l).all (matN m0.length) = true
    rw [hn, List.all_eq_true]
    exact h

theorem of_app (l m : List Pt) : Wv.of (l ++ m) = ⟨(Wv.of l).fr ++ (Wv.of m).fr, (Wv.of l).a ++ (Wv.of m).a, (Wv.of l).b ++ (Wv.of m).b⟩ := by simp [Wv.of]
theorem pts_of (l : List Pt) : (Wv.of l).pts = l := by
  apply List.ext_getElem?
  intro i
  rcases Nat.lt_or_ge i l.length with hi | hi
  · have hlen : i < (Wv.of l).pts.length := by rw [Wv.pts_len]; simpa [Wv.of] using hi
    have h1 : (Wv.of l).pts[i]? = some ((Wv.of l).pts[i]) := List.getElem?_eq_getElem hlen
    obtain ⟨h2, h3, h4⟩ := Wv.pts_at h1 (by simp [Wv.of]) (by simp [Wv.of])
    have hx : l[i]? = some l[i] := List.getElem?_eq_getElem hi
    have e2 : (Wv.of l).fr[i]? = some l[i].f := by simp [Wv.of, hx]
    have e3 : (Wv.of l).a[i]? = some l[i].a := by simp [Wv.of, hx]
    have e4 : (Wv.of l).b[i]? = some l[i].b := by simp [Wv.of, hx]
    rw [e2] at h2
    rw [e3] at h3
    rw [e4] at h4
    rw [h1, hx]
    congr 1
    generalize (Wv.of l).pts[i] = p at *
    obtain ⟨f, a, b⟩ := p
    have g2 := Option.some.inj h2
    have g3 := Option.some.inj h3
    have g4 := Option.some.inj h4
    generalize l[i] = q at *
    obtain ⟨f', a', b'⟩ := q
    simp only at g2 g3 g4
    subst g2 g3 g4
    rfl
  · rw [List.getElem?_eq_none (by rw [Wv.pts_len]; simpa [Wv.of] using hi), List.getElem?_eq_none hi]
theorem pts_mem {x : Wv} (ha : x.a.length = x.fr.length) (hb : x.b.length = x.fr.length) {p : Pt} (hp : p ∈ x.pts) : ∃ i : Nat, x.fr[i]? = some p.f ∧ x.a[i]? = some p.a ∧ x.b[i]? = some p.b := by
  obtain ⟨i, hi⟩ := List.getElem?_of_mem hp
  exact ⟨i, Wv.pts_at hi ha hb⟩

/-- The sweep B lies above A behind the shift: merging and cutting. -/
theorem back {A B : Wv} {t : CQ} (s : Nat) (hA : vwB A = true) (hB : vwB B = true) (hn : (A.a.getD 0 []).length = (B.a.getD 0 []).length) (hl : A.fr.length + B.fr.length ≤ 1024) (ht : A.fr[A.fr.length - 1]? = some t) :
    vwB (shiftW B t s) = true ∧ mergeErr (shiftW B t s) A = 0 ∧ mergeRes (shiftW B t s) A = Wv.of (A.pts ++ (shiftW B t s).pts) ∧
    (cutErr (Wv.of (A.pts ++ (shiftW B t s).pts)) (cq 0 0 1) t = 0 ∧ cutRes (Wv.of (A.pts ++ (shiftW B t s).pts)) (cq 0 0 1) t = A) ∧
    (∀ lo hi, (shiftW B t s).fr[0]? = some lo → (shiftW B t s).fr[(shiftW B t s).fr.length - 1]? = some hi → cutErr (Wv.of (A.pts ++ (shiftW B t s).pts)) lo hi = 0 ∧ cutRes (Wv.of (A.pts ++ (shiftW B t s).pts)) lo hi = shiftW B t s) := by
  obtain ⟨a1, a2, a3, a4⟩ := vw_iff.1 hA
  obtain ⟨b1, b2, b3, b4⟩ := vw_iff.1 hB
  obtain ⟨ascA, pA, -⟩ := vf_asc.1 a1
  obtain ⟨ascB, pB, -⟩ := vf_asc.1 b1
  have htm := ascA.pos t (List.mem_of_getElem? ht)
  obtain ⟨ascS, habove⟩ := asc_shift s ascB htm
  have hsl : (shiftW B t s).fr.length = B.fr.length := by simp [shiftW]
  have hsa : (shiftW B t s).a.length = (shiftW B t s).fr.length := by rw [hsl]; exact b2
  have hsb : (shiftW B t s).b.length = (shiftW B t s).fr.length := by rw [hsl]; exact b3
  have hS : vwB (shiftW B t s) = true := vw_iff.2 ⟨vf_asc.2 ⟨ascS, by rw [hsl]; exact pB, by rw [hsl]; omega⟩, hsa, hsb, b4⟩
  have hAp : ∀ p ∈ A.pts, p.f.im = 0 ∧ 0 < p.f.re ∧ p.f.re ≤ t.re := fun p hp => by
    obtain ⟨i, h1, _, _⟩ := pts_mem a2 a3 hp
    have h2 := ascA.pos _ (List.mem_of_getElem? h1)
    exact ⟨h2.1, h2.2, ascA.le_last h1 ht⟩
  have hSp : ∀ p ∈ (shiftW B t s).pts, p.f.im = 0 ∧ t.re < p.f.re := fun p hp => by
    obtain ⟨i, h1, _, _⟩ := pts_mem hsa hsb hp
    exact ⟨(ascS.pos _ (List.mem_of_getElem? h1)).1, habove _ (List.mem_of_getElem? h1)⟩
  have hm : mergeP (shiftW B t s).pts A.pts = some (A.pts ++ (shiftW B t s).pts) := mergeP_above _ _ fun x hx y hy => by
    obtain ⟨h1, h2⟩ := hSp x hx
    obtain ⟨h3, _, h4⟩ := hAp y hy
    rw [qcmp_real h1 h3]
    exact rcmp_gt.2 (by grind)
  have hlen : (A.pts ++ (shiftW B t s).pts).length ≤ 1024 := by rw [List.length_append, Wv.pts_len, Wv.pts_len, hsl]; exact hl
  have hE : mergeErr (shiftW B t s) A = 0 := by
    unfold mergeErr
    rw [if_pos ⟨hS, hA⟩, if_pos (by exact hn.symm), hm]
    exact if_pos hlen
  have hR : mergeRes (shiftW B t s) A = Wv.of (A.pts ++ (shiftW B t s).pts) := by
    unfold mergeRes
    rw [if_pos hE, hm]
    rfl
  have hof : Wv.of (A.pts ++ (shiftW B t s).pts) = ⟨A.fr ++ (shiftW B t s).fr, A.a ++ B.a, A.b ++ B.b⟩ := by
    rw [of_app, Wv.of_pts a2 a3, Wv.of_pts hsa hsb]
    rfl
  have hlt : ∀ x ∈ A.fr, ∀ y ∈ (shiftW B t s).fr, x.re < y.re := fun x hx y hy => by
    obtain ⟨i, hi⟩ := List.getElem?_of_mem hx
    have h1 := ascA.le_last hi ht
    have h2 := habove y hy
    grind
  have hZ : vwB (Wv.of (A.pts ++ (shiftW B t s).pts)) = true := by
    rw [hof]
    refine vw_iff.2 ⟨vf_asc.2 ⟨ascA.app ascS hlt, ?_, ?_⟩, ?_, ?_, ?_⟩
    · simp only [List.length_append]; omega
    · simp only [List.length_append, hsl]; exact hl
    · simp only [List.length_append]; rw [a2, hsl, b2]
    · simp only [List.length_append]; rw [a3, hsl, b3]
    · have k1 := sq_all (by omega) a4
      have k2 := sq_all (by omega) b4
      rw [← hn] at k2
      refine sq_of (n := (A.a.getD 0 []).length) fun m hm => ?_
      simp only [List.mem_append] at hm k1 k2
      rcases hm with (h | h) | (h | h)
      · exact k1 m (.inl h)
      · exact k2 m (.inl h)
      · exact k1 m (.inr h)
      · exact k2 m (.inr h)
  have hzero : (cq 0 0 1).re = 0 ∧ (cq 0 0 1).im = 0 := by
    have := cq_int 0
    simpa using this
  have hcut : ∀ lo hi, lo.im = 0 → hi.im = 0 → ∀ l : List Pt, cutPts (Wv.of (A.pts ++ (shiftW B t s).pts)) lo hi = l → 0 < l.length → cutErr (Wv.of (A.pts ++ (shiftW B t s).pts)) lo hi = 0 ∧ cutRes (Wv.of (A.pts ++ (shiftW B t s).pts)) lo hi = Wv.of l := fun lo hi h1 h2 l hl hp => by
    have he : cutErr (Wv.of (A.pts ++ (shiftW B t s).pts)) lo hi = 0 := by
      unfold cutErr
      rw [if_pos ⟨hZ, h1, h2⟩, hl, if_neg (by omega)]
    exact ⟨he, by unfold cutRes; rw [if_pos he, hl]⟩
  refine ⟨hS, hE, hR, ?_, fun lo hi hlo hhi => ?_⟩
  · have hc : cutPts (Wv.of (A.pts ++ (shiftW B t s).pts)) (cq 0 0 1) t = A.pts := by
      unfold cutPts
      rw [pts_of, List.filter_append]
      have f1 : A.pts.filter (inCut (cq 0 0 1) t) = A.pts := List.filter_eq_self.2 fun p hp => by
        obtain ⟨h1, h2, h3⟩ := hAp p hp
        unfold inCut
        rw [qcmp_real h1 hzero.2, qcmp_real h1 htm.1, hzero.1, rcmp_gt.2 h2]
        rcases rcmp_cases p.f.re t.re with h | h | h
        · rw [h]; rfl
        · rw [h]; rfl
        · exact absurd (rcmp_gt.1 h) (by grind)
      have f2 : (shiftW B t s).pts.filter (inCut (cq 0 0 1) t) = [] := List.filter_eq_nil_iff.2 fun p hp => by
        obtain ⟨h1, h2⟩ := hSp p hp
        unfold inCut
        rw [qcmp_real h1 htm.1, rcmp_gt.2 h2]
        simp
      rw [f1, f2, List.append_nil]
    obtain ⟨h1, h2⟩ := hcut _ _ hzero.2 htm.1 _ hc (by rw [Wv.pts_len]; exact pA)
    exact ⟨h1, by rw [h2, Wv.of_pts a2 a3]⟩
  · have plo := ascS.pos lo (List.mem_of_getElem? hlo)
    have phi := ascS.pos hi (List.mem_of_getElem? hhi)
    have hc : cutPts (Wv.of (A.pts ++ (shiftW B t s).pts)) lo hi = (shiftW B t s).pts := by
      unfold cutPts
      rw [pts_of, List.filter_append]
      have f1 : A.pts.filter (inCut lo hi) = [] := List.filter_eq_nil_iff.2 fun p hp => by
        obtain ⟨h1, h2, h3⟩ := hAp p hp
        have h4 := habove lo (List.mem_of_getElem? hlo)
        unfold inCut
        rw [qcmp_real h1 plo.1, rcmp_lt.2 (by grind)]
        simp
      have f2 : (shiftW B t s).pts.filter (inCut lo hi) = (shiftW B t s).pts := List.filter_eq_self.2 fun p hp => by
        obtain ⟨i, h1, _, _⟩ := pts_mem hsa hsb hp
        have h2 := ascS.pos _ (List.mem_of_getElem? h1)
        have h3 := ascS.first_le h1 hlo
        have h4 := ascS.le_last h1 hhi
        unfold inCut
        rw [qcmp_real h2.1 plo.1, qcmp_real h2.1 phi.1]
        have g1 : 0 ≤ rcmp p.f.re lo.re := by
          rcases rcmp_cases p.f.re lo.re with h | h | h
          · exact absurd (rcmp_lt.1 h) (by grind)
          · omega
          · omega
        have g2 : rcmp p.f.re hi.re ≤ 0 := by
          rcases rcmp_cases p.f.re hi.re with h | h | h
          · omega
          · omega
          · exact absurd (rcmp_gt.1 h) (by grind)
        rw [decide_eq_true g1, decide_eq_true g2]
        rfl
      rw [f1, f2, List.nil_append]
    obtain ⟨h1, h2⟩ := hcut _ _ plo.1 phi.1 _ hc (by rw [Wv.pts_len, hsl]; exact pB)
    exact ⟨h1, by rw [h2, Wv.of_pts hsa hsb]⟩
end Go.Proofs.YtpnfdlnhmhekeaaGreat
