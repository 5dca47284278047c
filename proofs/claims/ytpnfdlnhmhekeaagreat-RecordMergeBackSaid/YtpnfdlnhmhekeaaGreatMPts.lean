/- Sweeps as lists of points; merging them; plain. Conditions: none. -/
import Derived.Test.YtpnfdlnhmhekeaaGreatMPut
import Derived.Test.YtpnfdlnhmhekeaaGreatMVWaves
set_option linter.unusedSimpArgs false
set_option linter.unusedVariables false
set_option linter.all false
namespace Go.Proofs.YtpnfdlnhmhekeaaGreat
open Go.RowKit

/-- A point of a sweep. -/
structure Pt where
  f : CQ
  a : List (List CQ)
  b : List (List CQ)
def Wv.of (l : List Pt) : Wv := ⟨l.map Pt.f, l.map Pt.a, l.map Pt.b⟩
def Wv.pts (x : Wv) : List Pt := (List.range x.fr.length).map fun i => ⟨x.fr.getD i (cq 0 0 1), x.a.getD i [], x.b.getD i []⟩
theorem Wv.pts_len (x : Wv) : x.pts.length = x.fr.length := by simp [Wv.pts]
theorem Wv.pts_at {x : Wv} {i : Nat} {p : Pt} (h : x.pts[i]? = some p) (ha : x.a.length = x.fr.length) (hb : x.b.length = x.fr.length) : x.fr[i]? = some p.f ∧ x.a[i]? = some p.a ∧ x.b[i]? = some p.b := by
  have hi : i < x.fr.length := by rw [← Wv.pts_len]; exact (List.getElem?_eq_some_iff.1 h).1
  unfold Wv.pts at h
  rw [List.getElem?_map, List.getElem?_range hi] at h
  obtain rfl := Option.some.inj h
  refine ⟨?_, ?_, ?_⟩
  · rw [List.getElem?_eq_getElem hi]; simp [List.getD, List.getElem?_eq_getElem hi]
  · rw [List.getElem?_eq_getElem (by omega)]; simp [List.getD, List.getElem?_eq_getElem (show i < x.a.length by omega)]
  · rw [List.getElem?_eq_getElem (by omega)]; simp [List.getD, List.getElem?_eq_getElem (show i < x.b.length by omega)]
theorem Wv.of_pts {x : Wv} (ha : x.a.length = x.fr.length) (hb : x.b.length = x.fr.length) : Wv.of x.pts = x := by
  obtain ⟨fr, a, b⟩ := x
  simp only at ha hb
  unfold Wv.of
  congr 1
  · apply List.ext_getElem?
    intro i
    rcases Nat.lt_or_ge i fr.length with hi | hi
    · have h : (Wv.pts ⟨fr, a, b⟩)[i]? = some ((Wv.pts ⟨fr, a, b⟩)[i]'(by rw [Wv.pts_len]; exact hi)) := List.getElem?_eq_getElem _
      rw [List.getElem?_map, h, (Wv.pts_at h ha hb).1]; rfl
    · rw [List.getElem?_eq_none (by rw [List.length_map, Wv.pts_len]; exact hi), List.getElem?_eq_none hi]
  · apply List.ext_getElem?
    intro i
    rcases Nat.lt_or_ge i fr.length with hi | hi
    · have h : (Wv.pts ⟨fr, a, b⟩)[i]? = some ((Wv.pts ⟨fr, a, b⟩)[i]'(by rw [Wv.pts_len]; exact hi)) := List.getElem?_eq_getElem _
      rw [List.getElem?_map, h, (Wv.pts_at h ha hb).2.1]; rfl
    · rw [List.getElem?_eq_none (by rw [List.length_map, Wv.pts_len]; exact hi), List.getElem?_eq_none (by omega)]
  · apply List.ext_getElem?
    intro i
    rcases Nat.lt_or_ge i fr.length with hi | hi
    · have h : (Wv.pts ⟨fr, a, b⟩)[i]? = some ((Wv.pts ⟨fr, a, b⟩)[i]'(by rw [Wv.pts_len]; exact hi)) := List.getElem?_eq_getElem _
      rw [List.getElem?_map, h, (Wv.pts_at h ha hb).2.2]; rfl
    · rw [List.getElem?_eq_none (by rw [List.length_map, Wv.pts_len]; exact hi), List.getElem?_eq_none (by omega)]
theorem Wv.of_snoc (l : List Pt) (p : Pt) : Wv.of (l ++ [p]) = ⟨(Wv.of l).fr ++ [p.f], (Wv.of l).a ++ [p.a], (Wv.of l).b ++ [p.b]⟩ := by simp [Wv.of]

/-- The merged points; none if two are at one frequency. -/
def mergeP : List Pt → List Pt → Option (List Pt)
  | [], ys => some ys
  | x :: xs, [] => some (x :: xs)
  | x :: xs, y :: ys => if qcmp x.f y.f = 0 then none else if qcmp x.f y.f = -1 then (mergeP xs (y :: ys)).map (x :: ·) else (mergeP (x :: xs) ys).map (y :: ·)
  termination_by l m => l.length + m.length

theorem mergeP_nil (l : List Pt) : mergeP l [] = some l := by cases l <;> simp [mergeP]
/-- One step of the loop. -/
theorem mergeP_left {xs ys : List Pt} {i k : Nat} {x : Pt} (hx : xs[i]? = some x) (h : ys.length = k ∨ ∃ y, ys[k]? = some y ∧ qcmp x.f y.f = -1) : mergeP (xs.drop i) (ys.drop k) = (mergeP (xs.drop (i + 1)) (ys.drop k)).map (x :: ·) := by
  have hi : i < xs.length := (List.getElem?_eq_some_iff.1 hx).1
  have h1 : xs.drop i = x :: xs.drop (i + 1) := by
    rw [List.drop_eq_getElem_cons hi]
    rw [List.getElem?_eq_getElem hi] at hx
    rw [Option.some.inj hx]
  rcases h with h | ⟨y, hy, hc⟩
  · rw [show ys.drop k = [] from List.drop_of_length_le (by omega), mergeP_nil, mergeP_nil, h1]
    rfl
  · have hk : k < ys.length := (List.getElem?_eq_some_iff.1 hy).1
    have h2 : ys.drop k = y :: ys.drop (k + 1) := by
      rw [List.drop_eq_getElem_cons hk]
      rw [List.getElem?_eq_getElem hk] at hy
      rw [Option.some.inj hy]
    rw [h1, h2, mergeP, if_neg (by rw [hc]; decide), if_pos hc]
theorem mergeP_right {xs ys : List Pt} {i k : Nat} {y : Pt} (hy : ys[k]? = some y) (h : xs.length = i ∨ ∃ x, xs[i]? = some x ∧ qcmp x.f y.f ≠ 0 ∧ qcmp x.f y.f ≠ -1) : mergeP (xs.drop i) (ys.drop k) = (mergeP (xs.drop i) (ys.drop (k + 1))).map (y :: ·) := by
  have hk : k < ys.length := (List.getElem?_eq_some_iff.1 hy).1
  have h2 : ys.drop k = y :: ys.drop (k + 1) := by
    rw [List.drop_eq_getElem_cons hk]
    rw [List.getElem?_eq_getElem hk] at hy
    rw [Option.some.inj hy]
  rcases h with h | ⟨x, hx, hc, hd⟩
  · rw [show xs.drop i = [] from List.drop_of_length_le (by omega)]
    simp [mergeP, h2]
  · have hi : i < xs.length := (List.getElem?_eq_some_iff.1 hx).1
    have h1 : xs.drop i = x :: xs.drop (i + 1) := by
      rw [List.drop_eq_getElem_cons hi]
      rw [List.getElem?_eq_getElem hi] at hx
      rw [Option.some.inj hx]
    rw [h1, h2, mergeP, if_neg hc, if_neg hd]
theorem mergeP_twice {xs ys : List Pt} {i k : Nat} {x y : Pt} (hx : xs[i]? = some x) (hy : ys[k]? = some y) (hc : qcmp x.f y.f = 0) : mergeP (xs.drop i) (ys.drop k) = none := by
  have hi : i < xs.length := (List.getElem?_eq_some_iff.1 hx).1
  have hk : k < ys.length := (List.getElem?_eq_some_iff.1 hy).1
  rw [List.drop_eq_getElem_cons hi, List.drop_eq_getElem_cons hk]
  rw [List.getElem?_eq_getElem hi] at hx
  rw [List.getElem?_eq_getElem hk] at hy
  rw [Option.some.inj hx, Option.some.inj hy, mergeP, if_pos hc]
theorem mergeP_end {xs ys : List Pt} {i k : Nat} (hi : xs.length ≤ i) (hk : ys.length ≤ k) : mergeP (xs.drop i) (ys.drop k) = some [] := by
  rw [List.drop_of_length_le hi, List.drop_of_length_le hk, mergeP]

/-- The error and the sweep that Merge returns. -/
def mergeErr (v w : Wv) : Nat :=
  if vwB v = true ∧ vwB w = true then
    if (v.a.getD 0 []).length = (w.a.getD 0 []).length then
      match mergeP v.pts w.pts with
      | none => 8
      | some l => if l.length ≤ 1024 then 0 else 9
    else 4
  else 1
def mergeRes (v w : Wv) : Wv := if mergeErr v w = 0 then Wv.of ((mergeP v.pts w.pts).getD []) else Wv.of []

/-- What a valid sweep is. -/
theorem vw_parts {x : Wv} (h : vwB x = true) : 0 < x.fr.length ∧ x.fr.length ≤ 1024 ∧ x.a.length = x.fr.length ∧ x.b.length = x.fr.length ∧ (∀ m ∈ x.a, matFit m) ∧ (∀ m ∈ x.b, matFit m) := by
  unfold vwB at h
  rw [Bool.and_eq_true, Bool.and_eq_true, Bool.and_eq_true, decide_eq_true_iff, decide_eq_true_iff] at h
  obtain ⟨⟨⟨h1, h2⟩, h3⟩, h4⟩ := h
  obtain ⟨h5, h6⟩ := vf_len h1
  have key : ∀ m ∈ x.a ++ x.b, matFit m := by
    cases hl : x.a ++ x.b with
    | nil => intro m hm; cases hm
    | cons m0 l =>
      rw [hl] at h4
      have h7 : (m0 :: l).all (matN m0.length) = true := h4
      rw [List.all_eq_true] at h7
      intro m hm
      have h8 := h7 m hm
      unfold matN inR at h8
      simp at h8
      obtain ⟨⟨h9, h10, h11⟩, h12⟩ := h8
      exact ⟨by omega, fun r hr => by have := h12 r hr; omega⟩
  exact ⟨h5, h6, h2, h3, fun m hm => key m (List.mem_append_left _ hm), fun m hm => key m (List.mem_append_right _ hm)⟩
end Go.Proofs.YtpnfdlnhmhekeaaGreat
