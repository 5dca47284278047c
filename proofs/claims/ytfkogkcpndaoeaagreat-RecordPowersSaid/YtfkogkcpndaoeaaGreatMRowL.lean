/- Rows of things: slices that a call owns, slices that are read. Conditions: none. -/
import Derived.Test.YtfkogkcpndaoeaaGreatMEnc
import Derived.Test.YtfkogkcpndaoeaaGreatMRNatE
import Derived.Test.YtfkogkcpndaoeaaGreatMVals
set_option linter.all false
namespace Go.Proofs.YtfkogkcpndaoeaaGreat
open Go.RowKit
structure Stable {α : Type} (R : World → List Value → α → Prop) (ts : List TypeId) : Prop where
  below : ∀ {w w' : World} {u : List Value} {x : α} {B : Nat}, R w u x → Below B w w' → w.heap.size ≤ B → R w' u x
  row : ∀ {w w' : World} {base size n : Nat} {E : TypeId} {s : Value} {cs u : List Value} {x : α}, R w u x → w.ownsRow base E size s n cs → E ∉ ts → w.grownBy w' s.ownBlock → R w' u x
def RowOf {α : Type} (R : World → List Value → α → Prop) (T : TypeId) (size : Nat) (w : World) (base : Nat) (v : Value) (l : List α) : Prop :=
  ∃ us : List (List Value), us.length = l.length ∧ w.ownsRow base T size v l.length us.flatten ∧ ∀ (i : Nat) (u : List Value) (x : α), us[i]? = some u → l[i]? = some x → u.length = size ∧ R w u x
def SlOf {α : Type} (R : World → List Value → α → Prop) (size : Nat) (w : World) (v : Value) (l : List α) : Prop :=
  ∃ a c, v = .slice a l.length c ∧ l.length ≤ c ∧ c ≤ 9223372036854775807 ∧ ∀ (i : Nat) (x : α), l[i]? = some x → ∃ b o u, a = some ⟨b, o, none⟩ ∧ u.length = size ∧ R w u x ∧ ∀ (j : Nat) (y : Value), u[j]? = some y → w.cell? ⟨b, o + i * size + j, none⟩ = some y
theorem RowOf.nil {α : Type} (R : World → List Value → α → Prop) (T : TypeId) (size : Nat) (w : World) (base : Nat) : RowOf R T size w base (.slice none 0 0) [] :=
  ⟨[], rfl, World.ownsRow_nil _ _ _ _, fun i u x hu => by simp at hu⟩
variable {α : Type} {R : World → List Value → α → Prop} {T : TypeId} {size : Nat} {ts : List TypeId}
theorem RowOf.below {w w' : World} {base : Nat} {v : Value} {l : List α} (hS : Stable R ts) (h : RowOf R T size w base v l) (hb : Below w.heap.size w w') : RowOf R T size w' base v l := by
  obtain ⟨us, h1, h2, h3⟩ := h
  exact ⟨us, h1, row_below h2 hb, fun i u x hu hx => ⟨(h3 i u x hu hx).1, hS.below (h3 i u x hu hx).2 hb (Nat.le_refl _)⟩⟩
theorem SlOf.below {w w' : World} {B : Nat} {v : Value} {l : List α} (hS : Stable R ts) (h : SlOf R size w v l) (hb : Below B w w') (hB : w.heap.size ≤ B) : SlOf R size w' v l := by
  obtain ⟨a, c, h1, h2, h3, h4⟩ := h
  refine ⟨a, c, h1, h2, h3, fun i x hx => ?_⟩
  obtain ⟨b, o, u, e1, e2, e3, e4⟩ := h4 i x hx
  refine ⟨b, o, u, e1, e2, hS.below e3 hb hB, fun j y hy => ?_⟩
  have hc := e4 j y hy
  have hlt := World.block_lt_of_cell? w _ hc
  rw [hb.cell (Nat.lt_of_lt_of_le hlt hB)]
  exact hc
theorem flatten_at {size : Nat} {us : List (List Value)} (h : ∀ u ∈ us, u.length = size) {i j : Nat} {u : List Value} {y : Value} (hu : us[i]? = some u) (hy : u[j]? = some y) : us.flatten[i * size + j]? = some y := by
  induction us generalizing i with
  | nil => simp at hu
  | cons x t ih =>
    rw [List.flatten_cons]
    have hx := h x (List.mem_cons_self ..)
    cases i with
    | zero =>
      simp only [List.getElem?_cons_zero, Option.some.injEq] at hu
      subst hu
      rw [Nat.zero_mul, Nat.zero_add, List.getElem?_append_left (List.getElem?_eq_some_iff.1 hy).1]
      exact hy
    | succ i =>
      simp only [List.getElem?_cons_succ] at hu
      rw [List.getElem?_append_right (by rw [hx, Nat.succ_mul]; omega), hx, show (i + 1) * size + j - size = i * size + j by rw [Nat.succ_mul]; omega]
      exact ih (fun u hu => h u (List.mem_cons_of_mem _ hu)) hu
theorem RowOf.sl {w : World} {base : Nat} {v : Value} {l : List α} (h : RowOf R T size w base v l) : SlOf R size w v l := by
  obtain ⟨us, h1, ⟨h2, h2'⟩, h3⟩ := h
  rcases h2' with ⟨rfl, h0⟩ | ⟨g, cap, cur, rfl, hg, hgg, hc1, hc2, hc3, htk⟩
  · have : l = [] := List.eq_nil_of_length_eq_zero h0
    subst this
    exact ⟨none, 0, rfl, Nat.le_refl _, by omega, fun i x hx => by simp at hx⟩
  · refine ⟨_, cap, rfl, hc1, hc2, fun i x hx => ?_⟩
    have hi := (List.getElem?_eq_some_iff.1 hx).1
    obtain ⟨u, hu⟩ : ∃ u, us[i]? = some u := ⟨_, List.getElem?_eq_getElem (by omega)⟩
    obtain ⟨e1, e2⟩ := h3 i u x hu hx
    refine ⟨g, 0, u, rfl, e1, e2, fun j y hy => ?_⟩
    have hall : ∀ u ∈ us, u.length = size := fun u' hu' => by
      obtain ⟨i', hi', rfl⟩ := List.getElem_of_mem hu'
      exact (h3 i' _ _ (List.getElem?_eq_getElem hi') (List.getElem?_eq_getElem (by omega))).1
    have hf := flatten_at hall hu hy
    have hlt := (List.getElem?_eq_some_iff.1 hf).1
    rw [h2] at hlt
    rw [Nat.zero_add]
    simp only [World.cell?, hgg]
    rw [← htk, List.getElem?_take_of_lt hlt] at hf
    simpa using hf
theorem RowOf.base {w : World} {base c : Nat} {v : Value} {l : List α} (h : RowOf R T size w base v l) (hb : c ≤ base) : RowOf R T size w c v l := by
  obtain ⟨us, h1, ⟨h2, h2'⟩, h3⟩ := h
  refine ⟨us, h1, ⟨h2, ?_⟩, h3⟩
  rcases h2' with h2 | ⟨g, cap, cur, e, hg, r⟩
  · exact .inl h2
  · exact .inr ⟨g, cap, cur, e, Nat.le_trans hb hg, r⟩
theorem row_push {w W1 wa : World} {base ga ca n : Nat} {v : Value} {us : List (List Value)} {u : List Value} {l : List α} {x : α} (hS : Stable R ts) (hT : T ∉ ts)
    (hn : l.length = n) (hul : us.length = n) (hr : w.ownsRow base T size v n us.flatten) (hus : ∀ (i : Nat) (u : List Value) (x : α), us[i]? = some u → l[i]? = some x → u.length = size ∧ R w u x) (hbs : base ≤ w.heap.size)
    (hb1 : Below w.heap.size w W1) (hu : R W1 u x) (hu5 : u.length = size)
    (hma : wa.ownsRow base T size (.slice (some ⟨ga, 0, none⟩) (n + 1) ca) (n + 1) (us.flatten ++ u)) (hga : (W1.alloc (.cells u.toArray T)).grownBy wa v.ownBlock) :
    Below base w wa ∧ RowOf R T size wa base (.slice (some ⟨ga, 0, none⟩) (n + 1) ca) (l ++ [x]) ∧ base ≤ wa.heap.size := by
  have hb2 : Below w.heap.size w (W1.alloc (.cells u.toArray T)) := hb1.alloc hb1.size _
  have hbA : Below W1.heap.size W1 (W1.alloc (.cells u.toArray T)) := (Below.refl _ _).alloc (Nat.le_refl _) _
  have hu' := hS.below hu hbA (Nat.le_refl _)
  have hsz := hb2.size
  generalize W1.alloc (.cells u.toArray T) = V at *
  have hrV := row_below hr hb2
  refine ⟨below_row (hb2.mono hbs) hrV hga (Nat.le_refl _) (by omega), ⟨us ++ [u], by simp [hul, hn], by simpa [hn] using hma, fun i y z hy hz => ?_⟩, by have := hga.size; omega⟩
  rcases Nat.lt_or_ge i us.length with hi | hi
  · rw [List.getElem?_append_left hi] at hy
    rw [List.getElem?_append_left (by omega)] at hz
    exact ⟨(hus i y z hy hz).1, hS.row (hS.below (hus i y z hy hz).2 hb2 (Nat.le_refl _)) hrV hT hga⟩
  · rw [List.getElem?_append_right hi] at hy
    rw [List.getElem?_append_right (by omega)] at hz
    have hik : i = us.length := by
      have := (List.getElem?_eq_some_iff.1 hy).1
      simp at this; omega
    subst hik
    rw [hul, ← hn] at hz
    simp only [Nat.sub_self, List.getElem?_cons_zero, Option.some.injEq] at hy hz
    subst hy hz
    exact ⟨hu5, hS.row hu' hrV hT hga⟩
def NumC (w : World) (u : List Value) (x : CQ) : Prop := NumRep w (.agg u.toArray) x
def QC (w : World) (u : List Value) (x : CQ) : Prop := QRep w (.agg u.toArray) x
theorem RTri.row {w w' : World} {base size n : Nat} {E : TypeId} {s : Value} {cs : List Value} {v : Value} {a b : Int} {d : Nat} (h : RTri w v a b d) (hr : w.ownsRow base E size s n cs) (hE : E ≠ 28) (hg : w.grownBy w' s.ownBlock) : RTri w' v a b d := by
  obtain ⟨m1, m2, m3, e, h1, h2, h3, h4⟩ := h
  exact ⟨m1, m2, m3, e, h1.row hr hE hg, h2.row hr hE hg, h3.row hr hE hg, h4⟩
theorem QRep.row {w w' : World} {base size n : Nat} {E : TypeId} {s : Value} {cs : List Value} {v : Value} {x : CQ} (h : QRep w v x) (hr : w.ownsRow base E size s n cs) (hE : E ≠ 28) (hg : w.grownBy w' s.ownBlock) : QRep w' v x := by
  obtain ⟨a, b, d, h1, h2⟩ := h
  exact ⟨a, b, d, h1.row hr hE hg, h2⟩
theorem num_stable : Stable NumC [28] := ⟨fun h hb hB => NumRep.below h hb hB, fun h hr hE hg => NumRep.row h hr (by simpa using hE) hg⟩
theorem q_stable : Stable QC [28] := ⟨fun h hb hB => QRep.below h hb hB, fun h hr hE hg => QRep.row h hr (by simpa using hE) hg⟩
theorem info_q : (Tryz.prog.info? 46).map (fun i => (i.zero, i.size, i.bytes)) = some (some (.agg #[.bool false, .slice none 0 0, .bool false, .slice none 0 0, .slice none 0 0]), 5, 88) := by kernel_rfl
end Go.Proofs.YtfkogkcpndaoeaaGreat
