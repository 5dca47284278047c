/- Short forms of the steps of XLate. Conditions: none. -/
import Derived.Test.YtfkogkcpndaoeaaGreatMRegion
set_option linter.all false
namespace Go.Proofs.YtfkogkcpndaoeaaGreat
open Go.RowKit
section
variable {α : Type}
theorem q1 {l : List α} {i : Nat} {a : α} : l.toArray.setIfInBounds i a = (l.set i a).toArray := List.setIfInBounds_toArray ..
theorem q2 {a b : α} {l : List α} : (a :: l).set 0 b = b :: l := rfl
theorem q3 {a b : α} {l : List α} {n : Nat} : (a :: l).set (n + 1) b = a :: l.set n b := rfl
theorem q4 {l : List α} {i : Nat} (h : i < l.toArray.size) : l.toArray[i] = l[i]'(by simpa using h) := rfl
theorem q5 {a : α} {l : List α} (h : 0 < (a :: l).length) : (a :: l)[0] = a := rfl
theorem q6 {a : α} {l : List α} {n : Nat} (h : n + 1 < (a :: l).length) : (a :: l)[n + 1] = l[n]'(by simpa using h) := rfl
theorem q7 {l : List α} {i : Nat} : l.toArray[i]? = l[i]? := List.getElem?_toArray ..
theorem q8 {a : α} {l : List α} : (a :: l)[0]? = some a := rfl
theorem q9 {a : α} {l : List α} {n : Nat} : (a :: l)[n + 1]? = l[n]? := rfl
end
theorem lr {n : Nat} : n ≤ n := Nat.le_refl n
section
variable {P : Program} {md : Region.Mode} {ops : Array Oper} {Q : Exit → Act → World → Prop} {S L : World → Prop} {late : Nat → Bool}
theorem mt (i : Nat) (v : Value) {oi : Oper} {n : Nat} {listed : Array Bool} {a : Act} {w : World} (hi : ops[i]? = some oi)
    (hw : Region.wanted oi (yielded ops a.tmps) = true) (hy : ∀ w, S w → (execOp a.eval oi).run P w = .ok (.value v) w) (hS : S w)
    (h : wpAnyM P md ops Q S L late n (listed.setIfInBounds i true) (a.put oi.dst v) w) (hs : (Region.noSelect ops && Region.free md ops listed i && (Region.ready md ops listed).contains i) = true := by kernel_rfl)
    (hQ : ∀ c a w, Q (.panic c) (a.put oi.dst v) w → Q (.panic c) a w := by exact fun _ _ _ h => h) : wpAnyM P md ops Q S L late (n + 1) listed a w := by
  rw [Bool.and_eq_true, Bool.and_eq_true] at hs
  exact wpAnyM_take hi hs.1.1 hs.1.2 hs.2 hQ hw hy hS h
theorem mk (i : Nat) {oi : Oper} {n : Nat} {listed : Array Bool} {a : Act} {w : World} (hi : ops[i]? = some oi)
    (hw : Region.wanted oi (yielded ops a.tmps) = false) (hS : S w) (h : wpAnyM P md ops Q S L late n (listed.setIfInBounds i true) (a.put oi.dst undef) w)
    (hs : (Region.noSelect ops && Region.free md ops listed i && (Region.ready md ops listed).contains i) = true := by kernel_rfl)
    (hQ : ∀ c a w, Q (.panic c) (a.put oi.dst undef) w → Q (.panic c) a w := by exact fun _ _ _ h => h) : wpAnyM P md ops Q S L late (n + 1) listed a w := by
  rw [Bool.and_eq_true, Bool.and_eq_true] at hs
  exact wpAnyM_skip hi hs.1.1 hs.1.2 hs.2 hQ hw hS h
theorem mo (i : Nat) {o : Oper} {n : Nat} {listed : Array Bool} {a : Act} {w : World} (ho : ops[i]? = some o)
    (h : ∀ K : Act → World → Prop, (∀ a' w', S w' → (late i = false → L w → L w') → wpAnyM P md ops Q S L late n (listed.setIfInBounds i true) a' w' → K a' w') →
      if Region.wanted o (yielded ops a.tmps) = true then o.wp P a w K Q else K (a.put o.dst undef) w) (hr : Region.ready md ops listed = [i] := by kernel_rfl) : wpAnyM P md ops Q S L late (n + 1) listed a w := wpAnyM_one hr ho h
end
end Go.Proofs.YtfkogkcpndaoeaaGreat
