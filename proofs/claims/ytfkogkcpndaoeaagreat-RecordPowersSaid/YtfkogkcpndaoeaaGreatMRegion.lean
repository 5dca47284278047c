/- A region of a body, by its number; a post that bars every way out but the plain one. A region that draws its order and ends in stores into what it has loaded: a load may be taken first under a condition that the late operations need not keep. Conditions: none. -/
import Derived.Test.YtfkogkcpndaoeaaGreatProg
import Derived.WalkKit
import Derived.OrdersHeld
set_option linter.all false
namespace Go.Proofs.YtfkogkcpndaoeaaGreat
open Go.RowKit
def findRegion (r : Nat) : Code → Option Code
  | .region i ops b => if i = r then some (.region i ops b) else none
  | .seq a b => match findRegion r a with
    | some c => some c
    | none => findRegion r b
  | .loop c => findRegion r c
  | .block _ c => findRegion r c
  | .scope c => findRegion r c
  | .cond _ a b => match findRegion r a with
    | some c => some c
    | none => findRegion r b
  | _ => none
def Only (R : Act → World → Prop) : Exit → Act → World → Prop
  | .normal, a, w => R a w
  | _, _, _ => False
theorem only_mono {P : Program} {c : Code} {R : Act → World → Prop} {Q : Exit → Act → World → Prop} {a : Act} {w : World} (h : c.wp P (Only R) a w) (hQ : ∀ a w, R a w → Q .normal a w) : c.wp P Q a w :=
  Code.wp_mono (fun e a w h => by
    cases e
    case normal => exact hQ a w h
    all_goals exact absurd h (by simp [Only])) h
theorem only_of {P : Program} {c : Code} {Q : Exit → Act → World → Prop} {a : Act} {w : World} (h : c.wp P (Only fun a w => Q .normal a w) a w) : c.wp P Q a w := only_mono h fun _ _ h => h
end Go.Proofs.YtfkogkcpndaoeaaGreat
namespace Go.Proofs.YtfkogkcpndaoeaaGreat
section
variable {P : Program} {md : Region.Mode} {ops : Array Oper} {Q : Exit → Act → World → Prop} {S L : World → Prop} {late : Nat → Bool}
def wpAnyM (P : Program) (md : Region.Mode) (ops : Array Oper) (Q : Exit → Act → World → Prop) (S L : World → Prop) (late : Nat → Bool) : Nat → Array Bool → Act → World → Prop
  | 0, listed, a, w => Region.ready md ops listed = [] ∧ Q .normal a w
  | n + 1, listed, a, w => (Region.ready md ops listed = [] → Q .normal a w) ∧
      ∀ i ∈ Region.ready md ops listed, wpOp P ops Q i (fun a' w' => S w' ∧ (late i = false → L w → L w') ∧ wpAnyM P md ops Q S L late n (listed.setIfInBounds i true) a' w') a w
theorem wpAny_of_late : ∀ (n : Nat) (listed : Array Bool) (a : Act) (w : World), wpAnyM P md ops Q S L late n listed a w → wpAny P md ops Q n listed a w
  | 0, _, _, _, h => h
  | n + 1, _, _, _, h => ⟨h.1, fun i hi => wpOp_mono (fun a' w' h' => wpAny_of_late n _ a' w' h'.2.2) (h.2 i hi)⟩
theorem wpAnyM_first {i : Nat} {oi : Oper} {v : Value} (b : Bool) (hi : ops[i]? = some oi) (hsel : ∀ (j : Nat) (o : Oper) cs c, ops[j]? = some o → o.op ≠ .select cs c)
    (hQ : ∀ c a w, Q (.panic c) (a.put oi.dst v) w → Q (.panic c) a w)
    (hlate : b = true → ∀ (j : Nat) (oj : Oper), ops[j]? = some oj → late j = true → ∃ e ∈ oj.after, Region.binds md e = true ∧ e.on = i) :
    ∀ (n : Nat) (listed : Array Bool) (a : Act) (w : World),
      (∀ j oj, ops[j]? = some oj → j ≠ i → listed.getD j true = false → (∀ e ∈ oj.after, Region.binds md e = true → e.on ≠ i) → oi.apart ops oj = true) →
      i ∈ Region.ready md ops listed → YieldsIf P ops (fun w => S w ∧ (b = true → L w)) oi v a → S w → (b = true → L w) →
      wpAnyM P md ops Q S L late n (listed.setIfInBounds i true) (a.put oi.dst v) w → wpAnyM P md ops Q S L late (n + 1) listed a w := by
  intro n
  induction n with
  | zero =>
    intro listed a w _ hr hy hS hb H
    refine ⟨(fun h => by rw [h] at hr; cases hr), fun j hj => ?_⟩
    rcases Decidable.em (j = i) with e | hne
    · subst e
      exact hy.wpOp hi ⟨hS, hb⟩ ⟨hS, fun _ h => h, H⟩
    · have := ready_mono hj hne
      rw [H.1] at this
      cases this
  | succ n ih =>
    intro listed a w hfree hr hy hS hb H
    refine ⟨(fun h => by rw [h] at hr; cases hr), fun j hj => ?_⟩
    rcases Decidable.em (j = i) with e | hne
    · subst e
      exact hy.wpOp hi ⟨hS, hb⟩ ⟨hS, fun _ h => h, H⟩
    · obtain ⟨hun, oj, hoj, hdeps⟩ := mem_ready.1 hj
      have hi0 := (mem_ready.1 hr).1
      have hoff : ∀ e ∈ oj.after, Region.binds md e = true → e.on ≠ i := fun e he hbind heq => by
        have h1 := hdeps e he hbind
        rw [heq] at h1
        rcases Nat.lt_or_ge i listed.size with h | h
        · simp [h] at hi0 h1
          rw [hi0] at h1
          cases h1
        · simp [Array.getElem?_eq_none h] at h1
      have hput := wpOp_putIf hoj (hfree j oj hoj hne hun hoff) (fun cs c => hsel i oi cs c hi) (fun cs c => hsel j oj cs c hoj) hQ hy (H.2 j (ready_mono hj hne))
      have hfree2 : ∀ k ok, ops[k]? = some ok → k ≠ i → (listed.setIfInBounds j true).getD k true = false → (∀ e ∈ ok.after, Region.binds md e = true → e.on ≠ i) → oi.apart ops ok = true := fun k ok hk hki hku hno => by
        refine hfree k ok hk hki ?_ hno
        rcases Decidable.em (j = k) with e | hjk
        · exact e ▸ hun
        · rwa [getD_set_ne true hjk] at hku
      refine wpOp_mono (fun a' w' h => ?_) hput
      obtain ⟨h1, h2, h3, h4⟩ := h
      have hlj : b = true → L w' := fun hbt => h3 (by
        cases hl : late j with
        | false => rfl
        | true =>
          obtain ⟨e, he, hbind, hon⟩ := hlate hbt j oj hoj hl
          exact absurd hon (hoff e he hbind)) (hb hbt)
      refine ⟨h2, h3, ih _ a' w' hfree2 (ready_mono hr (Ne.symm hne)) h1 h2 hlj ?_⟩
      rw [Array.setIfInBounds_comm _ _ hne]
      exact h4
def lateB (md : Region.Mode) (ops : Array Oper) (late : Nat → Bool) (i : Nat) : Bool := (List.range ops.size).all fun j => !late j || match ops[j]? with
  | some o => o.after.any fun e => Region.binds md e && decide (e.on = i)
  | none => true
theorem wpAnyM_take {i : Nat} {oi : Oper} {v : Value} {n : Nat} {listed : Array Bool} {a : Act} {w : World} (hi : ops[i]? = some oi)
    (hs : Region.noSelect ops = true) (hf : Region.free md ops listed i = true) (hr : (Region.ready md ops listed).contains i = true)
    (hQ : ∀ c a w, Q (.panic c) (a.put oi.dst v) w → Q (.panic c) a w) (hw : Region.wanted oi (yielded ops a.tmps) = true) (hy : ∀ w, S w → (execOp a.eval oi).run P w = .ok (.value v) w) (hS : S w)
    (h : wpAnyM P md ops Q S L late n (listed.setIfInBounds i true) (a.put oi.dst v) w) : wpAnyM P md ops Q S L late (n + 1) listed a w :=
  wpAnyM_first false hi (Region.noSelect_spec hs) hQ (fun h => by cases h) n listed a w (Region.free_spec hi hf) (by simpa using hr) (.inl ⟨hw, fun w h => hy w h.1⟩) hS (fun h => by cases h) h
theorem wpAnyM_skip {i : Nat} {oi : Oper} {n : Nat} {listed : Array Bool} {a : Act} {w : World} (hi : ops[i]? = some oi)
    (hs : Region.noSelect ops = true) (hf : Region.free md ops listed i = true) (hr : (Region.ready md ops listed).contains i = true)
    (hQ : ∀ c a w, Q (.panic c) (a.put oi.dst undef) w → Q (.panic c) a w) (hw : Region.wanted oi (yielded ops a.tmps) = false) (hS : S w)
    (h : wpAnyM P md ops Q S L late n (listed.setIfInBounds i true) (a.put oi.dst undef) w) : wpAnyM P md ops Q S L late (n + 1) listed a w :=
  wpAnyM_first false hi (Region.noSelect_spec hs) hQ (fun h => by cases h) n listed a w (Region.free_spec hi hf) (by simpa using hr) (.inr ⟨hw, rfl⟩) hS (fun h => by cases h) h
theorem wpAnyM_one {i : Nat} {o : Oper} {n : Nat} {listed : Array Bool} {a : Act} {w : World} (hr : Region.ready md ops listed = [i]) (ho : ops[i]? = some o)
    (h : ∀ K : Act → World → Prop, (∀ a' w', S w' → (late i = false → L w → L w') → wpAnyM P md ops Q S L late n (listed.setIfInBounds i true) a' w' → K a' w') →
      if Region.wanted o (yielded ops a.tmps) = true then o.wp P a w K Q else K (a.put o.dst undef) w) : wpAnyM P md ops Q S L late (n + 1) listed a w := by
  refine ⟨(fun h0 => by rw [hr] at h0; cases h0), fun j hj => ?_⟩
  rw [hr, List.mem_singleton] at hj
  subst hj
  have h1 := h (fun a' w' => S w' ∧ (late j = false → L w → L w') ∧ wpAnyM P md ops Q S L late n (listed.setIfInBounds j true) a' w') (fun a' w' hS hL hM => ⟨hS, hL, hM⟩)
  unfold wpOp
  rw [ho]
  simp only
  split
  · rename_i hw
    rw [if_pos hw] at h1
    exact .inl h1
  · rename_i hw
    rw [if_neg hw] at h1
    exact h1
theorem wpAnyM_two {i j : Nat} {oi oj : Oper} {n : Nat} {listed : Array Bool} {a : Act} {w : World} (hr : Region.ready md ops listed = [i, j]) (hi : ops[i]? = some oi) (hj : ops[j]? = some oj)
    (h1 : ∀ K : Act → World → Prop, (∀ a' w', S w' → (late i = false → L w → L w') → wpAnyM P md ops Q S L late n (listed.setIfInBounds i true) a' w' → K a' w') →
      if Region.wanted oi (yielded ops a.tmps) = true then oi.wp P a w K Q else K (a.put oi.dst undef) w)
    (h2 : ∀ K : Act → World → Prop, (∀ a' w', S w' → (late j = false → L w → L w') → wpAnyM P md ops Q S L late n (listed.setIfInBounds j true) a' w' → K a' w') →
      if Region.wanted oj (yielded ops a.tmps) = true then oj.wp P a w K Q else K (a.put oj.dst undef) w) : wpAnyM P md ops Q S L late (n + 1) listed a w := by
  have key : ∀ (k : Nat) (o : Oper), ops[k]? = some o → (∀ K : Act → World → Prop, (∀ a' w', S w' → (late k = false → L w → L w') → wpAnyM P md ops Q S L late n (listed.setIfInBounds k true) a' w' → K a' w') →
      if Region.wanted o (yielded ops a.tmps) = true then o.wp P a w K Q else K (a.put o.dst undef) w) → wpOp P ops Q k (fun a' w' => S w' ∧ (late k = false → L w → L w') ∧ wpAnyM P md ops Q S L late n (listed.setIfInBounds k true) a' w') a w := by
    intro k o ho h
    have h1 := h (fun a' w' => S w' ∧ (late k = false → L w → L w') ∧ wpAnyM P md ops Q S L late n (listed.setIfInBounds k true) a' w') (fun a' w' hS hL hM => ⟨hS, hL, hM⟩)
    unfold wpOp
    rw [ho]
    simp only
    split
    · rename_i hw
      rw [if_pos hw] at h1
      exact .inl h1
    · rename_i hw
      rw [if_neg hw] at h1
      exact h1
  refine ⟨(fun h0 => by rw [hr] at h0; cases h0), fun k hk => ?_⟩
  rw [hr, List.mem_cons, List.mem_singleton] at hk
  rcases hk with rfl | rfl
  · exact key _ _ hi h1
  · exact key _ _ hj h2
theorem wpAnyM_done {listed : Array Bool} {a : Act} {w : World} (hr : Region.ready md ops listed = []) (h : Q .normal a w) : ∀ n, wpAnyM P md ops Q S L late n listed a w
  | 0 => ⟨hr, h⟩
  | _ + 1 => ⟨fun _ => h, by rw [hr]; simp⟩
theorem wp_region_late {id : Nat} {a : Act} {w : World} (S L : World → Prop) (late : Nat → Bool) (hm : P.follows .mixedOrders = true)
    (h : wpAnyM P .any ops Q S L late ops.size (Array.replicate ops.size false) a w.drew) : (Code.region id ops true).wp P Q a w :=
  wp_region_any hm (wpAny_of_late _ _ _ _ h)
end
end Go.Proofs.YtfkogkcpndaoeaaGreat
