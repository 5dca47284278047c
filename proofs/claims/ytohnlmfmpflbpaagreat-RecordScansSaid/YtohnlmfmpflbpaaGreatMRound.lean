/- A region that draws its order, in a round of a range over a function: walked as outside of rounds. Conditions: it defers nothing, and the post lets nothing out. -/
import Derived.Test.YtohnlmfmpflbpaaGreatMRange
import Derived.OrdersIn
import Derived.OrdersHeld
import Derived.Deep.RegionHeld
set_option linter.unusedSimpArgs false
set_option linter.unusedVariables false
set_option linter.all false
namespace Go.Proofs.YtohnlmfmpflbpaaGreat
open Go.RowKit

section
variable {P : Program} {md : Region.Mode} {ops : Array Oper} {Q : Exit → Act → World → Prop}

/-- No operation defers a call. -/
def noDefer (ops : Array Oper) : Bool := ops.all fun o => match o.op with | .defer _ => false | _ => true
theorem noDefer_at {i : Nat} {o : Oper} (h : noDefer ops = true) (hi : ops[i]? = some o) : ∀ c, o.op ≠ .defer c := fun c e => by
  have h1 := (Array.all_eq_true'.1 h) o (Array.mem_of_getElem? hi)
  rw [e] at h1
  cases h1

theorem wpOpIn_round {l n i : Nat} {K : Act → World → Prop} {a : Act} {w : World} (hd : noDefer ops = true) (hL : ¬ LetsOut Q) (h : wpOp P ops Q i K a w) : wpOpIn (Fence.wide.inRound l) n P ops Q i K a w := by
  unfold wpOpIn
  unfold wpOp at h
  split
  · rename_i ho
    rw [ho] at h; exact h
  · rename_i o ho
    rw [ho] at h
    simp only at h
    split
    · rename_i hw
      rw [if_pos hw] at h
      rcases h with h | ⟨_, h⟩
      · refine ⟨fun _ _ => trivial, ?_⟩
        show Oper.uponIn _ n P o a K Q ((o.semAt (some l) a.eval).run P w)
        rw [Oper.semAt_some _ _ _ (noDefer_at hd ho)]
        unfold Oper.wp at h
        generalize (execOp a.eval o).run P w = r at h
        unfold Oper.uponIn
        unfold Oper.upon at h
        split at h
        · exact h
        · exact h
        · exact h
        · exact ⟨(fun h => by cases h), CallsIn.inRound l (callsIn_wide.2 h)⟩
        · exact ⟨(fun h => by cases h), fun c cs _ => by obtain ⟨v, w1, h1, h2⟩ := h c cs; exact ⟨v, w1, h1, stepsIn_wide.2 h2⟩⟩
        · exact h
        · exact h.elim
      · exact absurd h hL
    · rename_i hw
      rw [if_neg hw] at h
      exact ⟨fun _ _ => trivial, h⟩

theorem wpAnyIn_round {l n : Nat} (hd : noDefer ops = true) (hL : ¬ LetsOut Q) : ∀ (fuel : Nat) (listed : Array Bool) (a : Act) (w : World), wpAny P md ops Q fuel listed a w → wpAnyIn (Fence.wide.inRound l) n P md ops Q fuel listed a w
  | 0, _, _, _, h => h
  | fuel + 1, _, _, _, h => ⟨h.1, fun i hi => wpOpIn_mono (fun a w => wpAnyIn_round hd hL fuel _ a w) (wpOpIn_round hd hL (h.2 i hi))⟩

/-- The beginning. -/
theorem region_round_held {S : World → Prop} {l n id : Nat} {a : Act} {w : World} (hm : P.follows .mixedOrders = true) (hd : noDefer ops = true) (hL : ¬ LetsOut Q) (hS : S w.drew)
    (h : S w.drew → wpAnyH P .any ops Q S ops.size (Array.replicate ops.size false) a w.drew) : (Code.region id ops true).wpIn (Fence.wide.inRound l) n P Q a w :=
  wpIn_region_any hm (wpAnyIn_round hd hL _ _ _ _ (wpAny_of_held _ _ _ _ (h hS)))
/-- The beginning, its numbers written out. -/
theorem region_round_lit {S : World → Prop} {l n id : Nat} {a : Act} {w : World} (m : Nat) (bs : Array Bool) (hz : ops.size = m) (hb : Array.replicate m false = bs) (hm : P.follows .mixedOrders = true) (hd : noDefer ops = true) (hL : ¬ LetsOut Q) (hS : S w.drew)
    (h : S w.drew → wpAnyH P .any ops Q S m bs a w.drew) : (Code.region id ops true).wpIn (Fence.wide.inRound l) n P Q a w := by
  subst hz hb
  exact region_round_held hm hd hL hS h
/-- What yields in every world that S bears is taken first; its place is told. -/
theorem take_at {S : World → Prop} (i d : Nat) {oi : Oper} {v : Value} {fuel : Nat} {listed : Array Bool} {a : Act} {w : World} (hi : ops[i]? = some oi) (hdst : oi.dst = some d)
    (hs : Region.noSelect ops = true) (hf : Region.free md ops listed i = true) (hr : (Region.ready md ops listed).contains i = true)
    (hQ : ∀ c a w, Q (.panic c) (a.put (some d) v) w → Q (.panic c) a w) (hw : Region.wanted oi (yielded ops a.tmps) = true) (hy : ∀ w, S w → (execOp a.eval oi).run P w = .ok (.value v) w) (hS : S w)
    (h : wpAnyH P md ops Q S fuel (listed.setIfInBounds i true) (a.put (some d) v) w) : wpAnyH P md ops Q S (fuel + 1) listed a w :=
  wpAnyH_take hi hs hf hr (by rw [hdst]; exact hQ) (Or.inl ⟨hw, hy⟩) hS (by rw [hdst]; exact h)
end
end Go.Proofs.YtohnlmfmpflbpaaGreat
