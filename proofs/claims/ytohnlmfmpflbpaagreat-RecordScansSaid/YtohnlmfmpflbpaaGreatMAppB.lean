/- append of bytes that lie somewhere. Conditions: none. -/
import Derived.Test.YtohnlmfmpflbpaaGreatMEnc
import Derived.Test.YtohnlmfmpflbpaaGreatMSum
import Derived.Laws.AppendOwnNone
set_option linter.unusedSimpArgs false
set_option linter.unusedVariables false
set_option linter.all false
namespace Go.Proofs.YtohnlmfmpflbpaaGreat
open Go.RowKit

set_option maxRecDepth 100000 in
/-- append(out, m...): bytes that lie somewhere. -/
theorem append_bytesA (W : World) {ops : Array Oper} {rest : List Oper} {o : Oper} {a : Act} {Q : Exit → Act → World → Prop} (hgd : o.guard = none) (s x : Operand) (t : TypeId)
    (ho : o.op = .call { callee := .builtin .append, args := #[s, x], argTypes := #[t, t] }) (ht : Tryz.prog.underlying t = some (.slice 5)) (base : Nat) (v : Value) (l m : List UInt8) (ad : Option Addr) (n c : Nat)
    (hs : a.eval s = v) (hx : a.eval x = .slice ad n c) (hO : OwnB W base v l) (hA : BytesA W ad m) (hm : m.length = n) (hnone : ad = none → n = 0 ∧ c = 0) (hl : l.length < 1099511627776) (hm2 : n < 1099511627776) (hbase : base ≤ W.heap.size)
    (K : ∀ v' w', OwnB w' base v' (l ++ m) → W.grownBy w' v.ownBlock → wpList Tryz.prog ops Q rest (a.put o.dst v') w') :
    wpList Tryz.prog ops Q (o :: rest) a W := by
  obtain ⟨i0, hi, hz0, hz1, hz2⟩ := info_parts info_u8
  cases ad with
  | none =>
    obtain ⟨rfl, rfl⟩ := hnone rfl
    have hm0 : m = [] := List.eq_nil_of_length_eq_zero hm
    subst hm0
    rw [List.append_nil] at K
    exact wpList_append_own_none hgd s x t ho base 5 i0 1 ht hi v l.length (l.map byteV) hs hO hx (K v W hO (grown_refl _ _))
  | some ad =>
    refine wpList_append_own _ hgd s x t ho base 5 i0 (.int .u8 0) 1 1 ht hi hz0 hz1 hz2 rfl (by decide) v l.length (l.map byteV) hs hO ad n c (m.map byteV) hx (by rw [List.length_map]; omega) ?_ ?_ (by unfold maxLen; omega) (by omega) hbase ?_
    · intro j u hj
      rw [List.getElem?_map] at hj
      obtain ⟨y, hy, rfl⟩ := Option.map_eq_some_iff.1 hj
      obtain ⟨b, o, e, hc⟩ := hA j y hy
      injection e with e
      subst e
      rw [Addr.add_lit]
      exact hc
    · intro u hu
      obtain ⟨y, _, rfl⟩ := List.mem_map.1 hu
      rfl
    · intro v' w' h1 h2 _
      refine K v' w' ?_ h2
      unfold OwnB
      rw [List.length_append, List.map_append, hm]
      exact h1
end Go.Proofs.YtohnlmfmpflbpaaGreat
