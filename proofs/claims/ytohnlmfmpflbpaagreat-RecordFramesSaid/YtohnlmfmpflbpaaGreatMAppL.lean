/- append of one element to a row of one's own. Conditions: none. -/
import Derived.Test.YtohnlmfmpflbpaaGreatMDecA
set_option linter.unusedSimpArgs false
set_option linter.unusedVariables false
set_option linter.all false
namespace Go.Proofs.YtohnlmfmpflbpaaGreat
open Go.RowKit

/-- append of one element, in a plain region. -/
theorem append_oneL {ops : Array Oper} {rest : List Oper} {o : Oper} {a : Act} {Q : Exit → Act → World → Prop} (W : World) (hgd : o.guard = none) (s x : Operand) (t e : TypeId) (z : Value) (size bytes : Nat)
    (ho : o.op = .call { callee := .builtin .append, args := #[s, x], argTypes := #[t, t] }) (ht : Tryz.prog.underlying t = some (.slice e)) (hinfo : (Tryz.prog.info? e).map (fun i => (i.zero, i.size, i.bytes)) = some (some z, size, bytes)) (hzs : z.cells.size = size) (hsz : 0 < size) (hby : bytes ≤ 1000)
    (base : Nat) (v : Value) (n : Nat) (xs cs : List Value) (hs : a.eval s = v) (hO : (W.alloc (.cells cs.toArray e)).ownsRow base e size v n xs) (hx : a.eval x = .slice (some ⟨W.heap.size, 0, none⟩) 1 1) (hcs : cs.length = size) (h1 : ∀ u ∈ cs, u.oneCell' = true) (hn : n < 1000000) (hbase : base ≤ W.heap.size)
    (K : ∀ g cap w', w'.ownsRow base e size (.slice (some ⟨g, 0, none⟩) (n + 1) cap) (n + 1) (xs ++ cs) → (W.alloc (.cells cs.toArray e)).grownBy w' v.ownBlock → (v.ownBlock = some g ∨ g = (W.alloc (.cells cs.toArray e)).heap.size) → wpList Tryz.prog ops Q rest (a.put o.dst (.slice (some ⟨g, 0, none⟩) (n + 1) cap)) w') :
    wpList Tryz.prog ops Q (o :: rest) a (W.alloc (.cells cs.toArray e)) := by
  obtain ⟨i0, hi, hz0, hz1, hz2⟩ := info_parts hinfo
  exact wpList_append_lies _ hgd s x t ho base e i0 z size bytes ht hi hz0 hz1 hz2 hzs hsz v n xs hs hO ⟨W.heap.size, 0, none⟩ 1 1 cs hx (by omega)
    (fun j u hj => by rw [Addr.add_lit, Nat.zero_add]; exact (own_new W e cs).cell j u hj) h1 (by omega) (by unfold maxLen; omega) (by have : (n + 1) * bytes ≤ 1000000 * 1000 := Nat.mul_le_mul (by omega) hby; omega) (by simp; omega) _ rfl (fun g cap w' h1 h2 h3 _ => K g cap w' h1 h2 h3)
end Go.Proofs.YtohnlmfmpflbpaaGreat
