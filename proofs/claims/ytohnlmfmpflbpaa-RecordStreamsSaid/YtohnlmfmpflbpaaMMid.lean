/- RecordStreams: what holds within a round. Conditions: none. -/
import Derived.Test.YtohnlmfmpflbpaaMLawBack
import Derived.Test.YtohnlmfmpflbpaaMScan
import Derived.Test.YtohnlmfmpflbpaaMStream
set_option linter.unusedSimpArgs false
set_option linter.unusedVariables false
set_option linter.all false
namespace Go.Proofs.Ytohnlmfmpflbpaa
open Go.RowKit

/-- The rows of the law: bytes, places, gaps; and the bytes of a frame. -/
structure Mid (w : World) (base k gc cc : Nat) (Bs E : List UInt8) (xa xg : List Value) (ng : Nat) (va vg vb : Value) (wr : World) : Prop where
  ob : OwnB wr base vb Bs
  oa : wr.ownsRow base 3 1 va k xa
  og : wr.ownsRow base 46 2 vg ng xg
  oc : OwnB wr base (.slice (some ⟨gc, 0, none⟩) E.length cc) E
  ne : vb.ownBlock ≠ some gc
  hB : Below w.heap.size w wr
  bs : base ≤ wr.heap.size
section
variable {w wr X w' : World} {base k gc cc ng g cap : Nat} {Bs E : List UInt8} {xa xg : List Value} {va vg vb : Value}
theorem Mid.below (h : Mid w base k gc cc Bs E xa xg ng va vg vb wr) (hb : Below wr.heap.size wr X) : Mid w base k gc cc Bs E xa xg ng va vg vb X :=
  ⟨h.ob.below hb, row_below h.oa hb, row_below h.og hb, h.oc.below hb, h.ne, h.hB.trans (hb.mono h.hB.size), Nat.le_trans h.bs hb.size⟩
theorem Mid.toB (h : Mid w base k gc cc Bs E xa xg ng va vg vb X) (hw : w.heap.size ≤ base) {v' : Value} {news : List UInt8} (hm : w'.ownsRow base 5 1 v' (Bs.length + news.length) (Bs.map byteV ++ news.map byteV)) (hg : X.grownBy w' vb.ownBlock) (hv : ∀ g, v'.ownBlock = some g → vb.ownBlock = some g ∨ g = X.heap.size) :
    Mid w base k gc cc (Bs ++ news) E xa xg ng va vg v' w' := by
  have hgl : gc < X.heap.size := (World.ownsRow.lt h.oc gc rfl).2
  refine ⟨by unfold OwnB; rw [List.length_append, List.map_append]; exact hm, h.oa.kept hg (row_ne h.oa h.ob (by decide)), h.og.kept hg (row_ne h.og h.ob (by decide)), World.ownsRow.kept h.oc hg (.inr fun e => h.ne e.symm), fun e => ?_,
    below_row h.hB h.ob hg hw (Nat.le_trans hw h.bs), Nat.le_trans h.bs hg.size⟩
  rcases hv gc e with h1 | h1
  · exact h.ne h1
  · omega
theorem Mid.toA (h : Mid w base k gc cc Bs E xa xg ng va vg vb X) (hw : w.heap.size ≤ base) {v' : Value} {z : Value} (hm : w'.ownsRow base 3 1 v' (k + 1) (xa ++ [z])) (hg : X.grownBy w' va.ownBlock) :
    Mid w base (k + 1) gc cc Bs E (xa ++ [z]) xg ng v' vg vb w' :=
  ⟨World.ownsRow.kept h.ob hg (row_ne h.ob h.oa (by decide)), hm, h.og.kept hg (row_ne h.og h.oa (by decide)), World.ownsRow.kept h.oc hg (row_ne h.oc h.oa (by decide)), h.ne, below_row h.hB h.oa hg hw (Nat.le_trans hw h.bs), Nat.le_trans h.bs hg.size⟩
theorem Mid.toG (h : Mid w base k gc cc Bs E xa xg ng va vg vb X) (hw : w.heap.size ≤ base) {v' : Value} {zs : List Value} (hm : w'.ownsRow base 46 2 v' (ng + 1) (xg ++ zs)) (hg : X.grownBy w' vg.ownBlock) :
    Mid w base k gc cc Bs E xa (xg ++ zs) (ng + 1) va v' vb w' :=
  ⟨World.ownsRow.kept h.ob hg (row_ne h.ob h.og (by decide)), h.oa.kept hg (row_ne h.oa h.og (by decide)), hm, World.ownsRow.kept h.oc hg (row_ne h.oc h.og (by decide)), h.ne, below_row h.hB h.og hg hw (Nat.le_trans hw h.bs), Nat.le_trans h.bs hg.size⟩
end

/-- append of one element, in a plain region. -/
theorem append_oneL {ops : Array Oper} {rest : List Oper} {o : Oper} {a : Act} {Q : Exit → Act → World → Prop} (W : World) (hgd : o.guard = none) (s x : Operand) (t e : TypeId) (z : Value) (size bytes : Nat)
    (ho : o.op = .call { callee := .builtin .append, args := #[s, x], argTypes := #[t, t] }) (ht : Try.prog.underlying t = some (.slice e)) (hinfo : (Try.prog.info? e).map (fun i => (i.zero, i.size, i.bytes)) = some (some z, size, bytes)) (hzs : z.cells.size = size) (hsz : 0 < size) (hby : bytes ≤ 1000)
    (base : Nat) (v : Value) (n : Nat) (xs cs : List Value) (hs : a.eval s = v) (hO : (W.alloc (.cells cs.toArray e)).ownsRow base e size v n xs) (hx : a.eval x = .slice (some ⟨W.heap.size, 0, none⟩) 1 1) (hcs : cs.length = size) (h1 : ∀ u ∈ cs, u.oneCell' = true) (hn : n < 1000000) (hbase : base ≤ W.heap.size)
    (K : ∀ g cap w', w'.ownsRow base e size (.slice (some ⟨g, 0, none⟩) (n + 1) cap) (n + 1) (xs ++ cs) → (W.alloc (.cells cs.toArray e)).grownBy w' v.ownBlock → (v.ownBlock = some g ∨ g = (W.alloc (.cells cs.toArray e)).heap.size) → wpList Try.prog ops Q rest (a.put o.dst (.slice (some ⟨g, 0, none⟩) (n + 1) cap)) w') :
    wpList Try.prog ops Q (o :: rest) a (W.alloc (.cells cs.toArray e)) := by
  obtain ⟨i0, hi, hz0, hz1, hz2⟩ := info_parts hinfo
  exact wpList_append_lies _ hgd s x t ho base e i0 z size bytes ht hi hz0 hz1 hz2 hzs hsz v n xs hs hO ⟨W.heap.size, 0, none⟩ 1 1 cs hx (by omega)
    (fun j u hj => by rw [Addr.add_lit, Nat.zero_add]; exact (own_new W e cs).cell j u hj) h1 (by omega) (by unfold maxLen; omega) (by have : (n + 1) * bytes ≤ 1000000 * 1000 := Nat.mul_le_mul (by omega) hby; omega) (by simp; omega) _ rfl (fun g cap w' h1 h2 h3 _ => K g cap w' h1 h2 h3)
end Go.Proofs.Ytohnlmfmpflbpaa
