/- Slices of slices: rows with their types, kept by what happens elsewhere; elements of an own row set anew. Conditions: none. Rows made, rows grown, in terms of their elements. Conditions: none. -/
import Derived.Test.YtfkogkcpndaoeaaGreatMRowL
import Derived.Deep.MidRow
set_option linter.all false
namespace Go.Proofs.YtfkogkcpndaoeaaGreat
open Go.RowKit
variable {α : Type} {R : World → List Value → α → Prop} {T : TypeId} {size : Nat} {ts : List TypeId}
structure Firm {α : Type} (R : World → List Value → α → Prop) : Prop where
  below : ∀ {w w' : World} {u : List Value} {x : α} {B : Nat}, R w u x → Below B w w' → w.heap.size ≤ B → R w' u x
theorem Stable.firm (h : Stable R ts) : Firm R := ⟨h.below⟩
theorem SlOf.firm {w w' : World} {B : Nat} {v : Value} {l : List α} (hS : Firm R) (h : SlOf R size w v l) (hb : Below B w w') (hB : w.heap.size ≤ B) : SlOf R size w' v l := by
  obtain ⟨a, c, h1, h2, h3, h4⟩ := h
  refine ⟨a, c, h1, h2, h3, fun i x hx => ?_⟩
  obtain ⟨b, o, u, e1, e2, e3, e4⟩ := h4 i x hx
  refine ⟨b, o, u, e1, e2, hS.below e3 hb hB, fun j y hy => ?_⟩
  have hc := e4 j y hy
  have hlt : b < w.heap.size := World.block_lt_of_cell? w _ hc
  exact (hb.cell (by show b < B; omega)).trans hc
def CellSl (R : World → List Value → α → Prop) (size : Nat) (w : World) (u : List Value) (x : List α) : Prop := ∃ v, u = [v] ∧ SlOf R size w v x
theorem CellSl.firm (hS : Firm R) : Firm (CellSl R size) := ⟨fun {w w' u x B} h hb hB => by
  obtain ⟨v, e, h⟩ := h
  exact ⟨v, e, h.firm hS hb hB⟩⟩
theorem TyB.kept {w w' : World} {B b : Nat} {T : TypeId} (h : TyB w b T) (hb : Below B w w') (hB : w.heap.size ≤ B) : TyB w' b T := by
  obtain ⟨cs, fr, h⟩ := h
  have hlt : b < w.heap.size := (Array.getElem?_eq_some_iff.1 h).1
  exact ⟨cs, fr, (hb.block b (by omega)).trans h⟩
def SlT (R : World → List Value → α → Prop) (T : TypeId) (size : Nat) (w : World) (v : Value) (l : List α) : Prop :=
  SlOf R size w v l ∧ ∀ b o n c, v = .slice (some ⟨b, o, none⟩) n c → l ≠ [] → TyB w b T
theorem RowOf.slT {w : World} {base : Nat} {v : Value} {l : List α} (h : RowOf R T size w base v l) : SlT R T size w v l := by
  refine ⟨h.sl, fun b o n c e _ => ?_⟩
  obtain ⟨us, h1, h2, h3⟩ := h
  rcases h2.2 with ⟨rfl, _⟩ | ⟨g, cap, cur, rfl, hg1, hg, _⟩
  · cases e
  · injection e with e _ _
    injection e with e
    injection e with e1 e2
    subst e1
    exact ⟨_, _, hg⟩
theorem SlT.below {w w' : World} {B : Nat} {v : Value} {l : List α} (hS : Stable R ts) (h : SlT R T size w v l) (hb : Below B w w') (hB : w.heap.size ≤ B) : SlT R T size w' v l :=
  ⟨h.1.below hS hb hB, fun b o n c e hl => (h.2 b o n c e hl).kept hb hB⟩
theorem SlT.row {w w' : World} {base sz n : Nat} {E : TypeId} {s v : Value} {cs : List Value} {l : List α} (hS : Stable R ts) (h : SlT R T size w v l) (hr : w.ownsRow base E sz s n cs) (hE : E ∉ T :: ts) (hg : w.grownBy w' s.ownBlock) : SlT R T size w' v l := by
  have hne : ∀ b, TyB w b T → some b ≠ s.ownBlock := fun b hb e => by
    rcases hr.2 with ⟨rfl, _⟩ | ⟨g, cap, cur, rfl, hg1, hg2, _⟩
    · cases e
    · obtain rfl : b = g := Option.some.inj e
      obtain ⟨cs', fr, hb⟩ := hb
      rw [hg2] at hb
      injection hb with hb
      injection hb with _ hb _
      exact hE (hb ▸ List.mem_cons_self)
  obtain ⟨⟨a, c, h1, h2, h3, h4⟩, h5⟩ := h
  refine ⟨⟨a, c, h1, h2, h3, fun i x hx => ?_⟩, fun b o n' c' e hl => ?_⟩
  · obtain ⟨b, o, u, e1, e2, e3, e4⟩ := h4 i x hx
    have hT := h5 b o _ _ (by rw [h1, e1]) (by rintro rfl; simp at hx)
    exact ⟨b, o, u, e1, e2, hS.row e3 hr (fun h => hE (List.mem_cons_of_mem _ h)) hg, fun j y hy => World.grownBy.cell hg (e4 j y hy) (hne b hT)⟩
  · obtain ⟨cs', fr, hb⟩ := h5 b o n' c' e hl
    exact ⟨cs', fr, (hg.block b (Array.getElem?_eq_some_iff.1 hb).1 (fun e => hne b ⟨cs', fr, hb⟩ e)).trans hb⟩
def CellT (R : World → List Value → α → Prop) (T : TypeId) (size : Nat) (w : World) (u : List Value) (x : List α) : Prop := ∃ v, u = [v] ∧ SlT R T size w v x
theorem CellT.stable (hS : Stable R ts) : Stable (CellT R T size) (T :: ts) := ⟨fun {w w' u x B} h hb hB => by
  obtain ⟨v, e, h⟩ := h
  exact ⟨v, e, h.below hS hb hB⟩, fun {w w' base sz n E s cs u x} h hr hE hg => by
  obtain ⟨v, e, h⟩ := h
  exact ⟨v, e, h.row hS hr hE hg⟩⟩
def putCells (w : World) (g o : Nat) : List Value → World
  | [] => w
  | v :: vs => putCells (w.setCell ⟨g, o, none⟩ v) g (o + 1) vs
theorem putCells_eq (g : Nat) : ∀ (vs : List Value) (o : Nat) (w : World), putCells w g o vs = w.setCells g o vs
  | [], _, _ => rfl
  | v :: vs, o, w => putCells_eq g vs (o + 1) (w.setCell ⟨g, o, none⟩ v)
def setN (xs : List Value) (o : Nat) : List Value → List Value
  | [] => xs
  | v :: vs => setN (xs.set o v) (o + 1) vs
theorem ownsRow_putCells {base n cap size g : Nat} : ∀ (vs : List Value) (w : World) (xs : List Value) (o : Nat), w.ownsRow base T size (.slice (some ⟨g, 0, none⟩) n cap) n xs →
    (putCells w g o vs).ownsRow base T size (.slice (some ⟨g, 0, none⟩) n cap) n (setN xs o vs) ∧ w.grownBy (putCells w g o vs) (some g)
  | [], w, xs, o, h => ⟨h, World.grownBy.refl _ _⟩
  | v :: vs, w, xs, o, h => by
    obtain ⟨h1, h2⟩ := h.stored o v
    obtain ⟨h3, h4⟩ := ownsRow_putCells vs _ _ (o + 1) h1
    exact ⟨h3, h2.trans h4⟩
theorem setN_app : ∀ (vs xs ys zs : List Value), ys.length = vs.length → setN (xs ++ ys ++ zs) xs.length vs = xs ++ vs ++ zs
  | [], xs, [], zs, _ => rfl
  | v :: vs, xs, y :: ys, zs, h => by
    have h1 : (xs ++ y :: ys ++ zs).set xs.length v = (xs ++ [v]) ++ ys ++ zs := by
      rw [List.append_assoc, List.set_append_right _ _ (Nat.le_refl _)]
      simp
    have h2 := setN_app vs (xs ++ [v]) ys zs (by simpa using h)
    rw [List.length_append] at h2
    unfold setN
    rw [h1]
    simpa using h2
  | [], xs, y :: ys, zs, h => by simp at h
  | v :: vs, xs, [], zs, h => by simp at h
theorem setN_flatten {size : Nat} {u : List Value} (hu : u.length = size) : ∀ (us : List (List Value)) (i : Nat), (∀ x ∈ us, x.length = size) → i < us.length → setN us.flatten (i * size) u = (us.set i u).flatten := by
  intro us i h hi
  have hsplit : us = us.take i ++ [us[i]] ++ us.drop (i + 1) := by
    rw [List.append_assoc, List.singleton_append, ← List.drop_eq_getElem_cons hi, List.take_append_drop]
  have hl : ((us.take i).flatten).length = i * size := by
    have : ∀ (k : Nat), k ≤ us.length → ((us.take k).flatten).length = k * size := by
      intro k
      induction k with
      | zero => intro _; simp
      | succ k ih =>
        intro hk
        rw [List.take_add_one, List.getElem?_eq_getElem (by omega), List.flatten_append, List.length_append, ih (by omega)]
        simp [h _ (List.getElem_mem (by omega : k < us.length)), Nat.succ_mul]
    exact this i (by omega)
  have h1 : us.flatten = (us.take i).flatten ++ us[i] ++ (us.drop (i + 1)).flatten := by
    have := congrArg List.flatten hsplit
    simpa only [List.flatten_append, List.flatten_cons, List.flatten_nil, List.append_nil] using this
  have h2 : us.set i u = us.take i ++ [u] ++ us.drop (i + 1) := by
    rw [List.set_eq_take_append_cons_drop, if_pos hi, List.append_assoc]
    rfl
  rw [h1, ← hl, setN_app _ _ _ _ (by rw [hu]; exact h _ (List.getElem_mem hi)), h2]
  simp
theorem RowOf.put {w : World} {base g n c i : Nat} {u : List Value} {l : List α} {y : α} (hS : Stable R ts) (hT : T ∉ ts) (h : RowOf R T size w base (.slice (some ⟨g, 0, none⟩) n c) l) (hi : i < l.length) (hu : u.length = size) (hR : R w u y) :
    RowOf R T size (putCells w g (i * size) u) base (.slice (some ⟨g, 0, none⟩) n c) (l.set i y) ∧ w.grownBy (putCells w g (i * size) u) (some g) ∧ Below base w (putCells w g (i * size) u) := by
  obtain ⟨us, h1, h2, h3⟩ := h
  have hn : n = l.length := by
    rcases h2.2 with ⟨e, _⟩ | ⟨g', cap, cur, e, _⟩
    · cases e
    · injection e
  subst hn
  obtain ⟨h4, h5⟩ := ownsRow_putCells u w us.flatten (i * size) h2
  have hlen : ∀ x ∈ us, x.length = size := fun x hx => by
    obtain ⟨k, hk⟩ := List.getElem?_of_mem hx
    have hkl : k < l.length := by rw [← h1]; exact (List.getElem?_eq_some_iff.1 hk).1
    exact (h3 k x _ hk (List.getElem?_eq_getElem hkl)).1
  rw [setN_flatten hu us i hlen (by omega)] at h4
  refine ⟨⟨us.set i u, by simp [h1], by rw [List.length_set]; exact h4, fun j v x hv hx => ?_⟩, h5, ?_⟩
  · rw [List.getElem?_set] at hv hx
    by_cases hij : i = j
    · rw [if_pos hij, if_pos (by omega)] at hv
      rw [if_pos hij, if_pos (by omega)] at hx
      obtain rfl := Option.some.inj hv
      obtain rfl := Option.some.inj hx
      exact ⟨hu, hS.row hR h2 hT h5⟩
    · rw [if_neg hij] at hv hx
      exact ⟨(h3 j v x hv hx).1, hS.row (h3 j v x hv hx).2 h2 hT h5⟩
  · have hlt := h2.lt g rfl
    exact below_row (Below.refl base w) h2 h5 (Nat.le_refl _) (by omega)
theorem RowOf.there {w : World} {base g n c i : Nat} {l : List α} (h : RowOf R T size w base (.slice (some ⟨g, 0, none⟩) n c) l) (hi : i < l.length) : w.there g (i * size) size := by
  obtain ⟨a, c', h1, _, _, h2⟩ := h.sl
  injection h1 with h1 _ _
  obtain ⟨b, o, u, e1, e2, _, e3⟩ := h2 i _ (List.getElem?_eq_getElem hi)
  rw [← h1] at e1
  injection e1 with e1
  injection e1 with e4 e5 _
  subst e4 e5
  obtain ⟨us, _, hr, _⟩ := h
  have hn : n = l.length := by
    rcases hr.2 with ⟨e, _⟩ | ⟨g', cap, cur, e, _⟩
    · cases e
    · injection e
  subst hn
  intro j hj
  refine ⟨?_, hr.frozenAt _⟩
  have := e3 j _ (List.getElem?_eq_getElem (by omega))
  rw [Nat.zero_add] at this
  rw [this]
  rfl
theorem RowOf.store {w : World} {base g n c i : Nat} {u : List Value} {l : List α} {y : α} (hS : Stable R ts) (hT : T ∉ ts) (h : RowOf R T size w base (.slice (some ⟨g, 0, none⟩) n c) l) (hi : i < l.length) (hu : u.length = size) (hR : R w u y) :
    RowOf R T size (w.setCells g (i * size) u) base (.slice (some ⟨g, 0, none⟩) n c) (l.set i y) ∧ w.grownBy (w.setCells g (i * size) u) (some g) ∧ Below base w (w.setCells g (i * size) u) ∧ w.heap.size ≤ (w.setCells g (i * size) u).heap.size := by
  have h1 := h.put hS hT hi hu hR
  rw [putCells_eq] at h1
  exact ⟨h1.1, h1.2.1, h1.2.2, h1.2.1.size⟩
theorem SlT.lift {R' : World → List Value → α → Prop} {w w' : World} {v : Value} {l : List α} (h : SlT R T size w v l) (hR : ∀ u x, R w u x → R' w' u x) (hb : ∀ b, TyB w b T → w'.heap[b]? = w.heap[b]?) : SlT R' T size w' v l := by
  obtain ⟨⟨a, c, h1, h2, h3, h4⟩, h5⟩ := h
  refine ⟨⟨a, c, h1, h2, h3, fun i x hx => ?_⟩, fun b o n' c' e hl => ?_⟩
  · obtain ⟨b, o, u, e1, e2, e3, e4⟩ := h4 i x hx
    have hT := h5 b o _ _ (by rw [h1, e1]) (by rintro rfl; simp at hx)
    exact ⟨b, o, u, e1, e2, hR u x e3, fun j y hy => (World.cell?_of_block (hb b hT)).trans (e4 j y hy)⟩
  · have hT := h5 b o n' c' e hl
    obtain ⟨cs', fr, hc⟩ := hT
    exact ⟨cs', fr, (hb b ⟨cs', fr, hc⟩).trans hc⟩
def CellP (p : Nat → Prop) (R : World → List Value → α → Prop) (T : TypeId) (size : Nat) (w : World) (u : List Value) (x : List α) : Prop := ∃ v, u = [v] ∧ SlT R T size w v x ∧ ∀ b, v.ownBlock = some b → p b ∧ b < w.heap.size
theorem CellP.stable {p : Nat → Prop} (hS : Stable R ts) : Stable (CellP p R T size) (T :: ts) := ⟨fun {w w' u x B} h hb hB => by
  obtain ⟨v, e, h, hp⟩ := h
  exact ⟨v, e, h.below hS hb hB, fun b h => ⟨(hp b h).1, Nat.lt_of_lt_of_le (hp b h).2 hb.size⟩⟩, fun {w w' base sz n E s cs u x} h hr hE hg => by
  obtain ⟨v, e, h, hp⟩ := h
  exact ⟨v, e, h.row hS hr hE hg, fun b h => ⟨(hp b h).1, Nat.lt_of_lt_of_le (hp b h).2 hg.size⟩⟩⟩
theorem CellP.cellT {p : Nat → Prop} {w : World} {u : List Value} {x : List α} (h : CellP p R T size w u x) : CellT R T size w u x := by
  obtain ⟨v, e, h, _⟩ := h
  exact ⟨v, e, h⟩
theorem CellP.weaken {p q : Nat → Prop} {w : World} {u : List Value} {x : List α} (h : CellP p R T size w u x) (hpq : ∀ b, b < w.heap.size → p b → q b) : CellP q R T size w u x := by
  obtain ⟨v, e, h, hp⟩ := h
  exact ⟨v, e, h, fun b hb => ⟨hpq b (hp b hb).2 (hp b hb).1, (hp b hb).2⟩⟩
theorem CellP.keepRow {p : Nat → Prop} {w w' : World} {u : List Value} {x : List α} {base sz n : Nat} {E : TypeId} {s : Value} {cs : List Value} (hS : Stable R ts) (h : CellP p R T size w u x) (hr : w.ownsRow base E sz s n cs) (hE : E ∉ ts) (hp : ∀ b, p b → s.ownBlock ≠ some b) (hg : w.grownBy w' s.ownBlock) : CellP p R T size w' u x := by
  obtain ⟨v, e, ⟨⟨a, c, h1, h2, h3, h4⟩, h5⟩, hq⟩ := h
  subst h1
  have hne : ∀ b o, a = some ⟨b, o, none⟩ → some b ≠ s.ownBlock := fun b o ha e => hp b (hq b (by rw [ha]; rfl)).1 e.symm
  refine ⟨_, e, ⟨⟨a, c, rfl, h2, h3, fun i y hy => ?_⟩, fun b o n' c' e hl => ?_⟩, fun b hb => ⟨(hq b hb).1, Nat.lt_of_lt_of_le (hq b hb).2 hg.size⟩⟩
  · obtain ⟨b, o, u, e1, e2, e3, e4⟩ := h4 i y hy
    exact ⟨b, o, u, e1, e2, hS.row e3 hr hE hg, fun j y hy => World.grownBy.cell hg (e4 j y hy) (hne b o e1)⟩
  · obtain ⟨cs', fr, hb⟩ := h5 b o n' c' e hl
    have ha : a = some ⟨b, o, none⟩ := (Value.slice.inj e).1
    exact ⟨cs', fr, (hg.block b (Array.getElem?_eq_some_iff.1 hb).1 (fun e2 => hne b o ha e2)).trans hb⟩
theorem RowOf.lift {R' : World → List Value → α → Prop} {w w' : World} {base : Nat} {v : Value} {l : List α} (h : RowOf R T size w base v l) (hR : ∀ u x, R w u x → R' w' u x) (hk : ∀ n xs, w.ownsRow base T size v n xs → w'.ownsRow base T size v n xs) : RowOf R' T size w' base v l := by
  obtain ⟨us, h1, h2, h3⟩ := h
  exact ⟨us, h1, hk _ _ h2, fun i u x hu hx => ⟨(h3 i u x hu hx).1, hR u x (h3 i u x hu hx).2⟩⟩
theorem RowOf.block {w : World} {base : Nat} {v : Value} {l : List α} (h : RowOf R T size w base v l) : ∀ b, v.ownBlock = some b → base ≤ b ∧ b < w.heap.size := by
  obtain ⟨us, h1, h2, h3⟩ := h
  exact fun b hb => h2.lt b hb
end Go.Proofs.YtfkogkcpndaoeaaGreat
namespace Go.Proofs.YtfkogkcpndaoeaaGreat
open Go.RowKit
variable {α : Type} {R : World → List Value → α → Prop} {ts : List TypeId}
theorem flat_at {β : Type} (l : List β) : ∀ (n i : Nat), i < n * l.length → (List.replicate n l).flatten[i]? = l[i % l.length]?
  | 0, i, h => by omega
  | n + 1, i, h => by
    rw [List.replicate_succ, List.flatten_cons]
    rcases Nat.lt_or_ge i l.length with hi | hi
    · rw [List.getElem?_append_left hi, Nat.mod_eq_of_lt hi]
    · rw [List.getElem?_append_right hi, flat_at l n (i - l.length) (by rw [Nat.succ_mul] at h; omega), Nat.mod_eq_sub_mod hi]
theorem made_flat (z : Array Value) (n : Nat) (hz : 0 < z.size) : madeCells z (n * z.size) = ((List.replicate n z.toList).flatten).toArray := by
  apply Array.ext'
  simp only [madeCells, Array.toList_map, Array.toList_range]
  apply List.ext_getElem?
  intro i
  rcases Nat.lt_or_ge i (n * z.size) with h | h
  · rw [flat_at _ _ _ (by simpa using h)]
    have hm : i % z.size < z.size := Nat.mod_lt _ hz
    simp [List.getElem?_range h, Array.getElem?_eq_getElem hm, hm]
  · rw [List.getElem?_eq_none (by simpa using h), List.getElem?_eq_none (by simp [List.length_flatten]; exact h)]
theorem make_row (w : World) {ops : Array Oper} {rest : List Oper} {o : Oper} {a : Act} {Q : Exit → Act → World → Prop}
    (hg : o.guard = none) (l : Operand) (t e : TypeId) (z : Value) (size bytes : Nat) (hop : o.op = Op.makeSlice t l l) (ht : Tryz.prog.underlying t = some (.slice e))
    (hinfo : (Tryz.prog.info? e).map (fun i => (i.zero, i.size, i.bytes)) = some (some z, size, bytes)) (hzs : z.cells.size = size) (hsz : 0 < size) (hby : bytes ≤ 1000)
    (L : Int) (n : Nat) (hl : a.eval l = .int .i64 L) (hL : L = (n : Int)) (hn : n ≤ 1000000) (x0 : α) (hR : ∀ w, R w z.cells.toList x0)
    (hK : ∀ w', RowOf R e size w' w.heap.size (.slice (some ⟨w.heap.size, 0, none⟩) n n) (List.replicate n x0) → Below w.heap.size w w' → w'.heap.size = w.heap.size + 1 →
      wpList Tryz.prog ops Q rest (a.put o.dst (.slice (some ⟨w.heap.size, 0, none⟩) n n)) w') :
    wpList Tryz.prog ops Q (o :: rest) a w := by
  obtain ⟨i0, hi0, hz0, hz1, hz2⟩ := info_parts hinfo
  have hb : bytes * n ≤ 1000 * 1000000 := Nat.mul_le_mul hby hn
  refine wpList_plain hg fun K hK' => ?_
  have hr := run_make (P := Tryz.prog) w t _ i0 _ ht hi0 hz0 .i64 .i64 L L (by omega) (Int.le_refl _) (by rw [hz2, hL]; push_cast at hb ⊢; omega) (by omega)
  unfold Oper.wp
  subst hL
  simp only [Int.toNat_natCast, hz1] at hr
  rw [← hzs] at hsz hr
  rw [made_flat _ _ hsz] at hr
  simp [execOp, hop, hl, hr, Result.andThen]
  refine hK' _ _ (hK _ ⟨List.replicate n z.cells.toList, by simp, ?_, fun i u x hu hx => ?_⟩ ((Below.refl _ _).alloc (Nat.le_refl _) _) (by simp))
  · rw [List.length_replicate]
    refine ⟨by simp [List.length_flatten, hzs], .inr ⟨w.heap.size, n, ((List.replicate n z.cells.toList).flatten).toArray, rfl, Nat.le_refl _, ?_, Nat.le_refl _, by unfold maxLen; omega, by simp [List.length_flatten, hzs], ?_⟩⟩
    · show (w.heap.push _)[w.heap.size]? = _
      simp
    · rw [List.take_of_length_le (by simp [List.length_flatten, hzs])]
  · have hi : i < n := by
      have := (List.getElem?_eq_some_iff.1 hu).1
      simpa using this
    rw [List.getElem?_replicate, if_pos hi] at hu hx
    obtain rfl := Option.some.inj hu
    obtain rfl := Option.some.inj hx
    exact ⟨by simpa using hzs, hR _⟩
theorem append_row {ops : Array Oper} {rest : List Oper} {o : Oper} {a : Act} {Q : Exit → Act → World → Prop} (W : World) (hgd : o.guard = none) (s x : Operand) (t e : TypeId) (z : Value) (size bytes : Nat)
    (ho : o.op = .call { callee := .builtin .append, args := #[s, x], argTypes := #[t, t] }) (ht : Tryz.prog.underlying t = some (.slice e)) (hinfo : (Tryz.prog.info? e).map (fun i => (i.zero, i.size, i.bytes)) = some (some z, size, bytes)) (hzs : z.cells.size = size) (hsz : 0 < size) (hby : bytes ≤ 1000)
    (base : Nat) (v : Value) (n : Nat) (l : List α) (u : List Value) (y : α) (hS : Stable R ts) (hT : e ∉ ts) (hs : a.eval s = v) (hO : RowOf R e size W base v l) (hl : l.length = n) (hx : a.eval x = .slice (some ⟨W.heap.size, 0, none⟩) 1 1) (hu : u.length = size) (hR : R W u y) (h1 : ∀ u' ∈ u, u'.oneCell' = true) (hn : n < 1000000) (hbase : base ≤ W.heap.size)
    (K : ∀ g cap w', RowOf R e size w' base (.slice (some ⟨g, 0, none⟩) (n + 1) cap) (l ++ [y]) → Below base W w' → (W.alloc (.cells u.toArray e)).grownBy w' v.ownBlock → (v.ownBlock = some g ∨ g = (W.alloc (.cells u.toArray e)).heap.size) → base ≤ w'.heap.size → wpList Tryz.prog ops Q rest (a.put o.dst (.slice (some ⟨g, 0, none⟩) (n + 1) cap)) w') :
    wpList Tryz.prog ops Q (o :: rest) a (W.alloc (.cells u.toArray e)) := by
  obtain ⟨us, hul, hr, hus⟩ := hO
  rw [hl] at hr hul
  refine append_oneL W hgd s x t e z size bytes ho ht hinfo hzs hsz hby base v n us.flatten u hs (World.ownsRow.alloc hr _) hx hu h1 hn hbase fun g cap w' hma hga hgx => ?_
  obtain ⟨hbR, hnew, hbs⟩ := row_push hS hT hl hul hr hus hbase (Below.refl _ _) hR hu hma hga
  exact K g cap w' hnew hbR hga hgx hbs
theorem RowOf.below' {T : TypeId} {size base B : Nat} {w w' : World} {v : Value} {l : List α} (hS : Stable R ts) (h : RowOf R T size w base v l) (hb : Below B w w') (hB : w.heap.size ≤ B) : RowOf R T size w' base v l :=
  h.below hS (hb.mono hB)
def fillTo (l : List α) (z : α) (k : Nat) : List α := l.take k ++ List.replicate (l.length - k) z
theorem fillTo_zero (l : List α) (z : α) : fillTo l z 0 = List.replicate l.length z := by simp [fillTo]
theorem fillTo_all (l : List α) (z : α) : fillTo l z l.length = l := by simp [fillTo]
theorem fillTo_len (l : List α) (z : α) {k : Nat} (h : k ≤ l.length) : (fillTo l z k).length = l.length := by simp [fillTo]; omega
theorem fillTo_set {l : List α} {z x : α} {k : Nat} (h : l[k]? = some x) : (fillTo l z k).set k x = fillTo l z (k + 1) := by
  have hk : k < l.length := (List.getElem?_eq_some_iff.1 h).1
  unfold fillTo
  rw [List.set_append_right _ _ (by simp; omega), List.length_take, Nat.min_eq_left (by omega), Nat.sub_self, show l.length - k = (l.length - (k + 1)) + 1 by omega, List.replicate_succ, List.set_cons_zero, List.take_add_one, h]
  simp
end Go.Proofs.YtfkogkcpndaoeaaGreat
