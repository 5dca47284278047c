/- The reference's point. Conditions: none. -/
import Derived.Test.YtpnfdlnhmhekeaaGreatMPut
import Derived.Test.YtpnfdlnhmhekeaaGreatMRVw
set_option linter.all false
namespace Go.Proofs.YtpnfdlnhmhekeaaGreat
open Go.RowKit
section
variable {P : Program} {md : Region.Mode} {ops : Array Oper} {Q : Exit → Act → World → Prop} {S L : World → Prop} {late : Nat → Bool}
theorem wpAnyM_three {i j k : Nat} {oi oj ok : Oper} {n : Nat} {listed : Array Bool} {a : Act} {w : World} (hr : Region.ready md ops listed = [i, j, k]) (hi : ops[i]? = some oi) (hj : ops[j]? = some oj) (hk : ops[k]? = some ok)
    (h1 : ∀ K : Act → World → Prop, (∀ a' w', S w' → (late i = false → L w → L w') → wpAnyM P md ops Q S L late n (listed.setIfInBounds i true) a' w' → K a' w') →
      if Region.wanted oi (yielded ops a.tmps) = true then oi.wp P a w K Q else K (a.put oi.dst undef) w)
    (h2 : ∀ K : Act → World → Prop, (∀ a' w', S w' → (late j = false → L w → L w') → wpAnyM P md ops Q S L late n (listed.setIfInBounds j true) a' w' → K a' w') →
      if Region.wanted oj (yielded ops a.tmps) = true then oj.wp P a w K Q else K (a.put oj.dst undef) w)
    (h3 : ∀ K : Act → World → Prop, (∀ a' w', S w' → (late k = false → L w → L w') → wpAnyM P md ops Q S L late n (listed.setIfInBounds k true) a' w' → K a' w') →
      if Region.wanted ok (yielded ops a.tmps) = true then ok.wp P a w K Q else K (a.put ok.dst undef) w) : wpAnyM P md ops Q S L late (n + 1) listed a w := by
  have key : ∀ (k : Nat) (o : Oper), ops[k]? = some o → (∀ K : Act → World → Prop, (∀ a' w', S w' → (late k = false → L w → L w') → wpAnyM P md ops Q S L late n (listed.setIfInBounds k true) a' w' → K a' w') →
      if Region.wanted o (yielded ops a.tmps) = true then o.wp P a w K Q else K (a.put o.dst undef) w) → wpOp P ops Q k (fun a' w' => S w' ∧ (late k = false → L w → L w') ∧ wpAnyM P md ops Q S L late n (listed.setIfInBounds k true) a' w') a w := by
    intro k o ho h
    have h1 := h (fun a' w' => S w' ∧ (late k = false → L w → L w') ∧ wpAnyM P md ops Q S L late n (listed.setIfInBounds k true) a' w') (fun a' w' hS hL hM => ⟨hS, hL, hM⟩)
    unfold wpOp
    rw [ho]
    simp only
    split
    · rename_i hw
      rw [if_pos hw] at h1
      exact .inl h1
    · rename_i hw
      rw [if_neg hw] at h1
      exact h1
  refine ⟨(fun h0 => by rw [hr] at h0; cases h0), fun m hm => ?_⟩
  rw [hr, List.mem_cons, List.mem_cons, List.mem_singleton] at hm
  rcases hm with rfl | rfl | rfl
  · exact key _ _ hi h1
  · exact key _ _ hj h2
  · exact key _ _ hk h3
end
theorem Own.grownO {w w' : World} {E : TypeId} {g : Nat} {cs : List Value} {ob : Option Nat} (h : Own w E g cs) (hg : w.grownBy w' ob) (hne : ob ≠ some g) : Own w' E g cs := by
  have hl := h.lt
  unfold Own at *
  rw [hg.block g hl (fun e => hne e.symm)]
  exact h
theorem step_rowC {α : Type} {R : List Value → α → Prop} {ops : Array Oper} {o : Oper} {a : Act} {K : Act → World → Prop} {Q : Exit → Act → World → Prop} {E : Prop} (W : World) (hgd : o.guard = none) (s x : Operand) (t e : TypeId) (z : Value) (size bytes : Nat)
    (ho : o.op = .call { callee := .builtin .append, args := #[s, x], argTypes := #[t, t] }) (ht : Tryz.prog.underlying t = some (.slice e)) (hinfo : (Tryz.prog.info? e).map (fun i => (i.zero, i.size, i.bytes)) = some (some z, size, bytes)) (hzs : z.cells.size = size) (hsz : 0 < size) (hby : bytes ≤ 1000)
    (base : Nat) (v : Value) (n : Nat) (l : List α) (hs : a.eval s = v) (hO : RowOf (fun _ => R) e size W base v l) (hx0 : True) (gs : Nat) (cs : List Value) (y : α) (hx : a.eval x = .slice (some ⟨gs, 0, none⟩) 1 1) (hc : Own W e gs cs)
    (hcs : cs.length = size) (hR : R cs y) (h1 : ∀ u ∈ cs, u.oneCell' = true) (hl : l.length = n) (hn : n < 1000000) (hbase : base ≤ W.heap.size)
    (h : ∀ g cap w', RowOf (fun _ => R) e size w' base (.slice (some ⟨g, 0, none⟩) (n + 1) cap) (l ++ [y]) → W.grownBy w' v.ownBlock → (v.ownBlock = some g ∨ g = W.heap.size) → K (a.put o.dst (.slice (some ⟨g, 0, none⟩) (n + 1) cap)) w') :
    if Region.wanted o (yielded ops a.tmps) = true then Oper.wp Tryz.prog o a W K Q else E := by
  obtain ⟨us, hul, hr, hus⟩ := hO
  rw [hl] at hr hul
  refine step_app W hgd s x t e z size bytes ho ht hinfo hzs hsz hby base v n us.flatten hs hr gs cs hx hc hcs h1 hn hbase fun g cap w' hnew hg hx => h g cap w' ⟨us ++ [cs], by simp [hul, hl], by simpa [hl] using hnew, fun i u y' hu hy => ?_⟩ hg hx
  rcases Nat.lt_or_ge i us.length with hi | hi
  · rw [List.getElem?_append_left hi] at hu
    rw [List.getElem?_append_left (by omega)] at hy
    exact hus i u y' hu hy
  · rw [List.getElem?_append_right hi] at hu
    rw [List.getElem?_append_right (by omega)] at hy
    have hik : i = us.length := by
      have := (List.getElem?_eq_some_iff.1 hu).1
      simp at this; omega
    subst hik
    rw [hul, ← hl] at hy
    simp only [Nat.sub_self, List.getElem?_cons_zero, Option.some.injEq] at hu hy
    subst hu hy
    exact ⟨hcs, hR⟩
theorem rowC_kept {α : Type} {R : List Value → α → Prop} {T : TypeId} {size base : Nat} {w w' : World} {v : Value} {l : List α} {ob : Option Nat} (h : RowOf (fun _ => R) T size w base v l) (hg : w.grownBy w' ob) (hne : v.ownBlock = none ∨ v.ownBlock ≠ ob) : RowOf (fun _ => R) T size w' base v l :=
  h.lift (fun _ _ h => h) (fun n xs h' => World.ownsRow.kept h' hg hne)
theorem rowC_stable {α : Type} {R : List Value → α → Prop} (ts : List TypeId) : Stable (fun _ : World => R) ts := ⟨fun h _ _ => h, fun h _ _ _ => h⟩
structure OutQ (w0 : World) (base : Nat) (sf sa sb : Value) (fr : List CQ) (a b : List (List (List CQ))) (w : World) : Prop where
  rf : RowOf (fun _ => QC w0) 57 5 w base sf fr
  ra : RowOf (fun _ => QsM w0) 164 1 w base sa a
  rb : RowOf (fun _ => QsM w0) 164 1 w base sb b
  ap : sa.ownBlock = none ∨ sa.ownBlock ≠ sb.ownBlock
  bs : base ≤ w.heap.size
theorem OutQ.below {w0 w w' : World} {base : Nat} {sf sa sb : Value} {fr : List CQ} {a b : List (List (List CQ))} (h : OutQ w0 base sf sa sb fr a b w) (hb : Below w.heap.size w w') : OutQ w0 base sf sa sb fr a b w' :=
  ⟨h.rf.below (rowC_stable []) hb, h.ra.below (rowC_stable []) hb, h.rb.below (rowC_stable []) hb, h.ap, Nat.le_trans h.bs hb.size⟩
theorem OutQ.flip {w0 w : World} {base : Nat} {sf sa sb : Value} {fr : List CQ} {a b : List (List (List CQ))} (h : OutQ w0 base sf sa sb fr a b w) : sb.ownBlock = none ∨ sb.ownBlock ≠ sa.ownBlock := by
  rcases h.ap with e | e
  · cases eb : sb.ownBlock with
    | none => exact .inl rfl
    | some k => exact .inr (by rw [e]; exact fun h => by cases h)
  · exact .inr e.symm
theorem OutQ.freq {w0 w wa : World} {base g' n cap : Nat} {sf sa sb : Value} {fr : List CQ} {y : CQ} {a b : List (List (List CQ))} (h : OutQ w0 base sf sa sb fr a b w) (hg : w.grownBy wa sf.ownBlock) (hnew : RowOf (fun _ => QC w0) 57 5 wa base (.slice (some ⟨g', 0, none⟩) n cap) (fr ++ [y])) :
    OutQ w0 base (.slice (some ⟨g', 0, none⟩) n cap) sa sb (fr ++ [y]) a b wa := by
  obtain ⟨us, -, hr, -⟩ := id h.rf
  obtain ⟨_, -, hra, -⟩ := id h.ra
  obtain ⟨_, -, hrb, -⟩ := id h.rb
  exact ⟨hnew, rowC_kept h.ra hg (row_ne hra hr (by decide)), rowC_kept h.rb hg (row_ne hrb hr (by decide)), h.ap, by have := h.bs; have := hg.size; omega⟩
theorem OutQ.matA {w0 w wa : World} {base g' n cap : Nat} {sf sa sb : Value} {fr : List CQ} {m : List (List CQ)} {a b : List (List (List CQ))} (h : OutQ w0 base sf sa sb fr a b w) (hg : w.grownBy wa sa.ownBlock) (hnew : RowOf (fun _ => QsM w0) 164 1 wa base (.slice (some ⟨g', 0, none⟩) n cap) (a ++ [m])) (hx : sa.ownBlock = some g' ∨ g' = w.heap.size) :
    OutQ w0 base sf (.slice (some ⟨g', 0, none⟩) n cap) sb fr (a ++ [m]) b wa := by
  obtain ⟨us, -, hr, -⟩ := id h.ra
  obtain ⟨_, -, hrf, -⟩ := id h.rf
  obtain ⟨_, -, hrb, -⟩ := id h.rb
  refine ⟨rowC_kept h.rf hg (row_ne hrf hr (by decide)), hnew, rowC_kept h.rb hg h.flip, .inr fun e => ?_, by have := h.bs; have := hg.size; omega⟩
  have e2 : sb.ownBlock = some g' := e.symm
  rcases hx with hx | hx
  · rcases h.flip with h1 | h1
    · rw [h1] at e2; cases e2
    · exact h1 (e2.trans hx.symm)
  · have := (hrb.lt g' e2).2
    omega
theorem OutQ.matB {w0 w wa : World} {base g' n cap : Nat} {sf sa sb : Value} {fr : List CQ} {m : List (List CQ)} {a b : List (List (List CQ))} (h : OutQ w0 base sf sa sb fr a b w) (hg : w.grownBy wa sb.ownBlock) (hnew : RowOf (fun _ => QsM w0) 164 1 wa base (.slice (some ⟨g', 0, none⟩) n cap) (b ++ [m])) (hx : sb.ownBlock = some g' ∨ g' = w.heap.size) :
    OutQ w0 base sf sa (.slice (some ⟨g', 0, none⟩) n cap) fr a (b ++ [m]) wa := by
  obtain ⟨us, -, hr, -⟩ := id h.rb
  obtain ⟨_, -, hrf, -⟩ := id h.rf
  obtain ⟨_, -, hra, -⟩ := id h.ra
  refine ⟨rowC_kept h.rf hg (row_ne hrf hr (by decide)), rowC_kept h.ra hg h.ap, hnew, ?_, by have := h.bs; have := hg.size; omega⟩
  cases ea : sa.ownBlock with
  | none => exact .inl rfl
  | some k =>
    refine .inr fun e => ?_
    have e2 : k = g' := Option.some.inj e
    subst e2
    rcases hx with hx | hx
    · rcases h.ap with h1 | h1
      · rw [h1] at ea; cases ea
      · exact h1 (ea.trans hx.symm)
    · have := (hra.lt k ea).2
      omega
structure PtS (w0 W : World) (base g3 g4 g6 : Nat) (c3 c4 c6 : List Value) (sf sa sb : Value) (fr : List CQ) (a b : List (List (List CQ))) (w : World) : Prop where
  out : OutQ w0 base sf sa sb fr a b w
  o3 : Own w 37 g3 c3
  o4 : Own w 37 g4 c4
  o6 : Own w 37 g6 c6
  bw : Below base W w
  sz : W.heap.size ≤ w.heap.size
  l3 : c3.length ≤ 1000 ∧ c4.length ≤ 1000 ∧ c6.length ≤ 1000
theorem PtS.alloc {w0 W w : World} {base g3 g4 g6 : Nat} {c3 c4 c6 : List Value} {sf sa sb : Value} {fr : List CQ} {a b : List (List (List CQ))} (h : PtS w0 W base g3 g4 g6 c3 c4 c6 sf sa sb fr a b w) (c : Obj) : PtS w0 W base g3 g4 g6 c3 c4 c6 sf sa sb fr a b (w.alloc c) := by
  have hb : Below w.heap.size w (w.alloc c) := (Below.refl _ _).alloc lr _
  exact ⟨h.out.below hb, h.o3.below hb h.o3.lt, h.o4.below hb h.o4.lt, h.o6.below hb h.o6.lt, h.bw.trans (hb.mono h.out.bs), Nat.le_trans h.sz hb.size, h.l3⟩
theorem PtS.freq {w0 W w wa : World} {base g3 g4 g6 g' n cap : Nat} {c3 c4 c6 : List Value} {sf sa sb : Value} {fr : List CQ} {y : CQ} {a b : List (List (List CQ))} (h : PtS w0 W base g3 g4 g6 c3 c4 c6 sf sa sb fr a b w) (hg : w.grownBy wa sf.ownBlock) (hnew : RowOf (fun _ => QC w0) 57 5 wa base (.slice (some ⟨g', 0, none⟩) n cap) (fr ++ [y])) (_hx : sf.ownBlock = some g' ∨ g' = w.heap.size) :
    PtS w0 W base g3 g4 g6 c3 c4 c6 (.slice (some ⟨g', 0, none⟩) n cap) sa sb (fr ++ [y]) a b wa := by
  obtain ⟨us, -, hr, -⟩ := id h.out.rf
  exact ⟨h.out.freq hg hnew, h.o3.apart h.l3.1 hr (by decide) hg, h.o4.apart h.l3.2.1 hr (by decide) hg, h.o6.apart h.l3.2.2 hr (by decide) hg, below_row h.bw hr hg lr h.out.bs, Nat.le_trans h.sz hg.size, h.l3⟩
theorem PtS.matA {w0 W w wa : World} {base g3 g4 g6 g' n cap : Nat} {c3 c4 c6 : List Value} {sf sa sb : Value} {fr : List CQ} {m : List (List CQ)} {a b : List (List (List CQ))} (h : PtS w0 W base g3 g4 g6 c3 c4 c6 sf sa sb fr a b w) (hg : w.grownBy wa sa.ownBlock) (hnew : RowOf (fun _ => QsM w0) 164 1 wa base (.slice (some ⟨g', 0, none⟩) n cap) (a ++ [m])) (hx : sa.ownBlock = some g' ∨ g' = w.heap.size) :
    PtS w0 W base g3 g4 g6 c3 c4 c6 sf (.slice (some ⟨g', 0, none⟩) n cap) sb fr (a ++ [m]) b wa := by
  obtain ⟨us, -, hr, -⟩ := id h.out.ra
  exact ⟨h.out.matA hg hnew hx, h.o3.apart h.l3.1 hr (by decide) hg, h.o4.apart h.l3.2.1 hr (by decide) hg, h.o6.apart h.l3.2.2 hr (by decide) hg, below_row h.bw hr hg lr h.out.bs, Nat.le_trans h.sz hg.size, h.l3⟩
theorem PtS.matB {w0 W w wa : World} {base g3 g4 g6 g' n cap : Nat} {c3 c4 c6 : List Value} {sf sa sb : Value} {fr : List CQ} {m : List (List CQ)} {a b : List (List (List CQ))} (h : PtS w0 W base g3 g4 g6 c3 c4 c6 sf sa sb fr a b w) (hg : w.grownBy wa sb.ownBlock) (hnew : RowOf (fun _ => QsM w0) 164 1 wa base (.slice (some ⟨g', 0, none⟩) n cap) (b ++ [m])) (hx : sb.ownBlock = some g' ∨ g' = w.heap.size) :
    PtS w0 W base g3 g4 g6 c3 c4 c6 sf sa (.slice (some ⟨g', 0, none⟩) n cap) fr a (b ++ [m]) wa := by
  obtain ⟨us, -, hr, -⟩ := id h.out.rb
  exact ⟨h.out.matB hg hnew hx, h.o3.apart h.l3.1 hr (by decide) hg, h.o4.apart h.l3.2.1 hr (by decide) hg, h.o6.apart h.l3.2.2 hr (by decide) hg, below_row h.bw hr hg lr h.out.bs, Nat.le_trans h.sz hg.size, h.l3⟩
theorem OutQ.set {w0 w : World} {base g i : Nat} {sf sa sb y : Value} {cs : List Value} {fr : List CQ} {a b : List (List (List CQ))} (h : OutQ w0 base sf sa sb fr a b w) (o : Own w 37 g cs) (hl : cs.length ≤ 1000) : OutQ w0 base sf sa sb fr a b (w.setCell ⟨g, i, none⟩ y) :=
  ⟨RowOf.putBox (rowC_stable []) h.rf o (by decide) hl i y, RowOf.putBox (rowC_stable []) h.ra o (by decide) hl i y, RowOf.putBox (rowC_stable []) h.rb o (by decide) hl i y, h.ap, by have := h.bs; simpa [World.setCell] using this⟩
theorem PtS.store {w0 W w : World} {base g3 g4 g6 : Nat} {c3 c4 : List Value} {u0 u1 u2 y0 y1 y2 : Value} {sf sa sb : Value} {fr : List CQ} {a b : List (List (List CQ))} (h : PtS w0 W base g3 g4 g6 c3 c4 [u0, u1, u2] sf sa sb fr a b w) (h36 : g3 ≠ g6) (h46 : g4 ≠ g6) (hb : base ≤ g6) :
    Own (((w.setCell ⟨g6, 0, none⟩ y0).setCell ⟨g6, 1, none⟩ y1).setCell ⟨g6, 2, none⟩ y2) 37 g3 c3 ∧ Own (((w.setCell ⟨g6, 0, none⟩ y0).setCell ⟨g6, 1, none⟩ y1).setCell ⟨g6, 2, none⟩ y2) 37 g4 c4 ∧
      Below base W (((w.setCell ⟨g6, 0, none⟩ y0).setCell ⟨g6, 1, none⟩ y1).setCell ⟨g6, 2, none⟩ y2) ∧ Own (((w.setCell ⟨g6, 0, none⟩ y0).setCell ⟨g6, 1, none⟩ y1).setCell ⟨g6, 2, none⟩ y2) 37 g6 [y0, y1, y2] ∧
      OutQ w0 base sf sa sb fr a b (((w.setCell ⟨g6, 0, none⟩ y0).setCell ⟨g6, 1, none⟩ y1).setCell ⟨g6, 2, none⟩ y2) := by
  have hl : ∀ x y z : Value, ([x, y, z] : List Value).length ≤ 1000 := fun _ _ _ => by simp
  exact ⟨((h.o3.other (a := ⟨g6, 0, none⟩) h36.symm _).other (a := ⟨g6, 1, none⟩) h36.symm _).other (a := ⟨g6, 2, none⟩) h36.symm _, ((h.o4.other (a := ⟨g6, 0, none⟩) h46.symm _).other (a := ⟨g6, 1, none⟩) h46.symm _).other (a := ⟨g6, 2, none⟩) h46.symm _,
    ((h.bw.setCell hb _).setCell hb _).setCell hb _, ((h.o6.set 0 y0).set 1 y1).set 2 y2,
    ((h.out.set h.o6 (hl _ _ _)).set (h.o6.set 0 y0) (hl _ _ _)).set ((h.o6.set 0 y0).set 1 y1) (hl _ _ _)⟩
set_option maxRecDepth 100000 in
set_option maxHeartbeats 25600000 in
theorem point_spec (base k m : Nat) (vv sf sa sb : Value) (v : Wv) (fr : List CQ) (a b : List (List (List CQ))) (y : CQ) (ma mb : List (List CQ)) (w0 w : World) (h : OutQ w0 base sf sa sb fr a b w) (hv : QvT w0 vv v) (hB0 : Below w0.heap.size w0 w) (h0b : w0.heap.size ≤ base)
    (hy : v.fr[k]? = some y) (hma : v.a[k]? = some ma) (hmb : v.b[k]? = some mb) (hx1 : fr.length = m) (hx2 : a.length = m) (hx3 : b.length = m) (hm : m < 100000) :
    Calls Tryz.prog 43 #[.agg #[sf, sa, sb], vv, .int .i64 (k : Int)] w (fun e w' => ∃ sf' sa' sb', e = .returned (.agg #[sf', sa', sb']) ∧ OutQ w0 base sf' sa' sb' (fr ++ [y]) (a ++ [ma]) (b ++ [mb]) w' ∧ Below base w w') := by
  obtain ⟨vf, va, vb, rfl, hf, ha, hb⟩ := hv
  obtain ⟨af, cf, rfl, hcf, hcf2⟩ := hf.dims
  obtain ⟨aa, ca, rfl, hca, hca2⟩ := ha.dims
  obtain ⟨ab, cb, rfl, hcb, hcb2⟩ := hb.dims
  have hk1 : k < v.fr.length := (List.getElem?_eq_some_iff.1 hy).1
  have hk2 : k < v.a.length := (List.getElem?_eq_some_iff.1 hma).1
  have hk3 : k < v.b.length := (List.getElem?_eq_some_iff.1 hmb).1
  obtain ⟨b1, y1, s0, s2, a1, a3, a4, l1, m1, l3, m3, l4, m4, rfl, hb1, hrep, e0, e1, e2, e3, e4⟩ := hf.num hy
  obtain ⟨b2, y2, a', c', rfl, hb2, f2, hM2, -, -⟩ := ha.mat hma
  obtain ⟨b3, y3, a'', c'', rfl, hb3, f3, hM3, -, -⟩ := hb.mat hmb
  have HY : Hid (QC w0 [.bool s0, .slice a1 l1 m1, .bool s2, .slice a3 l3 m3, .slice a4 l4 m4] y) := hrep
  have HMA : Hid (QsM w0 [.slice a' ma.length c'] ma) := ⟨_, rfl, hM2⟩
  have HMB : Hid (QsM w0 [.slice a'' mb.length c''] mb) := ⟨_, rfl, hM3⟩
  clear hf ha hb hy hma hmb hM2 hM3 hrep hcf hca hcb
  generalize v.fr.length = n1 at *
  generalize v.a.length = n2 at *
  generalize v.b.length = n3 at *
  generalize ma.length = la at *
  generalize mb.length = lb at *
  obtain ⟨sf1, sf3, rfl⟩ := RowOf.shape h.rf
  obtain ⟨sa1, sa3, rfl⟩ := RowOf.shape h.ra
  obtain ⟨sb1, sb3, rfl⟩ := RowOf.shape h.rb
  simp only [hx1, hx2, hx3] at h ⊢
  go_enter Tryz.func43, Tryz.ntmps43
  go_upto_region 1 with (fail)
  obtain ⟨W, hW, o3, o4, o6, hB, hS⟩ := boxes3 w 37 37 37 [.slice sf1 m sf3, .slice sa1 m sa3, .slice sb1 m sb3] [.slice (some ⟨b1, y1, none⟩) n1 cf, .slice (some ⟨b2, y2, none⟩) n2 ca, .slice (some ⟨b3, y3, none⟩) n3 cb] [.slice none 0 0, .slice none 0 0, .slice none 0 0]
  rw [← hW]
  clear hW hS
  have hbs := h.bs
  have hkd : Below W.heap.size W W.drew := (Below.refl _ _).drew
  have o3 : Own W.drew _ _ _ := o3.below hkd o3.lt
  have o4 : Own W.drew _ _ _ := o4.below hkd o4.lt
  have o6 : Own W.drew _ _ _ := o6.below hkd o6.lt
  have hB := hB.trans (hkd.mono hB.size)
  have h := h.below hB
  have hB0 := hB0.trans (hB.mono hB0.size)
  clear hkd
  generalize hWd : W.drew = V0 at o3 o4 o6 hB h hB0
  generalize hg3 : w.heap.size = g3 at *
  have hP : PtS w0 V0 base g3 (g3 + 1) (g3 + 1 + 1) _ _ _ _ _ _ _ _ _ V0 := ⟨h, o3, o4, o6, Below.refl _ _, Nat.le_refl _, by simp⟩
  obtain ⟨_, -, hrf, -⟩ := id h.rf
  obtain ⟨_, -, hra, -⟩ := id h.ra
  obtain ⟨_, -, hrb, -⟩ := id h.rb
  have HBF := Lib.hid (fun b hb => (hrf.lt b hb).2)
  have HBA := Lib.hid (fun b hb => (hra.lt b hb).2)
  have HBB := Lib.hid (fun b hb => (hrb.lt b hb).2)
  have HL1 := Lib.hid hx1
  have HL2 := Lib.hid hx2
  have HL3 := Lib.hid hx3
  clear hrf hra hrb h o3 o4 o6 hx1 hx2 hx3
  have hkn1 : (k : Int) < (n1 : Int) := by omega
  have hkn2 : (k : Int) < (n2 : Int) := by omega
  have hkn3 : (k : Int) < (n3 : Int) := by omega
  have hk0 : (0 : Int) ≤ (k : Int) := by omega
  have HS := Lib.hid (show ∀ w' : World, Own w' 37 g3 [.slice sf1 m sf3, .slice sa1 m sa3, .slice sb1 m sb3] → Own w' 37 (g3 + 1) [.slice (some ⟨b1, y1, none⟩) n1 cf, .slice (some ⟨b2, y2, none⟩) n2 ca, .slice (some ⟨b3, y3, none⟩) n3 cb] → Below base V0 w' → w'.cell? ⟨g3, 0, none⟩ = some (.slice sf1 m sf3) ∧ w'.cell? ⟨g3, 1, none⟩ = some (.slice sa1 m sa3) ∧ w'.cell? ⟨g3, 2, none⟩ = some (.slice sb1 m sb3) ∧ w'.cell? ⟨g3 + 1, 0, none⟩ = some (.slice (some ⟨b1, y1, none⟩) n1 cf) ∧ w'.cell? ⟨g3 + 1, 1, none⟩ = some (.slice (some ⟨b2, y2, none⟩) n2 ca) ∧ w'.cell? ⟨g3 + 1, 2, none⟩ = some (.slice (some ⟨b3, y3, none⟩) n3 cb) ∧ w'.cell? ⟨b1, y1 + k * 5, none⟩ = some (.bool s0) ∧ w'.cell? ⟨b1, y1 + k * 5 + 1, none⟩ = some (.slice a1 l1 m1) ∧ w'.cell? ⟨b1, y1 + k * 5 + 2, none⟩ = some (.bool s2) ∧ w'.cell? ⟨b1, y1 + k * 5 + 3, none⟩ = some (.slice a3 l3 m3) ∧ w'.cell? ⟨b1, y1 + k * 5 + 4, none⟩ = some (.slice a4 l4 m4) ∧ w'.cell? ⟨b2, y2 + k, none⟩ = some (.slice a' la c') ∧ w'.cell? ⟨b3, y3 + k, none⟩ = some (.slice a'' lb c'') from
    fun w' h1 h2 hb => have hz : Below w0.heap.size w0 w' := hB0.trans (hb.mono h0b)
      ⟨h1.cell 0 _ rfl, h1.cell 1 _ rfl, h1.cell 2 _ rfl, h2.cell 0 _ rfl, h2.cell 1 _ rfl, h2.cell 2 _ rfl, (hz.cell hb1).trans e0, (hz.cell hb1).trans e1, (hz.cell hb1).trans e2, (hz.cell hb1).trans e3, (hz.cell hb1).trans e4, (hz.cell hb2).trans f2, (hz.cell hb3).trans f3⟩)
  clear e0 e1 e2 e3 e4 f2 f3
  have hS := HS.out _ hP.o3 hP.o4 hP.bw
  rw [← hWd] at hS
  have hL := True.intro
  refine wp_region_late (fun w' => w'.cell? ⟨g3, 0, none⟩ = some (.slice sf1 m sf3) ∧ w'.cell? ⟨g3, 1, none⟩ = some (.slice sa1 m sa3) ∧ w'.cell? ⟨g3, 2, none⟩ = some (.slice sb1 m sb3) ∧ w'.cell? ⟨g3 + 1, 0, none⟩ = some (.slice (some ⟨b1, y1, none⟩) n1 cf) ∧ w'.cell? ⟨g3 + 1, 1, none⟩ = some (.slice (some ⟨b2, y2, none⟩) n2 ca) ∧ w'.cell? ⟨g3 + 1, 2, none⟩ = some (.slice (some ⟨b3, y3, none⟩) n3 cb) ∧ w'.cell? ⟨b1, y1 + k * 5, none⟩ = some (.bool s0) ∧ w'.cell? ⟨b1, y1 + k * 5 + 1, none⟩ = some (.slice a1 l1 m1) ∧ w'.cell? ⟨b1, y1 + k * 5 + 2, none⟩ = some (.bool s2) ∧ w'.cell? ⟨b1, y1 + k * 5 + 3, none⟩ = some (.slice a3 l3 m3) ∧ w'.cell? ⟨b1, y1 + k * 5 + 4, none⟩ = some (.slice a4 l4 m4) ∧ w'.cell? ⟨b2, y2 + k, none⟩ = some (.slice a' la c') ∧ w'.cell? ⟨b3, y3 + k, none⟩ = some (.slice a'' lb c'')) (fun w' => True) (fun i => false) (by kernel_rfl) ?_; try simp only [List.size_toArray, List.length_cons, List.length_nil, Nat.reduceAdd]
  rw [hWd] at *
  clear hWd
  (refine mt 0 ?_ rfl (by rfl) ?_ hS ?_; rotate_left; (intro w' h; (try dsimp only at h); go_simp; try exact rfl)); simp only [Act.put,q1,q2,q3,q4,q5,q6,q7,q8,q9]; (refine mt 1 ?_ rfl (by rfl) ?_ hS ?_; rotate_left; (intro w' h; (try dsimp only at h); go_simp; try exact rfl)); simp only [Act.put,q1,q2,q3,q4,q5,q6,q7,q8,q9]; (refine mt 2 ?_ rfl (by rfl) ?_ hS ?_; rotate_left; (intro w' h; (try dsimp only at h); go_simp; try exact rfl)); simp only [Act.put,q1,q2,q3,q4,q5,q6,q7,q8,q9]; (refine mt 3 ?_ rfl (by rfl) ?_ hS ?_; rotate_left; (intro w' h; (try dsimp only at h); go_simp; try exact rfl)); simp only [Act.put,q1,q2,q3,q4,q5,q6,q7,q8,q9]; (refine mt 4 ?_ rfl (by rfl) ?_ hS ?_; rotate_left; (intro w' h; (try dsimp only at h); go_simp; try exact rfl)); simp only [Act.put,q1,q2,q3,q4,q5,q6,q7,q8,q9]; (refine mt 5 ?_ rfl (by rfl) ?_ hS ?_; rotate_left; (intro w' h; (try dsimp only at h); go_simp; try exact rfl)); simp only [Act.put,q1,q2,q3,q4,q5,q6,q7,q8,q9]; (refine mt 6 ?_ rfl (by rfl) ?_ hS ?_; rotate_left; (intro w' h; (try dsimp only at h); go_simp; try exact rfl)); simp only [Act.put,q1,q2,q3,q4,q5,q6,q7,q8,q9]; (refine mt 9 ?_ rfl (by rfl) ?_ hS ?_; rotate_left; (intro w' h; (try dsimp only at h); go_simp; try exact rfl)); simp only [Act.put,q1,q2,q3,q4,q5,q6,q7,q8,q9]; (refine mt 10 ?_ rfl (by rfl) ?_ hS ?_; rotate_left; (intro w' h; (try dsimp only at h); go_simp; try exact rfl)); simp only [Act.put,q1,q2,q3,q4,q5,q6,q7,q8,q9]; (refine mt 11 ?_ rfl (by rfl) ?_ hS ?_; rotate_left; (intro w' h; (try dsimp only at h); go_simp; try exact rfl)); simp only [Act.put,q1,q2,q3,q4,q5,q6,q7,q8,q9]; (refine mt 12 ?_ rfl (by rfl) ?_ hS ?_; rotate_left; (intro w' h; (try dsimp only at h); go_simp; try exact rfl)); simp only [Act.put,q1,q2,q3,q4,q5,q6,q7,q8,q9]; (refine mt 13 ?_ rfl (by rfl) ?_ hS ?_; rotate_left; (intro w' h; (try dsimp only at h); go_simp; try exact rfl)); simp only [Act.put,q1,q2,q3,q4,q5,q6,q7,q8,q9]; (refine mt 14 ?_ rfl (by rfl) ?_ hS ?_; rotate_left; (intro w' h; (try dsimp only at h); go_simp; try exact rfl)); simp only [Act.put,q1,q2,q3,q4,q5,q6,q7,q8,q9]; (refine mt 15 ?_ rfl (by rfl) ?_ hS ?_; rotate_left; (intro w' h; (try dsimp only at h); go_simp; try exact rfl)); simp only [Act.put,q1,q2,q3,q4,q5,q6,q7,q8,q9]; (refine mt 18 ?_ rfl (by rfl) ?_ hS ?_; rotate_left; (intro w' h; (try dsimp only at h); go_simp; try exact rfl)); simp only [Act.put,q1,q2,q3,q4,q5,q6,q7,q8,q9]; (refine mt 19 ?_ rfl (by rfl) ?_ hS ?_; rotate_left; (intro w' h; (try dsimp only at h); go_simp; try exact rfl)); simp only [Act.put,q1,q2,q3,q4,q5,q6,q7,q8,q9]; (refine mt 20 ?_ rfl (by rfl) ?_ hS ?_; rotate_left; (intro w' h; (try dsimp only at h); go_simp; try exact rfl)); simp only [Act.put,q1,q2,q3,q4,q5,q6,q7,q8,q9]; (refine mt 21 ?_ rfl (by rfl) ?_ hS ?_; rotate_left; (intro w' h; (try dsimp only at h); go_simp; try exact rfl)); simp only [Act.put,q1,q2,q3,q4,q5,q6,q7,q8,q9]; (refine mt 22 ?_ rfl (by rfl) ?_ hS ?_; rotate_left; (intro w' h; (try dsimp only at h); go_simp; try exact rfl)); simp only [Act.put,q1,q2,q3,q4,q5,q6,q7,q8,q9]; (refine mt 23 ?_ rfl (by rfl) ?_ hS ?_; rotate_left; (intro w' h; (try dsimp only at h); go_simp; try exact rfl)); simp only [Act.put,q1,q2,q3,q4,q5,q6,q7,q8,q9]; (refine mt 24 ?_ rfl (by rfl) ?_ hS ?_; rotate_left; (intro w' h; (try dsimp only at h); go_simp; try exact rfl)); simp only [Act.put,q1,q2,q3,q4,q5,q6,q7,q8,q9]
  refine wpAnyM_three (i := 7) (j := 16) (k := 25) (oi := _) (oj := _) (ok := _) (by kernel_rfl) rfl rfl rfl (fun K hK => ?_) (fun K hK => ?_) (fun K hK => ?_)
  focus
    go_simp; have hbA : Below V0.heap.size V0 (V0.alloc (.cells #[.bool s0, .slice a1 l1 m1, .bool s2, .slice a3 l3 m3, .slice a4 l4 m4] 57)) := (Below.refl _ _).alloc lr _; have o7 : Own (V0.alloc (.cells #[.bool s0, .slice a1 l1 m1, .bool s2, .slice a3 l3 m3, .slice a4 l4 m4] 57)) 57 V0.heap.size [.bool s0, .slice a1 l1 m1, .bool s2, .slice a3 l3 m3, .slice a4 l4 m4] := own_new V0 57 [.bool s0, .slice a1 l1 m1, .bool s2, .slice a3 l3 m3, .slice a4 l4 m4]; have l7 := hP.sz; have hP := hP.alloc (.cells #[.bool s0, .slice a1 l1 m1, .bool s2, .slice a3 l3 m3, .slice a4 l4 m4] 57); have hS := HS.out _ hP.o3 hP.o4 hP.bw; refine hK _ _ hS (fun _ _ => hL) ?_; clear hK K; (try simp only [Act.put,q1,q2,q3,q4,q5,q6,q7,q8,q9])
    generalize V0.alloc (.cells #[.bool s0, .slice a1 l1 m1, .bool s2, .slice a3 l3 m3, .slice a4 l4 m4] 57) = V1 at *
    refine wpAnyM_three (i := 8) (j := 16) (k := 25) (oi := _) (oj := _) (ok := _) (by kernel_rfl) rfl rfl rfl (fun K hK => ?_) (fun K hK => ?_) (fun K hK => ?_)
    focus
      refine step_rowC (R := QC w0) V1 ?_ (.tmp 8) (.tmp 14) 34 57 (.agg #[.bool false, .slice none 0 0, .bool false, .slice none 0 0, .slice none 0 0]) 5 88 ?_ Tryz.underlying34 info_q ?_ ?_ ?_ base (.slice sf1 m sf3) m _ ?_ hP.out.rf trivial _ [.bool s0, .slice a1 l1 m1, .bool s2, .slice a3 l3 m3, .slice a4 l4 m4] _ ?_ o7 ?_ HY.out oneN ?_ ?_ hP.out.bs ?_; exact rfl; exact rfl; exact rfl; omega; omega; exact rfl; exact rfl; exact rfl; exact HL1.out; omega; intro ga8 ca8 V2 hnw hgr hgx; have hP := hP.freq hgr hnw hgx; clear hnw hgr hgx; have hS := HS.out _ hP.o3 hP.o4 hP.bw; refine hK _ _ hS (fun _ _ => hL) ?_; clear hK K; (try simp only [Act.put,q1,q2,q3,q4,q5,q6,q7,q8,q9])
      refine wpAnyM_two (i := 16) (j := 25) (oi := _) (oj := _) (by kernel_rfl) rfl rfl (fun K hK => ?_) (fun K hK => ?_)
      focus
        go_simp; have hbA : Below V2.heap.size V2 (V2.alloc (.cells #[.slice a' la c'] 164)) := (Below.refl _ _).alloc lr _; have o16 : Own (V2.alloc (.cells #[.slice a' la c'] 164)) 164 V2.heap.size [.slice a' la c'] := own_new V2 164 [.slice a' la c']; have l16 := hP.sz; have hP := hP.alloc (.cells #[.slice a' la c'] 164); have hS := HS.out _ hP.o3 hP.o4 hP.bw; refine hK _ _ hS (fun _ _ => hL) ?_; clear hK K; (try simp only [Act.put,q1,q2,q3,q4,q5,q6,q7,q8,q9])
        generalize V2.alloc (.cells #[.slice a' la c'] 164) = V3 at *
        refine wpAnyM_two (i := 17) (j := 25) (oi := _) (oj := _) (by kernel_rfl) rfl rfl (fun K hK => ?_) (fun K hK => ?_)
        focus
          refine step_rowC (R := QsM w0) V3 ?_ (.tmp 17) (.tmp 23) 35 164 (.slice none 0 0) 1 24 ?_ Tryz.underlying35 info_qrows ?_ ?_ ?_ base (.slice sa1 m sa3) m _ ?_ hP.out.ra trivial _ [.slice a' la c'] _ ?_ o16 ?_ HMA.out oneS ?_ ?_ hP.out.bs ?_; exact rfl; exact rfl; exact rfl; omega; omega; exact rfl; exact rfl; exact rfl; exact HL2.out; omega; intro ga17 ca17 V4 hnw hgr hgx; have hP := hP.matA hgr hnw hgx; clear hnw hgr hgx; have hS := HS.out _ hP.o3 hP.o4 hP.bw; refine hK _ _ hS (fun _ _ => hL) ?_; clear hK K; (try simp only [Act.put,q1,q2,q3,q4,q5,q6,q7,q8,q9])
          refine mo 25 rfl fun K hK => ?_; go_simp; have hbA : Below V4.heap.size V4 (V4.alloc (.cells #[.slice a'' lb c''] 164)) := (Below.refl _ _).alloc lr _; have o25 : Own (V4.alloc (.cells #[.slice a'' lb c''] 164)) 164 V4.heap.size [.slice a'' lb c''] := own_new V4 164 [.slice a'' lb c'']; have l25 := hP.sz; have hP := hP.alloc (.cells #[.slice a'' lb c''] 164); have hS := HS.out _ hP.o3 hP.o4 hP.bw; refine hK _ _ hS (fun _ _ => hL) ?_; clear hK K; (try simp only [Act.put,q1,q2,q3,q4,q5,q6,q7,q8,q9])
          generalize V4.alloc (.cells #[.slice a'' lb c''] 164) = V5 at *
          refine mo 26 rfl fun K hK => ?_; refine step_rowC (R := QsM w0) V5 ?_ (.tmp 26) (.tmp 32) 35 164 (.slice none 0 0) 1 24 ?_ Tryz.underlying35 info_qrows ?_ ?_ ?_ base (.slice sb1 m sb3) m _ ?_ hP.out.rb trivial _ [.slice a'' lb c''] _ ?_ o25 ?_ HMB.out oneS ?_ ?_ hP.out.bs ?_; exact rfl; exact rfl; exact rfl; omega; omega; exact rfl; exact rfl; exact rfl; exact HL3.out; omega; intro ga26 ca26 V6 hnw hgr hgx; have hP := hP.matB hgr hnw hgx; clear hnw hgr hgx; have hS := HS.out _ hP.o3 hP.o4 hP.bw; refine hK _ _ hS (fun _ _ => hL) ?_; clear hK K; (try simp only [Act.put,q1,q2,q3,q4,q5,q6,q7,q8,q9])
        rotate_left 1
        focus
          go_simp; have hbA : Below V3.heap.size V3 (V3.alloc (.cells #[.slice a'' lb c''] 164)) := (Below.refl _ _).alloc lr _; have o16 := o16.below hbA o16.lt; have o25 : Own (V3.alloc (.cells #[.slice a'' lb c''] 164)) 164 V3.heap.size [.slice a'' lb c''] := own_new V3 164 [.slice a'' lb c'']; have l25 := hP.sz; have hP := hP.alloc (.cells #[.slice a'' lb c''] 164); have hS := HS.out _ hP.o3 hP.o4 hP.bw; refine hK _ _ hS (fun _ _ => hL) ?_; clear hK K; (try simp only [Act.put,q1,q2,q3,q4,q5,q6,q7,q8,q9])
          generalize V3.alloc (.cells #[.slice a'' lb c''] 164) = V4 at *
          refine mo 17 rfl fun K hK => ?_; refine step_rowC (R := QsM w0) V4 ?_ (.tmp 17) (.tmp 23) 35 164 (.slice none 0 0) 1 24 ?_ Tryz.underlying35 info_qrows ?_ ?_ ?_ base (.slice sa1 m sa3) m _ ?_ hP.out.ra trivial _ [.slice a' la c'] _ ?_ o16 ?_ HMA.out oneS ?_ ?_ hP.out.bs ?_; exact rfl; exact rfl; exact rfl; omega; omega; exact rfl; exact rfl; exact rfl; exact HL2.out; omega; intro ga17 ca17 V5 hnw hgr hgx; have o25 := Own.grownO o25 hgr (fun e => by have := HBA.out _ e; omega); have hP := hP.matA hgr hnw hgx; clear hnw hgr hgx; have hS := HS.out _ hP.o3 hP.o4 hP.bw; refine hK _ _ hS (fun _ _ => hL) ?_; clear hK K; (try simp only [Act.put,q1,q2,q3,q4,q5,q6,q7,q8,q9])
          refine mo 26 rfl fun K hK => ?_; refine step_rowC (R := QsM w0) V5 ?_ (.tmp 26) (.tmp 32) 35 164 (.slice none 0 0) 1 24 ?_ Tryz.underlying35 info_qrows ?_ ?_ ?_ base (.slice sb1 m sb3) m _ ?_ hP.out.rb trivial _ [.slice a'' lb c''] _ ?_ o25 ?_ HMB.out oneS ?_ ?_ hP.out.bs ?_; exact rfl; exact rfl; exact rfl; omega; omega; exact rfl; exact rfl; exact rfl; exact HL3.out; omega; intro ga26 ca26 V6 hnw hgr hgx; have hP := hP.matB hgr hnw hgx; clear hnw hgr hgx; have hS := HS.out _ hP.o3 hP.o4 hP.bw; refine hK _ _ hS (fun _ _ => hL) ?_; clear hK K; (try simp only [Act.put,q1,q2,q3,q4,q5,q6,q7,q8,q9])
      rotate_left 2
      focus
        go_simp; have hbA : Below V2.heap.size V2 (V2.alloc (.cells #[.slice a'' lb c''] 164)) := (Below.refl _ _).alloc lr _; have o25 : Own (V2.alloc (.cells #[.slice a'' lb c''] 164)) 164 V2.heap.size [.slice a'' lb c''] := own_new V2 164 [.slice a'' lb c'']; have l25 := hP.sz; have hP := hP.alloc (.cells #[.slice a'' lb c''] 164); have hS := HS.out _ hP.o3 hP.o4 hP.bw; refine hK _ _ hS (fun _ _ => hL) ?_; clear hK K; (try simp only [Act.put,q1,q2,q3,q4,q5,q6,q7,q8,q9])
        generalize V2.alloc (.cells #[.slice a'' lb c''] 164) = V3 at *
        refine mo 16 rfl fun K hK => ?_; go_simp; have hbA : Below V3.heap.size V3 (V3.alloc (.cells #[.slice a' la c'] 164)) := (Below.refl _ _).alloc lr _; have o25 := o25.below hbA o25.lt; have o16 : Own (V3.alloc (.cells #[.slice a' la c'] 164)) 164 V3.heap.size [.slice a' la c'] := own_new V3 164 [.slice a' la c']; have l16 := hP.sz; have hP := hP.alloc (.cells #[.slice a' la c'] 164); have hS := HS.out _ hP.o3 hP.o4 hP.bw; refine hK _ _ hS (fun _ _ => hL) ?_; clear hK K; (try simp only [Act.put,q1,q2,q3,q4,q5,q6,q7,q8,q9])
        generalize V3.alloc (.cells #[.slice a' la c'] 164) = V4 at *
        refine mo 17 rfl fun K hK => ?_; refine step_rowC (R := QsM w0) V4 ?_ (.tmp 17) (.tmp 23) 35 164 (.slice none 0 0) 1 24 ?_ Tryz.underlying35 info_qrows ?_ ?_ ?_ base (.slice sa1 m sa3) m _ ?_ hP.out.ra trivial _ [.slice a' la c'] _ ?_ o16 ?_ HMA.out oneS ?_ ?_ hP.out.bs ?_; exact rfl; exact rfl; exact rfl; omega; omega; exact rfl; exact rfl; exact rfl; exact HL2.out; omega; intro ga17 ca17 V5 hnw hgr hgx; have o25 := Own.grownO o25 hgr (fun e => by have := HBA.out _ e; omega); have hP := hP.matA hgr hnw hgx; clear hnw hgr hgx; have hS := HS.out _ hP.o3 hP.o4 hP.bw; refine hK _ _ hS (fun _ _ => hL) ?_; clear hK K; (try simp only [Act.put,q1,q2,q3,q4,q5,q6,q7,q8,q9])
        refine mo 26 rfl fun K hK => ?_; refine step_rowC (R := QsM w0) V5 ?_ (.tmp 26) (.tmp 32) 35 164 (.slice none 0 0) 1 24 ?_ Tryz.underlying35 info_qrows ?_ ?_ ?_ base (.slice sb1 m sb3) m _ ?_ hP.out.rb trivial _ [.slice a'' lb c''] _ ?_ o25 ?_ HMB.out oneS ?_ ?_ hP.out.bs ?_; exact rfl; exact rfl; exact rfl; omega; omega; exact rfl; exact rfl; exact rfl; exact HL3.out; omega; intro ga26 ca26 V6 hnw hgr hgx; have hP := hP.matB hgr hnw hgx; clear hnw hgr hgx; have hS := HS.out _ hP.o3 hP.o4 hP.bw; refine hK _ _ hS (fun _ _ => hL) ?_; clear hK K; (try simp only [Act.put,q1,q2,q3,q4,q5,q6,q7,q8,q9])
    rotate_left 3
    focus
      go_simp; have hbA : Below V1.heap.size V1 (V1.alloc (.cells #[.slice a' la c'] 164)) := (Below.refl _ _).alloc lr _; have o7 := o7.below hbA o7.lt; have o16 : Own (V1.alloc (.cells #[.slice a' la c'] 164)) 164 V1.heap.size [.slice a' la c'] := own_new V1 164 [.slice a' la c']; have l16 := hP.sz; have hP := hP.alloc (.cells #[.slice a' la c'] 164); have hS := HS.out _ hP.o3 hP.o4 hP.bw; refine hK _ _ hS (fun _ _ => hL) ?_; clear hK K; (try simp only [Act.put,q1,q2,q3,q4,q5,q6,q7,q8,q9])
      generalize V1.alloc (.cells #[.slice a' la c'] 164) = V2 at *
      refine wpAnyM_two (i := 8) (j := 25) (oi := _) (oj := _) (by kernel_rfl) rfl rfl (fun K hK => ?_) (fun K hK => ?_)
      focus
        refine step_rowC (R := QC w0) V2 ?_ (.tmp 8) (.tmp 14) 34 57 (.agg #[.bool false, .slice none 0 0, .bool false, .slice none 0 0, .slice none 0 0]) 5 88 ?_ Tryz.underlying34 info_q ?_ ?_ ?_ base (.slice sf1 m sf3) m _ ?_ hP.out.rf trivial _ [.bool s0, .slice a1 l1 m1, .bool s2, .slice a3 l3 m3, .slice a4 l4 m4] _ ?_ o7 ?_ HY.out oneN ?_ ?_ hP.out.bs ?_; exact rfl; exact rfl; exact rfl; omega; omega; exact rfl; exact rfl; exact rfl; exact HL1.out; omega; intro ga8 ca8 V3 hnw hgr hgx; have o16 := Own.grownO o16 hgr (fun e => by have := HBF.out _ e; omega); have hP := hP.freq hgr hnw hgx; clear hnw hgr hgx; have hS := HS.out _ hP.o3 hP.o4 hP.bw; refine hK _ _ hS (fun _ _ => hL) ?_; clear hK K; (try simp only [Act.put,q1,q2,q3,q4,q5,q6,q7,q8,q9])
        refine wpAnyM_two (i := 17) (j := 25) (oi := _) (oj := _) (by kernel_rfl) rfl rfl (fun K hK => ?_) (fun K hK => ?_)
        focus
          refine step_rowC (R := QsM w0) V3 ?_ (.tmp 17) (.tmp 23) 35 164 (.slice none 0 0) 1 24 ?_ Tryz.underlying35 info_qrows ?_ ?_ ?_ base (.slice sa1 m sa3) m _ ?_ hP.out.ra trivial _ [.slice a' la c'] _ ?_ o16 ?_ HMA.out oneS ?_ ?_ hP.out.bs ?_; exact rfl; exact rfl; exact rfl; omega; omega; exact rfl; exact rfl; exact rfl; exact HL2.out; omega; intro ga17 ca17 V4 hnw hgr hgx; have hP := hP.matA hgr hnw hgx; clear hnw hgr hgx; have hS := HS.out _ hP.o3 hP.o4 hP.bw; refine hK _ _ hS (fun _ _ => hL) ?_; clear hK K; (try simp only [Act.put,q1,q2,q3,q4,q5,q6,q7,q8,q9])
          refine mo 25 rfl fun K hK => ?_; go_simp; have hbA : Below V4.heap.size V4 (V4.alloc (.cells #[.slice a'' lb c''] 164)) := (Below.refl _ _).alloc lr _; have o25 : Own (V4.alloc (.cells #[.slice a'' lb c''] 164)) 164 V4.heap.size [.slice a'' lb c''] := own_new V4 164 [.slice a'' lb c'']; have l25 := hP.sz; have hP := hP.alloc (.cells #[.slice a'' lb c''] 164); have hS := HS.out _ hP.o3 hP.o4 hP.bw; refine hK _ _ hS (fun _ _ => hL) ?_; clear hK K; (try simp only [Act.put,q1,q2,q3,q4,q5,q6,q7,q8,q9])
          generalize V4.alloc (.cells #[.slice a'' lb c''] 164) = V5 at *
          refine mo 26 rfl fun K hK => ?_; refine step_rowC (R := QsM w0) V5 ?_ (.tmp 26) (.tmp 32) 35 164 (.slice none 0 0) 1 24 ?_ Tryz.underlying35 info_qrows ?_ ?_ ?_ base (.slice sb1 m sb3) m _ ?_ hP.out.rb trivial _ [.slice a'' lb c''] _ ?_ o25 ?_ HMB.out oneS ?_ ?_ hP.out.bs ?_; exact rfl; exact rfl; exact rfl; omega; omega; exact rfl; exact rfl; exact rfl; exact HL3.out; omega; intro ga26 ca26 V6 hnw hgr hgx; have hP := hP.matB hgr hnw hgx; clear hnw hgr hgx; have hS := HS.out _ hP.o3 hP.o4 hP.bw; refine hK _ _ hS (fun _ _ => hL) ?_; clear hK K; (try simp only [Act.put,q1,q2,q3,q4,q5,q6,q7,q8,q9])
        rotate_left 1
        focus
          go_simp; have hbA : Below V3.heap.size V3 (V3.alloc (.cells #[.slice a'' lb c''] 164)) := (Below.refl _ _).alloc lr _; have o16 := o16.below hbA o16.lt; have o25 : Own (V3.alloc (.cells #[.slice a'' lb c''] 164)) 164 V3.heap.size [.slice a'' lb c''] := own_new V3 164 [.slice a'' lb c'']; have l25 := hP.sz; have hP := hP.alloc (.cells #[.slice a'' lb c''] 164); have hS := HS.out _ hP.o3 hP.o4 hP.bw; refine hK _ _ hS (fun _ _ => hL) ?_; clear hK K; (try simp only [Act.put,q1,q2,q3,q4,q5,q6,q7,q8,q9])
          generalize V3.alloc (.cells #[.slice a'' lb c''] 164) = V4 at *
          refine mo 17 rfl fun K hK => ?_; refine step_rowC (R := QsM w0) V4 ?_ (.tmp 17) (.tmp 23) 35 164 (.slice none 0 0) 1 24 ?_ Tryz.underlying35 info_qrows ?_ ?_ ?_ base (.slice sa1 m sa3) m _ ?_ hP.out.ra trivial _ [.slice a' la c'] _ ?_ o16 ?_ HMA.out oneS ?_ ?_ hP.out.bs ?_; exact rfl; exact rfl; exact rfl; omega; omega; exact rfl; exact rfl; exact rfl; exact HL2.out; omega; intro ga17 ca17 V5 hnw hgr hgx; have o25 := Own.grownO o25 hgr (fun e => by have := HBA.out _ e; omega); have hP := hP.matA hgr hnw hgx; clear hnw hgr hgx; have hS := HS.out _ hP.o3 hP.o4 hP.bw; refine hK _ _ hS (fun _ _ => hL) ?_; clear hK K; (try simp only [Act.put,q1,q2,q3,q4,q5,q6,q7,q8,q9])
          refine mo 26 rfl fun K hK => ?_; refine step_rowC (R := QsM w0) V5 ?_ (.tmp 26) (.tmp 32) 35 164 (.slice none 0 0) 1 24 ?_ Tryz.underlying35 info_qrows ?_ ?_ ?_ base (.slice sb1 m sb3) m _ ?_ hP.out.rb trivial _ [.slice a'' lb c''] _ ?_ o25 ?_ HMB.out oneS ?_ ?_ hP.out.bs ?_; exact rfl; exact rfl; exact rfl; omega; omega; exact rfl; exact rfl; exact rfl; exact HL3.out; omega; intro ga26 ca26 V6 hnw hgr hgx; have hP := hP.matB hgr hnw hgx; clear hnw hgr hgx; have hS := HS.out _ hP.o3 hP.o4 hP.bw; refine hK _ _ hS (fun _ _ => hL) ?_; clear hK K; (try simp only [Act.put,q1,q2,q3,q4,q5,q6,q7,q8,q9])
      rotate_left 2
      focus
        go_simp; have hbA : Below V2.heap.size V2 (V2.alloc (.cells #[.slice a'' lb c''] 164)) := (Below.refl _ _).alloc lr _; have o7 := o7.below hbA o7.lt; have o16 := o16.below hbA o16.lt; have o25 : Own (V2.alloc (.cells #[.slice a'' lb c''] 164)) 164 V2.heap.size [.slice a'' lb c''] := own_new V2 164 [.slice a'' lb c'']; have l25 := hP.sz; have hP := hP.alloc (.cells #[.slice a'' lb c''] 164); have hS := HS.out _ hP.o3 hP.o4 hP.bw; refine hK _ _ hS (fun _ _ => hL) ?_; clear hK K; (try simp only [Act.put,q1,q2,q3,q4,q5,q6,q7,q8,q9])
        generalize V2.alloc (.cells #[.slice a'' lb c''] 164) = V3 at *
        refine mo 8 rfl fun K hK => ?_; refine step_rowC (R := QC w0) V3 ?_ (.tmp 8) (.tmp 14) 34 57 (.agg #[.bool false, .slice none 0 0, .bool false, .slice none 0 0, .slice none 0 0]) 5 88 ?_ Tryz.underlying34 info_q ?_ ?_ ?_ base (.slice sf1 m sf3) m _ ?_ hP.out.rf trivial _ [.bool s0, .slice a1 l1 m1, .bool s2, .slice a3 l3 m3, .slice a4 l4 m4] _ ?_ o7 ?_ HY.out oneN ?_ ?_ hP.out.bs ?_; exact rfl; exact rfl; exact rfl; omega; omega; exact rfl; exact rfl; exact rfl; exact HL1.out; omega; intro ga8 ca8 V4 hnw hgr hgx; have o16 := Own.grownO o16 hgr (fun e => by have := HBF.out _ e; omega); have o25 := Own.grownO o25 hgr (fun e => by have := HBF.out _ e; omega); have hP := hP.freq hgr hnw hgx; clear hnw hgr hgx; have hS := HS.out _ hP.o3 hP.o4 hP.bw; refine hK _ _ hS (fun _ _ => hL) ?_; clear hK K; (try simp only [Act.put,q1,q2,q3,q4,q5,q6,q7,q8,q9])
        refine mo 17 rfl fun K hK => ?_; refine step_rowC (R := QsM w0) V4 ?_ (.tmp 17) (.tmp 23) 35 164 (.slice none 0 0) 1 24 ?_ Tryz.underlying35 info_qrows ?_ ?_ ?_ base (.slice sa1 m sa3) m _ ?_ hP.out.ra trivial _ [.slice a' la c'] _ ?_ o16 ?_ HMA.out oneS ?_ ?_ hP.out.bs ?_; exact rfl; exact rfl; exact rfl; omega; omega; exact rfl; exact rfl; exact rfl; exact HL2.out; omega; intro ga17 ca17 V5 hnw hgr hgx; have o25 := Own.grownO o25 hgr (fun e => by have := HBA.out _ e; omega); have hP := hP.matA hgr hnw hgx; clear hnw hgr hgx; have hS := HS.out _ hP.o3 hP.o4 hP.bw; refine hK _ _ hS (fun _ _ => hL) ?_; clear hK K; (try simp only [Act.put,q1,q2,q3,q4,q5,q6,q7,q8,q9])
        refine mo 26 rfl fun K hK => ?_; refine step_rowC (R := QsM w0) V5 ?_ (.tmp 26) (.tmp 32) 35 164 (.slice none 0 0) 1 24 ?_ Tryz.underlying35 info_qrows ?_ ?_ ?_ base (.slice sb1 m sb3) m _ ?_ hP.out.rb trivial _ [.slice a'' lb c''] _ ?_ o25 ?_ HMB.out oneS ?_ ?_ hP.out.bs ?_; exact rfl; exact rfl; exact rfl; omega; omega; exact rfl; exact rfl; exact rfl; exact HL3.out; omega; intro ga26 ca26 V6 hnw hgr hgx; have hP := hP.matB hgr hnw hgx; clear hnw hgr hgx; have hS := HS.out _ hP.o3 hP.o4 hP.bw; refine hK _ _ hS (fun _ _ => hL) ?_; clear hK K; (try simp only [Act.put,q1,q2,q3,q4,q5,q6,q7,q8,q9])
    rotate_left 3
    focus
      go_simp; have hbA : Below V1.heap.size V1 (V1.alloc (.cells #[.slice a'' lb c''] 164)) := (Below.refl _ _).alloc lr _; have o7 := o7.below hbA o7.lt; have o25 : Own (V1.alloc (.cells #[.slice a'' lb c''] 164)) 164 V1.heap.size [.slice a'' lb c''] := own_new V1 164 [.slice a'' lb c'']; have l25 := hP.sz; have hP := hP.alloc (.cells #[.slice a'' lb c''] 164); have hS := HS.out _ hP.o3 hP.o4 hP.bw; refine hK _ _ hS (fun _ _ => hL) ?_; clear hK K; (try simp only [Act.put,q1,q2,q3,q4,q5,q6,q7,q8,q9])
      generalize V1.alloc (.cells #[.slice a'' lb c''] 164) = V2 at *
      refine wpAnyM_two (i := 8) (j := 16) (oi := _) (oj := _) (by kernel_rfl) rfl rfl (fun K hK => ?_) (fun K hK => ?_)
      focus
        refine step_rowC (R := QC w0) V2 ?_ (.tmp 8) (.tmp 14) 34 57 (.agg #[.bool false, .slice none 0 0, .bool false, .slice none 0 0, .slice none 0 0]) 5 88 ?_ Tryz.underlying34 info_q ?_ ?_ ?_ base (.slice sf1 m sf3) m _ ?_ hP.out.rf trivial _ [.bool s0, .slice a1 l1 m1, .bool s2, .slice a3 l3 m3, .slice a4 l4 m4] _ ?_ o7 ?_ HY.out oneN ?_ ?_ hP.out.bs ?_; exact rfl; exact rfl; exact rfl; omega; omega; exact rfl; exact rfl; exact rfl; exact HL1.out; omega; intro ga8 ca8 V3 hnw hgr hgx; have o25 := Own.grownO o25 hgr (fun e => by have := HBF.out _ e; omega); have hP := hP.freq hgr hnw hgx; clear hnw hgr hgx; have hS := HS.out _ hP.o3 hP.o4 hP.bw; refine hK _ _ hS (fun _ _ => hL) ?_; clear hK K; (try simp only [Act.put,q1,q2,q3,q4,q5,q6,q7,q8,q9])
        refine mo 16 rfl fun K hK => ?_; go_simp; have hbA : Below V3.heap.size V3 (V3.alloc (.cells #[.slice a' la c'] 164)) := (Below.refl _ _).alloc lr _; have o25 := o25.below hbA o25.lt; have o16 : Own (V3.alloc (.cells #[.slice a' la c'] 164)) 164 V3.heap.size [.slice a' la c'] := own_new V3 164 [.slice a' la c']; have l16 := hP.sz; have hP := hP.alloc (.cells #[.slice a' la c'] 164); have hS := HS.out _ hP.o3 hP.o4 hP.bw; refine hK _ _ hS (fun _ _ => hL) ?_; clear hK K; (try simp only [Act.put,q1,q2,q3,q4,q5,q6,q7,q8,q9])
        generalize V3.alloc (.cells #[.slice a' la c'] 164) = V4 at *
        refine mo 17 rfl fun K hK => ?_; refine step_rowC (R := QsM w0) V4 ?_ (.tmp 17) (.tmp 23) 35 164 (.slice none 0 0) 1 24 ?_ Tryz.underlying35 info_qrows ?_ ?_ ?_ base (.slice sa1 m sa3) m _ ?_ hP.out.ra trivial _ [.slice a' la c'] _ ?_ o16 ?_ HMA.out oneS ?_ ?_ hP.out.bs ?_; exact rfl; exact rfl; exact rfl; omega; omega; exact rfl; exact rfl; exact rfl; exact HL2.out; omega; intro ga17 ca17 V5 hnw hgr hgx; have o25 := Own.grownO o25 hgr (fun e => by have := HBA.out _ e; omega); have hP := hP.matA hgr hnw hgx; clear hnw hgr hgx; have hS := HS.out _ hP.o3 hP.o4 hP.bw; refine hK _ _ hS (fun _ _ => hL) ?_; clear hK K; (try simp only [Act.put,q1,q2,q3,q4,q5,q6,q7,q8,q9])
        refine mo 26 rfl fun K hK => ?_; refine step_rowC (R := QsM w0) V5 ?_ (.tmp 26) (.tmp 32) 35 164 (.slice none 0 0) 1 24 ?_ Tryz.underlying35 info_qrows ?_ ?_ ?_ base (.slice sb1 m sb3) m _ ?_ hP.out.rb trivial _ [.slice a'' lb c''] _ ?_ o25 ?_ HMB.out oneS ?_ ?_ hP.out.bs ?_; exact rfl; exact rfl; exact rfl; omega; omega; exact rfl; exact rfl; exact rfl; exact HL3.out; omega; intro ga26 ca26 V6 hnw hgr hgx; have hP := hP.matB hgr hnw hgx; clear hnw hgr hgx; have hS := HS.out _ hP.o3 hP.o4 hP.bw; refine hK _ _ hS (fun _ _ => hL) ?_; clear hK K; (try simp only [Act.put,q1,q2,q3,q4,q5,q6,q7,q8,q9])
      rotate_left 1
      focus
        go_simp; have hbA : Below V2.heap.size V2 (V2.alloc (.cells #[.slice a' la c'] 164)) := (Below.refl _ _).alloc lr _; have o7 := o7.below hbA o7.lt; have o25 := o25.below hbA o25.lt; have o16 : Own (V2.alloc (.cells #[.slice a' la c'] 164)) 164 V2.heap.size [.slice a' la c'] := own_new V2 164 [.slice a' la c']; have l16 := hP.sz; have hP := hP.alloc (.cells #[.slice a' la c'] 164); have hS := HS.out _ hP.o3 hP.o4 hP.bw; refine hK _ _ hS (fun _ _ => hL) ?_; clear hK K; (try simp only [Act.put,q1,q2,q3,q4,q5,q6,q7,q8,q9])
        generalize V2.alloc (.cells #[.slice a' la c'] 164) = V3 at *
        refine mo 8 rfl fun K hK => ?_; refine step_rowC (R := QC w0) V3 ?_ (.tmp 8) (.tmp 14) 34 57 (.agg #[.bool false, .slice none 0 0, .bool false, .slice none 0 0, .slice none 0 0]) 5 88 ?_ Tryz.underlying34 info_q ?_ ?_ ?_ base (.slice sf1 m sf3) m _ ?_ hP.out.rf trivial _ [.bool s0, .slice a1 l1 m1, .bool s2, .slice a3 l3 m3, .slice a4 l4 m4] _ ?_ o7 ?_ HY.out oneN ?_ ?_ hP.out.bs ?_; exact rfl; exact rfl; exact rfl; omega; omega; exact rfl; exact rfl; exact rfl; exact HL1.out; omega; intro ga8 ca8 V4 hnw hgr hgx; have o16 := Own.grownO o16 hgr (fun e => by have := HBF.out _ e; omega); have o25 := Own.grownO o25 hgr (fun e => by have := HBF.out _ e; omega); have hP := hP.freq hgr hnw hgx; clear hnw hgr hgx; have hS := HS.out _ hP.o3 hP.o4 hP.bw; refine hK _ _ hS (fun _ _ => hL) ?_; clear hK K; (try simp only [Act.put,q1,q2,q3,q4,q5,q6,q7,q8,q9])
        refine mo 17 rfl fun K hK => ?_; refine step_rowC (R := QsM w0) V4 ?_ (.tmp 17) (.tmp 23) 35 164 (.slice none 0 0) 1 24 ?_ Tryz.underlying35 info_qrows ?_ ?_ ?_ base (.slice sa1 m sa3) m _ ?_ hP.out.ra trivial _ [.slice a' la c'] _ ?_ o16 ?_ HMA.out oneS ?_ ?_ hP.out.bs ?_; exact rfl; exact rfl; exact rfl; omega; omega; exact rfl; exact rfl; exact rfl; exact HL2.out; omega; intro ga17 ca17 V5 hnw hgr hgx; have o25 := Own.grownO o25 hgr (fun e => by have := HBA.out _ e; omega); have hP := hP.matA hgr hnw hgx; clear hnw hgr hgx; have hS := HS.out _ hP.o3 hP.o4 hP.bw; refine hK _ _ hS (fun _ _ => hL) ?_; clear hK K; (try simp only [Act.put,q1,q2,q3,q4,q5,q6,q7,q8,q9])
        refine mo 26 rfl fun K hK => ?_; refine step_rowC (R := QsM w0) V5 ?_ (.tmp 26) (.tmp 32) 35 164 (.slice none 0 0) 1 24 ?_ Tryz.underlying35 info_qrows ?_ ?_ ?_ base (.slice sb1 m sb3) m _ ?_ hP.out.rb trivial _ [.slice a'' lb c''] _ ?_ o25 ?_ HMB.out oneS ?_ ?_ hP.out.bs ?_; exact rfl; exact rfl; exact rfl; omega; omega; exact rfl; exact rfl; exact rfl; exact HL3.out; omega; intro ga26 ca26 V6 hnw hgr hgx; have hP := hP.matB hgr hnw hgx; clear hnw hgr hgx; have hS := HS.out _ hP.o3 hP.o4 hP.bw; refine hK _ _ hS (fun _ _ => hL) ?_; clear hK K; (try simp only [Act.put,q1,q2,q3,q4,q5,q6,q7,q8,q9])
  rotate_left 8
  focus
    go_simp; have hbA : Below V0.heap.size V0 (V0.alloc (.cells #[.slice a' la c'] 164)) := (Below.refl _ _).alloc lr _; have o16 : Own (V0.alloc (.cells #[.slice a' la c'] 164)) 164 V0.heap.size [.slice a' la c'] := own_new V0 164 [.slice a' la c']; have l16 := hP.sz; have hP := hP.alloc (.cells #[.slice a' la c'] 164); have hS := HS.out _ hP.o3 hP.o4 hP.bw; refine hK _ _ hS (fun _ _ => hL) ?_; clear hK K; (try simp only [Act.put,q1,q2,q3,q4,q5,q6,q7,q8,q9])
    generalize V0.alloc (.cells #[.slice a' la c'] 164) = V1 at *
    refine wpAnyM_two (i := 7) (j := 25) (oi := _) (oj := _) (by kernel_rfl) rfl rfl (fun K hK => ?_) (fun K hK => ?_)
    focus
      go_simp; have hbA : Below V1.heap.size V1 (V1.alloc (.cells #[.bool s0, .slice a1 l1 m1, .bool s2, .slice a3 l3 m3, .slice a4 l4 m4] 57)) := (Below.refl _ _).alloc lr _; have o16 := o16.below hbA o16.lt; have o7 : Own (V1.alloc (.cells #[.bool s0, .slice a1 l1 m1, .bool s2, .slice a3 l3 m3, .slice a4 l4 m4] 57)) 57 V1.heap.size [.bool s0, .slice a1 l1 m1, .bool s2, .slice a3 l3 m3, .slice a4 l4 m4] := own_new V1 57 [.bool s0, .slice a1 l1 m1, .bool s2, .slice a3 l3 m3, .slice a4 l4 m4]; have l7 := hP.sz; have hP := hP.alloc (.cells #[.bool s0, .slice a1 l1 m1, .bool s2, .slice a3 l3 m3, .slice a4 l4 m4] 57); have hS := HS.out _ hP.o3 hP.o4 hP.bw; refine hK _ _ hS (fun _ _ => hL) ?_; clear hK K; (try simp only [Act.put,q1,q2,q3,q4,q5,q6,q7,q8,q9])
      generalize V1.alloc (.cells #[.bool s0, .slice a1 l1 m1, .bool s2, .slice a3 l3 m3, .slice a4 l4 m4] 57) = V2 at *
      refine wpAnyM_two (i := 8) (j := 25) (oi := _) (oj := _) (by kernel_rfl) rfl rfl (fun K hK => ?_) (fun K hK => ?_)
      focus
        refine step_rowC (R := QC w0) V2 ?_ (.tmp 8) (.tmp 14) 34 57 (.agg #[.bool false, .slice none 0 0, .bool false, .slice none 0 0, .slice none 0 0]) 5 88 ?_ Tryz.underlying34 info_q ?_ ?_ ?_ base (.slice sf1 m sf3) m _ ?_ hP.out.rf trivial _ [.bool s0, .slice a1 l1 m1, .bool s2, .slice a3 l3 m3, .slice a4 l4 m4] _ ?_ o7 ?_ HY.out oneN ?_ ?_ hP.out.bs ?_; exact rfl; exact rfl; exact rfl; omega; omega; exact rfl; exact rfl; exact rfl; exact HL1.out; omega; intro ga8 ca8 V3 hnw hgr hgx; have o16 := Own.grownO o16 hgr (fun e => by have := HBF.out _ e; omega); have hP := hP.freq hgr hnw hgx; clear hnw hgr hgx; have hS := HS.out _ hP.o3 hP.o4 hP.bw; refine hK _ _ hS (fun _ _ => hL) ?_; clear hK K; (try simp only [Act.put,q1,q2,q3,q4,q5,q6,q7,q8,q9])
        refine wpAnyM_two (i := 17) (j := 25) (oi := _) (oj := _) (by kernel_rfl) rfl rfl (fun K hK => ?_) (fun K hK => ?_)
        focus
          refine step_rowC (R := QsM w0) V3 ?_ (.tmp 17) (.tmp 23) 35 164 (.slice none 0 0) 1 24 ?_ Tryz.underlying35 info_qrows ?_ ?_ ?_ base (.slice sa1 m sa3) m _ ?_ hP.out.ra trivial _ [.slice a' la c'] _ ?_ o16 ?_ HMA.out oneS ?_ ?_ hP.out.bs ?_; exact rfl; exact rfl; exact rfl; omega; omega; exact rfl; exact rfl; exact rfl; exact HL2.out; omega; intro ga17 ca17 V4 hnw hgr hgx; have hP := hP.matA hgr hnw hgx; clear hnw hgr hgx; have hS := HS.out _ hP.o3 hP.o4 hP.bw; refine hK _ _ hS (fun _ _ => hL) ?_; clear hK K; (try simp only [Act.put,q1,q2,q3,q4,q5,q6,q7,q8,q9])
          refine mo 25 rfl fun K hK => ?_; go_simp; have hbA : Below V4.heap.size V4 (V4.alloc (.cells #[.slice a'' lb c''] 164)) := (Below.refl _ _).alloc lr _; have o25 : Own (V4.alloc (.cells #[.slice a'' lb c''] 164)) 164 V4.heap.size [.slice a'' lb c''] := own_new V4 164 [.slice a'' lb c'']; have l25 := hP.sz; have hP := hP.alloc (.cells #[.slice a'' lb c''] 164); have hS := HS.out _ hP.o3 hP.o4 hP.bw; refine hK _ _ hS (fun _ _ => hL) ?_; clear hK K; (try simp only [Act.put,q1,q2,q3,q4,q5,q6,q7,q8,q9])
          generalize V4.alloc (.cells #[.slice a'' lb c''] 164) = V5 at *
          refine mo 26 rfl fun K hK => ?_; refine step_rowC (R := QsM w0) V5 ?_ (.tmp 26) (.tmp 32) 35 164 (.slice none 0 0) 1 24 ?_ Tryz.underlying35 info_qrows ?_ ?_ ?_ base (.slice sb1 m sb3) m _ ?_ hP.out.rb trivial _ [.slice a'' lb c''] _ ?_ o25 ?_ HMB.out oneS ?_ ?_ hP.out.bs ?_; exact rfl; exact rfl; exact rfl; omega; omega; exact rfl; exact rfl; exact rfl; exact HL3.out; omega; intro ga26 ca26 V6 hnw hgr hgx; have hP := hP.matB hgr hnw hgx; clear hnw hgr hgx; have hS := HS.out _ hP.o3 hP.o4 hP.bw; refine hK _ _ hS (fun _ _ => hL) ?_; clear hK K; (try simp only [Act.put,q1,q2,q3,q4,q5,q6,q7,q8,q9])
        rotate_left 1
        focus
          go_simp; have hbA : Below V3.heap.size V3 (V3.alloc (.cells #[.slice a'' lb c''] 164)) := (Below.refl _ _).alloc lr _; have o16 := o16.below hbA o16.lt; have o25 : Own (V3.alloc (.cells #[.slice a'' lb c''] 164)) 164 V3.heap.size [.slice a'' lb c''] := own_new V3 164 [.slice a'' lb c'']; have l25 := hP.sz; have hP := hP.alloc (.cells #[.slice a'' lb c''] 164); have hS := HS.out _ hP.o3 hP.o4 hP.bw; refine hK _ _ hS (fun _ _ => hL) ?_; clear hK K; (try simp only [Act.put,q1,q2,q3,q4,q5,q6,q7,q8,q9])
          generalize V3.alloc (.cells #[.slice a'' lb c''] 164) = V4 at *
          refine mo 17 rfl fun K hK => ?_; refine step_rowC (R := QsM w0) V4 ?_ (.tmp 17) (.tmp 23) 35 164 (.slice none 0 0) 1 24 ?_ Tryz.underlying35 info_qrows ?_ ?_ ?_ base (.slice sa1 m sa3) m _ ?_ hP.out.ra trivial _ [.slice a' la c'] _ ?_ o16 ?_ HMA.out oneS ?_ ?_ hP.out.bs ?_; exact rfl; exact rfl; exact rfl; omega; omega; exact rfl; exact rfl; exact rfl; exact HL2.out; omega; intro ga17 ca17 V5 hnw hgr hgx; have o25 := Own.grownO o25 hgr (fun e => by have := HBA.out _ e; omega); have hP := hP.matA hgr hnw hgx; clear hnw hgr hgx; have hS := HS.out _ hP.o3 hP.o4 hP.bw; refine hK _ _ hS (fun _ _ => hL) ?_; clear hK K; (try simp only [Act.put,q1,q2,q3,q4,q5,q6,q7,q8,q9])
          refine mo 26 rfl fun K hK => ?_; refine step_rowC (R := QsM w0) V5 ?_ (.tmp 26) (.tmp 32) 35 164 (.slice none 0 0) 1 24 ?_ Tryz.underlying35 info_qrows ?_ ?_ ?_ base (.slice sb1 m sb3) m _ ?_ hP.out.rb trivial _ [.slice a'' lb c''] _ ?_ o25 ?_ HMB.out oneS ?_ ?_ hP.out.bs ?_; exact rfl; exact rfl; exact rfl; omega; omega; exact rfl; exact rfl; exact rfl; exact HL3.out; omega; intro ga26 ca26 V6 hnw hgr hgx; have hP := hP.matB hgr hnw hgx; clear hnw hgr hgx; have hS := HS.out _ hP.o3 hP.o4 hP.bw; refine hK _ _ hS (fun _ _ => hL) ?_; clear hK K; (try simp only [Act.put,q1,q2,q3,q4,q5,q6,q7,q8,q9])
      rotate_left 2
      focus
        go_simp; have hbA : Below V2.heap.size V2 (V2.alloc (.cells #[.slice a'' lb c''] 164)) := (Below.refl _ _).alloc lr _; have o7 := o7.below hbA o7.lt; have o16 := o16.below hbA o16.lt; have o25 : Own (V2.alloc (.cells #[.slice a'' lb c''] 164)) 164 V2.heap.size [.slice a'' lb c''] := own_new V2 164 [.slice a'' lb c'']; have l25 := hP.sz; have hP := hP.alloc (.cells #[.slice a'' lb c''] 164); have hS := HS.out _ hP.o3 hP.o4 hP.bw; refine hK _ _ hS (fun _ _ => hL) ?_; clear hK K; (try simp only [Act.put,q1,q2,q3,q4,q5,q6,q7,q8,q9])
        generalize V2.alloc (.cells #[.slice a'' lb c''] 164) = V3 at *
        refine mo 8 rfl fun K hK => ?_; refine step_rowC (R := QC w0) V3 ?_ (.tmp 8) (.tmp 14) 34 57 (.agg #[.bool false, .slice none 0 0, .bool false, .slice none 0 0, .slice none 0 0]) 5 88 ?_ Tryz.underlying34 info_q ?_ ?_ ?_ base (.slice sf1 m sf3) m _ ?_ hP.out.rf trivial _ [.bool s0, .slice a1 l1 m1, .bool s2, .slice a3 l3 m3, .slice a4 l4 m4] _ ?_ o7 ?_ HY.out oneN ?_ ?_ hP.out.bs ?_; exact rfl; exact rfl; exact rfl; omega; omega; exact rfl; exact rfl; exact rfl; exact HL1.out; omega; intro ga8 ca8 V4 hnw hgr hgx; have o16 := Own.grownO o16 hgr (fun e => by have := HBF.out _ e; omega); have o25 := Own.grownO o25 hgr (fun e => by have := HBF.out _ e; omega); have hP := hP.freq hgr hnw hgx; clear hnw hgr hgx; have hS := HS.out _ hP.o3 hP.o4 hP.bw; refine hK _ _ hS (fun _ _ => hL) ?_; clear hK K; (try simp only [Act.put,q1,q2,q3,q4,q5,q6,q7,q8,q9])
        refine mo 17 rfl fun K hK => ?_; refine step_rowC (R := QsM w0) V4 ?_ (.tmp 17) (.tmp 23) 35 164 (.slice none 0 0) 1 24 ?_ Tryz.underlying35 info_qrows ?_ ?_ ?_ base (.slice sa1 m sa3) m _ ?_ hP.out.ra trivial _ [.slice a' la c'] _ ?_ o16 ?_ HMA.out oneS ?_ ?_ hP.out.bs ?_; exact rfl; exact rfl; exact rfl; omega; omega; exact rfl; exact rfl; exact rfl; exact HL2.out; omega; intro ga17 ca17 V5 hnw hgr hgx; have o25 := Own.grownO o25 hgr (fun e => by have := HBA.out _ e; omega); have hP := hP.matA hgr hnw hgx; clear hnw hgr hgx; have hS := HS.out _ hP.o3 hP.o4 hP.bw; refine hK _ _ hS (fun _ _ => hL) ?_; clear hK K; (try simp only [Act.put,q1,q2,q3,q4,q5,q6,q7,q8,q9])
        refine mo 26 rfl fun K hK => ?_; refine step_rowC (R := QsM w0) V5 ?_ (.tmp 26) (.tmp 32) 35 164 (.slice none 0 0) 1 24 ?_ Tryz.underlying35 info_qrows ?_ ?_ ?_ base (.slice sb1 m sb3) m _ ?_ hP.out.rb trivial _ [.slice a'' lb c''] _ ?_ o25 ?_ HMB.out oneS ?_ ?_ hP.out.bs ?_; exact rfl; exact rfl; exact rfl; omega; omega; exact rfl; exact rfl; exact rfl; exact HL3.out; omega; intro ga26 ca26 V6 hnw hgr hgx; have hP := hP.matB hgr hnw hgx; clear hnw hgr hgx; have hS := HS.out _ hP.o3 hP.o4 hP.bw; refine hK _ _ hS (fun _ _ => hL) ?_; clear hK K; (try simp only [Act.put,q1,q2,q3,q4,q5,q6,q7,q8,q9])
    rotate_left 3
    focus
      go_simp; have hbA : Below V1.heap.size V1 (V1.alloc (.cells #[.slice a'' lb c''] 164)) := (Below.refl _ _).alloc lr _; have o16 := o16.below hbA o16.lt; have o25 : Own (V1.alloc (.cells #[.slice a'' lb c''] 164)) 164 V1.heap.size [.slice a'' lb c''] := own_new V1 164 [.slice a'' lb c'']; have l25 := hP.sz; have hP := hP.alloc (.cells #[.slice a'' lb c''] 164); have hS := HS.out _ hP.o3 hP.o4 hP.bw; refine hK _ _ hS (fun _ _ => hL) ?_; clear hK K; (try simp only [Act.put,q1,q2,q3,q4,q5,q6,q7,q8,q9])
      generalize V1.alloc (.cells #[.slice a'' lb c''] 164) = V2 at *
      refine mo 7 rfl fun K hK => ?_; go_simp; have hbA : Below V2.heap.size V2 (V2.alloc (.cells #[.bool s0, .slice a1 l1 m1, .bool s2, .slice a3 l3 m3, .slice a4 l4 m4] 57)) := (Below.refl _ _).alloc lr _; have o16 := o16.below hbA o16.lt; have o25 := o25.below hbA o25.lt; have o7 : Own (V2.alloc (.cells #[.bool s0, .slice a1 l1 m1, .bool s2, .slice a3 l3 m3, .slice a4 l4 m4] 57)) 57 V2.heap.size [.bool s0, .slice a1 l1 m1, .bool s2, .slice a3 l3 m3, .slice a4 l4 m4] := own_new V2 57 [.bool s0, .slice a1 l1 m1, .bool s2, .slice a3 l3 m3, .slice a4 l4 m4]; have l7 := hP.sz; have hP := hP.alloc (.cells #[.bool s0, .slice a1 l1 m1, .bool s2, .slice a3 l3 m3, .slice a4 l4 m4] 57); have hS := HS.out _ hP.o3 hP.o4 hP.bw; refine hK _ _ hS (fun _ _ => hL) ?_; clear hK K; (try simp only [Act.put,q1,q2,q3,q4,q5,q6,q7,q8,q9])
      generalize V2.alloc (.cells #[.bool s0, .slice a1 l1 m1, .bool s2, .slice a3 l3 m3, .slice a4 l4 m4] 57) = V3 at *
      refine mo 8 rfl fun K hK => ?_; refine step_rowC (R := QC w0) V3 ?_ (.tmp 8) (.tmp 14) 34 57 (.agg #[.bool false, .slice none 0 0, .bool false, .slice none 0 0, .slice none 0 0]) 5 88 ?_ Tryz.underlying34 info_q ?_ ?_ ?_ base (.slice sf1 m sf3) m _ ?_ hP.out.rf trivial _ [.bool s0, .slice a1 l1 m1, .bool s2, .slice a3 l3 m3, .slice a4 l4 m4] _ ?_ o7 ?_ HY.out oneN ?_ ?_ hP.out.bs ?_; exact rfl; exact rfl; exact rfl; omega; omega; exact rfl; exact rfl; exact rfl; exact HL1.out; omega; intro ga8 ca8 V4 hnw hgr hgx; have o16 := Own.grownO o16 hgr (fun e => by have := HBF.out _ e; omega); have o25 := Own.grownO o25 hgr (fun e => by have := HBF.out _ e; omega); have hP := hP.freq hgr hnw hgx; clear hnw hgr hgx; have hS := HS.out _ hP.o3 hP.o4 hP.bw; refine hK _ _ hS (fun _ _ => hL) ?_; clear hK K; (try simp only [Act.put,q1,q2,q3,q4,q5,q6,q7,q8,q9])
      refine mo 17 rfl fun K hK => ?_; refine step_rowC (R := QsM w0) V4 ?_ (.tmp 17) (.tmp 23) 35 164 (.slice none 0 0) 1 24 ?_ Tryz.underlying35 info_qrows ?_ ?_ ?_ base (.slice sa1 m sa3) m _ ?_ hP.out.ra trivial _ [.slice a' la c'] _ ?_ o16 ?_ HMA.out oneS ?_ ?_ hP.out.bs ?_; exact rfl; exact rfl; exact rfl; omega; omega; exact rfl; exact rfl; exact rfl; exact HL2.out; omega; intro ga17 ca17 V5 hnw hgr hgx; have o25 := Own.grownO o25 hgr (fun e => by have := HBA.out _ e; omega); have hP := hP.matA hgr hnw hgx; clear hnw hgr hgx; have hS := HS.out _ hP.o3 hP.o4 hP.bw; refine hK _ _ hS (fun _ _ => hL) ?_; clear hK K; (try simp only [Act.put,q1,q2,q3,q4,q5,q6,q7,q8,q9])
      refine mo 26 rfl fun K hK => ?_; refine step_rowC (R := QsM w0) V5 ?_ (.tmp 26) (.tmp 32) 35 164 (.slice none 0 0) 1 24 ?_ Tryz.underlying35 info_qrows ?_ ?_ ?_ base (.slice sb1 m sb3) m _ ?_ hP.out.rb trivial _ [.slice a'' lb c''] _ ?_ o25 ?_ HMB.out oneS ?_ ?_ hP.out.bs ?_; exact rfl; exact rfl; exact rfl; omega; omega; exact rfl; exact rfl; exact rfl; exact HL3.out; omega; intro ga26 ca26 V6 hnw hgr hgx; have hP := hP.matB hgr hnw hgx; clear hnw hgr hgx; have hS := HS.out _ hP.o3 hP.o4 hP.bw; refine hK _ _ hS (fun _ _ => hL) ?_; clear hK K; (try simp only [Act.put,q1,q2,q3,q4,q5,q6,q7,q8,q9])
  rotate_left 4
  focus
    go_simp; have hbA : Below V0.heap.size V0 (V0.alloc (.cells #[.slice a'' lb c''] 164)) := (Below.refl _ _).alloc lr _; have o25 : Own (V0.alloc (.cells #[.slice a'' lb c''] 164)) 164 V0.heap.size [.slice a'' lb c''] := own_new V0 164 [.slice a'' lb c'']; have l25 := hP.sz; have hP := hP.alloc (.cells #[.slice a'' lb c''] 164); have hS := HS.out _ hP.o3 hP.o4 hP.bw; refine hK _ _ hS (fun _ _ => hL) ?_; clear hK K; (try simp only [Act.put,q1,q2,q3,q4,q5,q6,q7,q8,q9])
    generalize V0.alloc (.cells #[.slice a'' lb c''] 164) = V1 at *
    refine wpAnyM_two (i := 7) (j := 16) (oi := _) (oj := _) (by kernel_rfl) rfl rfl (fun K hK => ?_) (fun K hK => ?_)
    focus
      go_simp; have hbA : Below V1.heap.size V1 (V1.alloc (.cells #[.bool s0, .slice a1 l1 m1, .bool s2, .slice a3 l3 m3, .slice a4 l4 m4] 57)) := (Below.refl _ _).alloc lr _; have o25 := o25.below hbA o25.lt; have o7 : Own (V1.alloc (.cells #[.bool s0, .slice a1 l1 m1, .bool s2, .slice a3 l3 m3, .slice a4 l4 m4] 57)) 57 V1.heap.size [.bool s0, .slice a1 l1 m1, .bool s2, .slice a3 l3 m3, .slice a4 l4 m4] := own_new V1 57 [.bool s0, .slice a1 l1 m1, .bool s2, .slice a3 l3 m3, .slice a4 l4 m4]; have l7 := hP.sz; have hP := hP.alloc (.cells #[.bool s0, .slice a1 l1 m1, .bool s2, .slice a3 l3 m3, .slice a4 l4 m4] 57); have hS := HS.out _ hP.o3 hP.o4 hP.bw; refine hK _ _ hS (fun _ _ => hL) ?_; clear hK K; (try simp only [Act.put,q1,q2,q3,q4,q5,q6,q7,q8,q9])
      generalize V1.alloc (.cells #[.bool s0, .slice a1 l1 m1, .bool s2, .slice a3 l3 m3, .slice a4 l4 m4] 57) = V2 at *
      refine wpAnyM_two (i := 8) (j := 16) (oi := _) (oj := _) (by kernel_rfl) rfl rfl (fun K hK => ?_) (fun K hK => ?_)
      focus
        refine step_rowC (R := QC w0) V2 ?_ (.tmp 8) (.tmp 14) 34 57 (.agg #[.bool false, .slice none 0 0, .bool false, .slice none 0 0, .slice none 0 0]) 5 88 ?_ Tryz.underlying34 info_q ?_ ?_ ?_ base (.slice sf1 m sf3) m _ ?_ hP.out.rf trivial _ [.bool s0, .slice a1 l1 m1, .bool s2, .slice a3 l3 m3, .slice a4 l4 m4] _ ?_ o7 ?_ HY.out oneN ?_ ?_ hP.out.bs ?_; exact rfl; exact rfl; exact rfl; omega; omega; exact rfl; exact rfl; exact rfl; exact HL1.out; omega; intro ga8 ca8 V3 hnw hgr hgx; have o25 := Own.grownO o25 hgr (fun e => by have := HBF.out _ e; omega); have hP := hP.freq hgr hnw hgx; clear hnw hgr hgx; have hS := HS.out _ hP.o3 hP.o4 hP.bw; refine hK _ _ hS (fun _ _ => hL) ?_; clear hK K; (try simp only [Act.put,q1,q2,q3,q4,q5,q6,q7,q8,q9])
        refine mo 16 rfl fun K hK => ?_; go_simp; have hbA : Below V3.heap.size V3 (V3.alloc (.cells #[.slice a' la c'] 164)) := (Below.refl _ _).alloc lr _; have o25 := o25.below hbA o25.lt; have o16 : Own (V3.alloc (.cells #[.slice a' la c'] 164)) 164 V3.heap.size [.slice a' la c'] := own_new V3 164 [.slice a' la c']; have l16 := hP.sz; have hP := hP.alloc (.cells #[.slice a' la c'] 164); have hS := HS.out _ hP.o3 hP.o4 hP.bw; refine hK _ _ hS (fun _ _ => hL) ?_; clear hK K; (try simp only [Act.put,q1,q2,q3,q4,q5,q6,q7,q8,q9])
        generalize V3.alloc (.cells #[.slice a' la c'] 164) = V4 at *
        refine mo 17 rfl fun K hK => ?_; refine step_rowC (R := QsM w0) V4 ?_ (.tmp 17) (.tmp 23) 35 164 (.slice none 0 0) 1 24 ?_ Tryz.underlying35 info_qrows ?_ ?_ ?_ base (.slice sa1 m sa3) m _ ?_ hP.out.ra trivial _ [.slice a' la c'] _ ?_ o16 ?_ HMA.out oneS ?_ ?_ hP.out.bs ?_; exact rfl; exact rfl; exact rfl; omega; omega; exact rfl; exact rfl; exact rfl; exact HL2.out; omega; intro ga17 ca17 V5 hnw hgr hgx; have o25 := Own.grownO o25 hgr (fun e => by have := HBA.out _ e; omega); have hP := hP.matA hgr hnw hgx; clear hnw hgr hgx; have hS := HS.out _ hP.o3 hP.o4 hP.bw; refine hK _ _ hS (fun _ _ => hL) ?_; clear hK K; (try simp only [Act.put,q1,q2,q3,q4,q5,q6,q7,q8,q9])
        refine mo 26 rfl fun K hK => ?_; refine step_rowC (R := QsM w0) V5 ?_ (.tmp 26) (.tmp 32) 35 164 (.slice none 0 0) 1 24 ?_ Tryz.underlying35 info_qrows ?_ ?_ ?_ base (.slice sb1 m sb3) m _ ?_ hP.out.rb trivial _ [.slice a'' lb c''] _ ?_ o25 ?_ HMB.out oneS ?_ ?_ hP.out.bs ?_; exact rfl; exact rfl; exact rfl; omega; omega; exact rfl; exact rfl; exact rfl; exact HL3.out; omega; intro ga26 ca26 V6 hnw hgr hgx; have hP := hP.matB hgr hnw hgx; clear hnw hgr hgx; have hS := HS.out _ hP.o3 hP.o4 hP.bw; refine hK _ _ hS (fun _ _ => hL) ?_; clear hK K; (try simp only [Act.put,q1,q2,q3,q4,q5,q6,q7,q8,q9])
      rotate_left 1
      focus
        go_simp; have hbA : Below V2.heap.size V2 (V2.alloc (.cells #[.slice a' la c'] 164)) := (Below.refl _ _).alloc lr _; have o7 := o7.below hbA o7.lt; have o25 := o25.below hbA o25.lt; have o16 : Own (V2.alloc (.cells #[.slice a' la c'] 164)) 164 V2.heap.size [.slice a' la c'] := own_new V2 164 [.slice a' la c']; have l16 := hP.sz; have hP := hP.alloc (.cells #[.slice a' la c'] 164); have hS := HS.out _ hP.o3 hP.o4 hP.bw; refine hK _ _ hS (fun _ _ => hL) ?_; clear hK K; (try simp only [Act.put,q1,q2,q3,q4,q5,q6,q7,q8,q9])
        generalize V2.alloc (.cells #[.slice a' la c'] 164) = V3 at *
        refine mo 8 rfl fun K hK => ?_; refine step_rowC (R := QC w0) V3 ?_ (.tmp 8) (.tmp 14) 34 57 (.agg #[.bool false, .slice none 0 0, .bool false, .slice none 0 0, .slice none 0 0]) 5 88 ?_ Tryz.underlying34 info_q ?_ ?_ ?_ base (.slice sf1 m sf3) m _ ?_ hP.out.rf trivial _ [.bool s0, .slice a1 l1 m1, .bool s2, .slice a3 l3 m3, .slice a4 l4 m4] _ ?_ o7 ?_ HY.out oneN ?_ ?_ hP.out.bs ?_; exact rfl; exact rfl; exact rfl; omega; omega; exact rfl; exact rfl; exact rfl; exact HL1.out; omega; intro ga8 ca8 V4 hnw hgr hgx; have o16 := Own.grownO o16 hgr (fun e => by have := HBF.out _ e; omega); have o25 := Own.grownO o25 hgr (fun e => by have := HBF.out _ e; omega); have hP := hP.freq hgr hnw hgx; clear hnw hgr hgx; have hS := HS.out _ hP.o3 hP.o4 hP.bw; refine hK _ _ hS (fun _ _ => hL) ?_; clear hK K; (try simp only [Act.put,q1,q2,q3,q4,q5,q6,q7,q8,q9])
        refine mo 17 rfl fun K hK => ?_; refine step_rowC (R := QsM w0) V4 ?_ (.tmp 17) (.tmp 23) 35 164 (.slice none 0 0) 1 24 ?_ Tryz.underlying35 info_qrows ?_ ?_ ?_ base (.slice sa1 m sa3) m _ ?_ hP.out.ra trivial _ [.slice a' la c'] _ ?_ o16 ?_ HMA.out oneS ?_ ?_ hP.out.bs ?_; exact rfl; exact rfl; exact rfl; omega; omega; exact rfl; exact rfl; exact rfl; exact HL2.out; omega; intro ga17 ca17 V5 hnw hgr hgx; have o25 := Own.grownO o25 hgr (fun e => by have := HBA.out _ e; omega); have hP := hP.matA hgr hnw hgx; clear hnw hgr hgx; have hS := HS.out _ hP.o3 hP.o4 hP.bw; refine hK _ _ hS (fun _ _ => hL) ?_; clear hK K; (try simp only [Act.put,q1,q2,q3,q4,q5,q6,q7,q8,q9])
        refine mo 26 rfl fun K hK => ?_; refine step_rowC (R := QsM w0) V5 ?_ (.tmp 26) (.tmp 32) 35 164 (.slice none 0 0) 1 24 ?_ Tryz.underlying35 info_qrows ?_ ?_ ?_ base (.slice sb1 m sb3) m _ ?_ hP.out.rb trivial _ [.slice a'' lb c''] _ ?_ o25 ?_ HMB.out oneS ?_ ?_ hP.out.bs ?_; exact rfl; exact rfl; exact rfl; omega; omega; exact rfl; exact rfl; exact rfl; exact HL3.out; omega; intro ga26 ca26 V6 hnw hgr hgx; have hP := hP.matB hgr hnw hgx; clear hnw hgr hgx; have hS := HS.out _ hP.o3 hP.o4 hP.bw; refine hK _ _ hS (fun _ _ => hL) ?_; clear hK K; (try simp only [Act.put,q1,q2,q3,q4,q5,q6,q7,q8,q9])
    rotate_left 2
    focus
      go_simp; have hbA : Below V1.heap.size V1 (V1.alloc (.cells #[.slice a' la c'] 164)) := (Below.refl _ _).alloc lr _; have o25 := o25.below hbA o25.lt; have o16 : Own (V1.alloc (.cells #[.slice a' la c'] 164)) 164 V1.heap.size [.slice a' la c'] := own_new V1 164 [.slice a' la c']; have l16 := hP.sz; have hP := hP.alloc (.cells #[.slice a' la c'] 164); have hS := HS.out _ hP.o3 hP.o4 hP.bw; refine hK _ _ hS (fun _ _ => hL) ?_; clear hK K; (try simp only [Act.put,q1,q2,q3,q4,q5,q6,q7,q8,q9])
      generalize V1.alloc (.cells #[.slice a' la c'] 164) = V2 at *
      refine mo 7 rfl fun K hK => ?_; go_simp; have hbA : Below V2.heap.size V2 (V2.alloc (.cells #[.bool s0, .slice a1 l1 m1, .bool s2, .slice a3 l3 m3, .slice a4 l4 m4] 57)) := (Below.refl _ _).alloc lr _; have o16 := o16.below hbA o16.lt; have o25 := o25.below hbA o25.lt; have o7 : Own (V2.alloc (.cells #[.bool s0, .slice a1 l1 m1, .bool s2, .slice a3 l3 m3, .slice a4 l4 m4] 57)) 57 V2.heap.size [.bool s0, .slice a1 l1 m1, .bool s2, .slice a3 l3 m3, .slice a4 l4 m4] := own_new V2 57 [.bool s0, .slice a1 l1 m1, .bool s2, .slice a3 l3 m3, .slice a4 l4 m4]; have l7 := hP.sz; have hP := hP.alloc (.cells #[.bool s0, .slice a1 l1 m1, .bool s2, .slice a3 l3 m3, .slice a4 l4 m4] 57); have hS := HS.out _ hP.o3 hP.o4 hP.bw; refine hK _ _ hS (fun _ _ => hL) ?_; clear hK K; (try simp only [Act.put,q1,q2,q3,q4,q5,q6,q7,q8,q9])
      generalize V2.alloc (.cells #[.bool s0, .slice a1 l1 m1, .bool s2, .slice a3 l3 m3, .slice a4 l4 m4] 57) = V3 at *
      refine mo 8 rfl fun K hK => ?_; refine step_rowC (R := QC w0) V3 ?_ (.tmp 8) (.tmp 14) 34 57 (.agg #[.bool false, .slice none 0 0, .bool false, .slice none 0 0, .slice none 0 0]) 5 88 ?_ Tryz.underlying34 info_q ?_ ?_ ?_ base (.slice sf1 m sf3) m _ ?_ hP.out.rf trivial _ [.bool s0, .slice a1 l1 m1, .bool s2, .slice a3 l3 m3, .slice a4 l4 m4] _ ?_ o7 ?_ HY.out oneN ?_ ?_ hP.out.bs ?_; exact rfl; exact rfl; exact rfl; omega; omega; exact rfl; exact rfl; exact rfl; exact HL1.out; omega; intro ga8 ca8 V4 hnw hgr hgx; have o16 := Own.grownO o16 hgr (fun e => by have := HBF.out _ e; omega); have o25 := Own.grownO o25 hgr (fun e => by have := HBF.out _ e; omega); have hP := hP.freq hgr hnw hgx; clear hnw hgr hgx; have hS := HS.out _ hP.o3 hP.o4 hP.bw; refine hK _ _ hS (fun _ _ => hL) ?_; clear hK K; (try simp only [Act.put,q1,q2,q3,q4,q5,q6,q7,q8,q9])
      refine mo 17 rfl fun K hK => ?_; refine step_rowC (R := QsM w0) V4 ?_ (.tmp 17) (.tmp 23) 35 164 (.slice none 0 0) 1 24 ?_ Tryz.underlying35 info_qrows ?_ ?_ ?_ base (.slice sa1 m sa3) m _ ?_ hP.out.ra trivial _ [.slice a' la c'] _ ?_ o16 ?_ HMA.out oneS ?_ ?_ hP.out.bs ?_; exact rfl; exact rfl; exact rfl; omega; omega; exact rfl; exact rfl; exact rfl; exact HL2.out; omega; intro ga17 ca17 V5 hnw hgr hgx; have o25 := Own.grownO o25 hgr (fun e => by have := HBA.out _ e; omega); have hP := hP.matA hgr hnw hgx; clear hnw hgr hgx; have hS := HS.out _ hP.o3 hP.o4 hP.bw; refine hK _ _ hS (fun _ _ => hL) ?_; clear hK K; (try simp only [Act.put,q1,q2,q3,q4,q5,q6,q7,q8,q9])
      refine mo 26 rfl fun K hK => ?_; refine step_rowC (R := QsM w0) V5 ?_ (.tmp 26) (.tmp 32) 35 164 (.slice none 0 0) 1 24 ?_ Tryz.underlying35 info_qrows ?_ ?_ ?_ base (.slice sb1 m sb3) m _ ?_ hP.out.rb trivial _ [.slice a'' lb c''] _ ?_ o25 ?_ HMB.out oneS ?_ ?_ hP.out.bs ?_; exact rfl; exact rfl; exact rfl; omega; omega; exact rfl; exact rfl; exact rfl; exact HL3.out; omega; intro ga26 ca26 V6 hnw hgr hgx; have hP := hP.matB hgr hnw hgx; clear hnw hgr hgx; have hS := HS.out _ hP.o3 hP.o4 hP.bw; refine hK _ _ hS (fun _ _ => hL) ?_; clear hK K; (try simp only [Act.put,q1,q2,q3,q4,q5,q6,q7,q8,q9])
  all_goals
    have o6 := hP.o6
    have f6 := o6.free
    have c60 := o6.cell 0 _ rfl; have c61 := o6.cell 1 _ rfl; have c62 := o6.cell 2 _ rfl
    (refine mt 27 ?_ rfl (by rfl) ?_ hS ?_; rotate_left; (intro w' h; (try dsimp only at h); go_simp; try exact rfl)); simp only [Act.put,q1,q2,q3,q4,q5,q6,q7,q8,q9]
    have hP3 := hP.store (y0 := .slice (some ⟨ga8, 0, none⟩) (m + 1) ca8) (y1 := .slice (some ⟨ga17, 0, none⟩) (m + 1) ca17) (y2 := .slice (some ⟨ga26, 0, none⟩) (m + 1) ca26) (by omega) (by omega) (by omega)
    refine mo 28 rfl fun K hK => ?_; go_simp; have hS := HS.out _ hP3.1 hP3.2.1 hP3.2.2.1; refine hK _ _ hS (fun _ _ => hL) ?_; clear hK K; (try simp only [Act.put,q1,q2,q3,q4,q5,q6,q7,q8,q9])
    refine wpAnyM_done (by kernel_rfl) ?_ _
    have o6' := hP3.2.2.2.1
    have e60 := o6'.cell 0 _ rfl; have e61 := o6'.cell 1 _ rfl; have e62 := o6'.cell 2 _ rfl
    go_wp2_with fail
    exact bodyPost_ret (by simp [results, Tryz.results43, go_sem, e60, e61, e62]) rfl ⟨_, _, _, rfl, hP3.2.2.2.2, (hB.mono (by omega)).trans hP3.2.2.1⟩
end Go.Proofs.YtpnfdlnhmhekeaaGreat
