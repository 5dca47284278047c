/- The plain data of a sweep; fewWaves; waves: the program's sweep and the reference's one. Conditions: at most 1000 elements each. Rows and slices of slices where a box is set; names for the slices of a sweep. Conditions: none. waves: the program's sweep and the reference's one out of plain data. Conditions: at most 1000 elements each. -/
import Derived.Test.YtfkogkcpndaoeaaGreatMLists
set_option linter.all false
namespace Go.Proofs.YtfkogkcpndaoeaaGreat
open Go.RowKit
structure Wd where
  fr : List Rt
  a : List (List (List Rt))
  b : List (List (List Rt))
abbrev StackIn (w : World) (v : Value) (l : List (List (List Rt))) : Prop := SlOf (CellSl (CellSl RatC 3) 1) 1 w v l
def WdRep (w : World) (v : Value) (x : Wd) : Prop := ∃ vf va vb, v = .agg #[vf, va, vb] ∧ SlOf RatC 3 w vf x.fr ∧ StackIn w va x.a ∧ StackIn w vb x.b
def fewB (x : Wd) : Bool := decide (x.fr.length ≤ 6) && littleB x.a 6 && littleB x.b 6
theorem stackIn_firm : Firm (CellSl (CellSl RatC 3) 1) := CellSl.firm (CellSl.firm rat_firm)
theorem WdRep.below {w w' : World} {B : Nat} {v : Value} {x : Wd} (h : WdRep w v x) (hb : Below B w w') (hB : w.heap.size ≤ B) : WdRep w' v x := by
  obtain ⟨vf, va, vb, e, h1, h2, h3⟩ := h
  exact ⟨vf, va, vb, e, h1.firm rat_firm hb hB, h2.firm stackIn_firm hb hB, h3.firm stackIn_firm hb hB⟩
theorem SlOf.open {α : Type} {R : World → List Value → α → Prop} {size : Nat} {w : World} {v : Value} {l : List α} (h : SlOf R size w v l) : ∃ a n c, v = .slice a n c ∧ Hid (l.length = n) := by
  obtain ⟨a, c, rfl, _⟩ := h
  exact ⟨a, _, c, rfl, rfl⟩
set_option maxRecDepth 100000 in
set_option maxHeartbeats 1600000 in
theorem fewWaves_spec (v : Value) (x : Wd) (w : World) (h : WdRep w v x) :
    Calls Tryz.prog 6 #[v] w (Ret w fun _ v' => v' = .bool (fewB x)) := by
  obtain ⟨vf, va, vb, rfl, hf, ha, hb⟩ := h
  obtain ⟨af, nf, cf, rfl, HNF⟩ := hf.open
  obtain ⟨aa, na, ca, rfl, HNA⟩ := ha.open
  obtain ⟨ab, nb, cb, rfl, HNB⟩ := hb.open
  have HA := Lib.hid ha
  have HB := Lib.hid hb
  unfold fewB
  rw [HNF.out]
  clear hf ha hb
  by_cases h6 : nf ≤ 6
  · rw [decide_eq_true h6]
    have HLA := Lib.hid (fun w h => little_spec (.slice aa na ca) x.a 6 w h)
    have HLB := Lib.hid (fun w h => little_spec (.slice ab nb cb) x.b 6 w h)
    generalize littleB x.a 6 = ta at *
    generalize littleB x.b 6 = tb at *
    cases ta
    · go_enter Tryz.func6, Tryz.ntmps6
      go_upto_region 1 with (fail)
      obtain ⟨W, hW, o1, hB, hS⟩ := boxes1 w 27 [.slice af nf cf, .slice aa na ca, .slice ab nb cb]
      rw [← hW]
      clear hW
      have fo1 := o1.free; have co10 := o1.cell 0 _ rfl; have co11 := o1.cell 1 _ rfl; have co12 := o1.cell 2 _ rfl
      go_wp2_with fail
      refine (HLA.out W (HA.out.firm stackIn_firm hB (Nat.le_refl _))).mono ?_
      rintro e W1 ⟨_, rfl, rfl, hb1⟩
      clear co10 co11 co12 fo1
      have hsW1 : W.heap.size ≤ W1.heap.size := hb1.size; have hB := hB.trans (hb1.mono hB.size); have o1 := o1.below hb1 o1.lt; have fo1 := o1.free; have co10 := o1.cell 0 _ rfl; have co11 := o1.cell 1 _ rfl; have co12 := o1.cell 2 _ rfl
      go_wp2_with fail
      go_ret
      exact ⟨_, rfl, rfl, hB⟩
    · go_enter Tryz.func6, Tryz.ntmps6
      go_upto_region 1 with (fail)
      obtain ⟨W, hW, o1, hB, hS⟩ := boxes1 w 27 [.slice af nf cf, .slice aa na ca, .slice ab nb cb]
      rw [← hW]
      clear hW
      have fo1 := o1.free; have co10 := o1.cell 0 _ rfl; have co11 := o1.cell 1 _ rfl; have co12 := o1.cell 2 _ rfl
      go_wp2_with fail
      refine (HLA.out W (HA.out.firm stackIn_firm hB (Nat.le_refl _))).mono ?_
      rintro e W1 ⟨_, rfl, rfl, hb1⟩
      clear co10 co11 co12 fo1
      have hsW1 : W.heap.size ≤ W1.heap.size := hb1.size; have hB := hB.trans (hb1.mono hB.size); have o1 := o1.below hb1 o1.lt; have fo1 := o1.free; have co10 := o1.cell 0 _ rfl; have co11 := o1.cell 1 _ rfl; have co12 := o1.cell 2 _ rfl
      go_wp2_with fail
      refine (HLB.out W1 (HB.out.firm stackIn_firm hB (Nat.le_refl _))).mono ?_
      rintro e W2 ⟨_, rfl, rfl, hb2⟩
      have hB2 := hB.trans (hb2.mono hB.size)
      clear co10 co11 co12 fo1
      go_wp2_with fail
      go_ret
      exact ⟨_, rfl, rfl, hB2⟩
  · rw [decide_eq_false h6]
    go_enter Tryz.func6, Tryz.ntmps6
    go_upto_region 1 with (fail)
    obtain ⟨W, hW, o1, hB, hS⟩ := boxes1 w 27 [.slice af nf cf, .slice aa na ca, .slice ab nb cb]
    rw [← hW]
    clear hW
    have fo1 := o1.free; have co10 := o1.cell 0 _ rfl; have co11 := o1.cell 1 _ rfl; have co12 := o1.cell 2 _ rfl
    go_wp2_with fail
    go_ret
    exact ⟨_, rfl, rfl, hB⟩
end Go.Proofs.YtfkogkcpndaoeaaGreat
namespace Go.Proofs.YtfkogkcpndaoeaaGreat
open Go.RowKit
variable {α : Type} {R : World → List Value → α → Prop} {T : TypeId} {size : Nat} {ts : List TypeId}
theorem Own.asRow {w : World} {E : TypeId} {g : Nat} {cs : List Value} (o : Own w E g cs) (hl : cs.length ≤ 1000) : w.ownsRow 0 E 1 (.slice (some ⟨g, 0, none⟩) cs.length cs.length) cs.length cs := by
  refine ⟨by omega, .inr ⟨g, cs.length, cs.toArray, rfl, Nat.zero_le _, o, Nat.le_refl _, by unfold maxLen; omega, by simp, ?_⟩⟩
  rw [Nat.mul_one, List.take_of_length_le (by simp)]
theorem grown_cell (w : World) (g i : Nat) (y : Value) : w.grownBy (w.setCell ⟨g, i, none⟩ y) (some g) := grown_set (grown_refl w (some g)) i y
theorem Stable.put (hS : Stable R ts) {w : World} {E : TypeId} {g : Nat} {cs u : List Value} {x : α} (h : R w u x) (o : Own w E g cs) (hE : E ∉ ts) (hl : cs.length ≤ 1000) (i : Nat) (y : Value) : R (w.setCell ⟨g, i, none⟩ y) u x :=
  hS.row h (o.asRow hl) hE (grown_cell w g i y)
theorem SlT.put {w : World} {v : Value} {l : List α} {E : TypeId} {g : Nat} {cs : List Value} (hS : Stable R ts) (h : SlT R T size w v l) (o : Own w E g cs) (hE : E ∉ T :: ts) (hl : cs.length ≤ 1000) (i : Nat) (y : Value) : SlT R T size (w.setCell ⟨g, i, none⟩ y) v l :=
  h.row hS (o.asRow hl) hE (grown_cell w g i y)
theorem RowOf.putBox {w : World} {base : Nat} {v : Value} {l : List α} {E : TypeId} {g : Nat} {cs : List Value} (hS : Stable R ts) (h : RowOf R T size w base v l) (o : Own w E g cs) (hE : E ∉ T :: ts) (hl : cs.length ≤ 1000) (i : Nat) (y : Value) : RowOf R T size (w.setCell ⟨g, i, none⟩ y) base v l := by
  obtain ⟨us, h1, h2, h3⟩ := h
  have hr := o.asRow hl
  have hne := row_ne h2 hr (fun e => hE (e ▸ List.mem_cons_self))
  exact ⟨us, h1, World.ownsRow.kept h2 (grown_cell w g i y) hne, fun j u x hu hx => ⟨(h3 j u x hu hx).1, hS.row (h3 j u x hu hx).2 hr (fun h => hE (List.mem_cons_of_mem _ h)) (grown_cell w g i y)⟩⟩
def RatSl (w : World) (v : Value) (l : List Rt) : Prop := SlOf RatC 3 w v l
def StackSl (w : World) (v : Value) (l : List (List (List Rt))) : Prop := SlOf (CellSl (CellSl RatC 3) 1) 1 w v l
def NumSl (w : World) (v : Value) (l : List CQ) : Prop := SlT NumC 40 5 w v l
def NumMat (w : World) (v : Value) (l : List (List CQ)) : Prop := SlT NumsC 49 1 w v l
def NumSt (w : World) (v : Value) (l : List (List (List CQ))) : Prop := SlT NumsM 64 1 w v l
def QSl (w : World) (v : Value) (l : List CQ) : Prop := SlT QC 46 5 w v l
def QMat (w : World) (v : Value) (l : List (List CQ)) : Prop := SlT QsC 53 1 w v l
def QSt (w : World) (v : Value) (l : List (List (List CQ))) : Prop := SlT QsM 76 1 w v l
def NumRow (B : Nat) (w : World) (v : Value) (l : List CQ) : Prop := RowOf NumC 40 5 w B v l
theorem RatSl.below {w w' : World} {B : Nat} {v : Value} {l : List Rt} (h : RatSl w v l) (hb : Below B w w') (hB : w.heap.size ≤ B) : RatSl w' v l := SlOf.firm rat_firm h hb hB
theorem StackSl.below {w w' : World} {B : Nat} {v : Value} {l : List (List (List Rt))} (h : StackSl w v l) (hb : Below B w w') (hB : w.heap.size ≤ B) : StackSl w' v l := SlOf.firm stackIn_firm h hb hB
theorem NumSl.below {w w' : World} {B : Nat} {v : Value} {l : List CQ} (h : NumSl w v l) (hb : Below B w w') (hB : w.heap.size ≤ B) : NumSl w' v l := SlT.below num_stable h hb hB
theorem NumMat.below {w w' : World} {B : Nat} {v : Value} {l : List (List CQ)} (h : NumMat w v l) (hb : Below B w w') (hB : w.heap.size ≤ B) : NumMat w' v l := SlT.below nums_stable h hb hB
theorem NumSt.below {w w' : World} {B : Nat} {v : Value} {l : List (List (List CQ))} (h : NumSt w v l) (hb : Below B w w') (hB : w.heap.size ≤ B) : NumSt w' v l := SlT.below numsM_stable h hb hB
theorem QSl.below {w w' : World} {B : Nat} {v : Value} {l : List CQ} (h : QSl w v l) (hb : Below B w w') (hB : w.heap.size ≤ B) : QSl w' v l := SlT.below q_stable h hb hB
theorem QMat.below {w w' : World} {B : Nat} {v : Value} {l : List (List CQ)} (h : QMat w v l) (hb : Below B w w') (hB : w.heap.size ≤ B) : QMat w' v l := SlT.below qs_stable h hb hB
theorem QSt.below {w w' : World} {B : Nat} {v : Value} {l : List (List (List CQ))} (h : QSt w v l) (hb : Below B w w') (hB : w.heap.size ≤ B) : QSt w' v l := SlT.below qsM_stable h hb hB
theorem NumRow.below {C : Nat} {w w' : World} {B : Nat} {v : Value} {l : List CQ} (h : NumRow C w v l) (hb : Below B w w') (hB : w.heap.size ≤ B) : NumRow C w' v l := RowOf.below' num_stable h hb hB
def NumStP (p : Nat → Prop) (w : World) (v : Value) (l : List (List (List CQ))) : Prop := SlT (NumsMP p) 64 1 w v l
theorem NumStP.below {p : Nat → Prop} {w w' : World} {B : Nat} {v : Value} {l : List (List (List CQ))} (h : NumStP p w v l) (hb : Below B w w') (hB : w.heap.size ≤ B) : NumStP p w' v l := SlT.below (numsMP_stable p) h hb hB
theorem NumStP.plain {p : Nat → Prop} {w : World} {v : Value} {l : List (List (List CQ))} (h : NumStP p w v l) : NumSt w v l := SlT.lift h (fun _ _ h => NumsMP.plain h) (fun _ _ => rfl)
theorem NumStP.weaken {p q : Nat → Prop} {w : World} {v : Value} {l : List (List (List CQ))} (h : NumStP p w v l) (hpq : ∀ b, b < w.heap.size → p b → q b) : NumStP q w v l := SlT.lift h (fun _ _ h => NumsMP.weaken h hpq) (fun _ _ => rfl)
theorem NumSl.shape {w : World} {v : Value} {l : List CQ} (h : NumSl w v l) : ∃ a n c, v = .slice a n c := by obtain ⟨a, c, e⟩ := slT_shape h; exact ⟨_, _, _, e⟩
theorem NumMat.shape {w : World} {v : Value} {l : List (List CQ)} (h : NumMat w v l) : ∃ a n c, v = .slice a n c := by obtain ⟨a, c, e⟩ := slT_shape h; exact ⟨_, _, _, e⟩
theorem NumSt.shape {w : World} {v : Value} {l : List (List (List CQ))} (h : NumSt w v l) : ∃ a n c, v = .slice a n c := by obtain ⟨a, c, e⟩ := slT_shape h; exact ⟨_, _, _, e⟩
theorem NumStP.shape {p : Nat → Prop} {w : World} {v : Value} {l : List (List (List CQ))} (h : NumStP p w v l) : ∃ a n c, v = .slice a n c := by obtain ⟨a, c, e⟩ := slT_shape h; exact ⟨_, _, _, e⟩
theorem QSl.shape {w : World} {v : Value} {l : List CQ} (h : QSl w v l) : ∃ a n c, v = .slice a n c := by obtain ⟨a, c, e⟩ := slT_shape h; exact ⟨_, _, _, e⟩
theorem QSt.shape {w : World} {v : Value} {l : List (List (List CQ))} (h : QSt w v l) : ∃ a n c, v = .slice a n c := by obtain ⟨a, c, e⟩ := slT_shape h; exact ⟨_, _, _, e⟩
theorem NumRow.shape {B : Nat} {w : World} {v : Value} {l : List CQ} (h : NumRow B w v l) : ∃ a n c, v = .slice a n c := by obtain ⟨a, c, e⟩ := RowOf.shape h; exact ⟨_, _, _, e⟩
theorem NumRow.sl {B : Nat} {w : World} {v : Value} {l : List CQ} (h : NumRow B w v l) : NumSl w v l := RowOf.slT h
structure Wv where
  fr : List CQ
  a : List (List (List CQ))
  b : List (List (List CQ))
def Wd.wv (x : Wd) : Wv := ⟨x.fr.map Rt.q, x.a.map (List.map (List.map Rt.q)), x.b.map (List.map (List.map Rt.q))⟩
def WvT (w : World) (v : Value) (x : Wv) : Prop := ∃ vf va vb, v = .agg #[vf, va, vb] ∧ NumSl w vf x.fr ∧ NumSt w va x.a ∧ NumSt w vb x.b
def QvT (w : World) (v : Value) (x : Wv) : Prop := ∃ vf va vb, v = .agg #[vf, va, vb] ∧ QSl w vf x.fr ∧ QSt w va x.a ∧ QSt w vb x.b
theorem WvT.below {w w' : World} {B : Nat} {v : Value} {x : Wv} (h : WvT w v x) (hb : Below B w w') (hB : w.heap.size ≤ B) : WvT w' v x := by
  obtain ⟨vf, va, vb, e, h1, h2, h3⟩ := h
  exact ⟨vf, va, vb, e, h1.below hb hB, h2.below hb hB, h3.below hb hB⟩
theorem QvT.below {w w' : World} {B : Nat} {v : Value} {x : Wv} (h : QvT w v x) (hb : Below B w w') (hB : w.heap.size ≤ B) : QvT w' v x := by
  obtain ⟨vf, va, vb, e, h1, h2, h3⟩ := h
  exact ⟨vf, va, vb, e, h1.below hb hB, h2.below hb hB, h3.below hb hB⟩
def Wd.fit (x : Wd) : Prop := x.fr.length ≤ 1000 ∧ (x.a.length ≤ 1000 ∧ ∀ m ∈ x.a, m.length ≤ 1000 ∧ ∀ r ∈ m, r.length ≤ 1000) ∧ (x.b.length ≤ 1000 ∧ ∀ m ∈ x.b, m.length ≤ 1000 ∧ ∀ r ∈ m, r.length ≤ 1000)
theorem little_fit {l : List (List (List Rt))} {k : Nat} (h : littleB l k = true) (hk : k ≤ 1000) : l.length ≤ 1000 ∧ ∀ m ∈ l, m.length ≤ 1000 ∧ ∀ r ∈ m, r.length ≤ 1000 := by
  unfold littleB at h
  rw [Bool.and_eq_true, decide_eq_true_iff, List.all_eq_true] at h
  refine ⟨by omega, fun m hm => ?_⟩
  have h2 := h.2 m hm
  unfold matOK at h2
  rw [Bool.and_eq_true, decide_eq_true_iff, List.all_eq_true] at h2
  refine ⟨by omega, fun r hr => ?_⟩
  have h3 := h2.2 r hr
  unfold rowOK at h3
  rw [decide_eq_true_iff] at h3
  omega
theorem few_fit {x : Wd} (h : fewB x = true) : x.fit := by
  unfold fewB at h
  rw [Bool.and_eq_true, Bool.and_eq_true, decide_eq_true_iff] at h
  exact ⟨by omega, little_fit h.1.2 (by omega), little_fit h.2 (by omega)⟩
end Go.Proofs.YtfkogkcpndaoeaaGreat
namespace Go.Proofs.YtfkogkcpndaoeaaGreat
open Go.RowKit
theorem list2 (v : Value) (l : List Rt) (w : World) (h : RatSl w v l) (hn : l.length ≤ 1000) :
    Calls Tryz.prog 46 #[v] w (Ret w fun w' v' => NumRow w.heap.size w' v' (l.map Rt.q)) := list_spec v l w h hn
theorem stack2 (v : Value) (m : List (List (List Rt))) (w : World) (h : StackSl w v m) (hn : m.length ≤ 1000 ∧ ∀ l ∈ m, l.length ≤ 1000 ∧ ∀ r ∈ l, r.length ≤ 1000) :
    Calls Tryz.prog 47 #[v] w (Ret w fun w' v' => NumStP (fun b => w.heap.size ≤ b) w' v' (m.map (List.map (List.map Rt.q)))) := (stack_spec v m w h hn.1 hn.2).mono (by
  rintro e w' ⟨_, rfl, hx, hb⟩
  exact ⟨_, rfl, hx.slT, hb⟩)
theorem refList2 (v : Value) (l : List Rt) (w : World) (h : RatSl w v l) (hn : l.length ≤ 1000) :
    Calls Tryz.prog 48 #[v] w (Ret w fun w' v' => QSl w' v' (l.map Rt.q)) := (refList_spec v l w h hn).mono (by
  rintro e w' ⟨_, rfl, hx, hb⟩
  exact ⟨_, rfl, hx.slT, hb⟩)
theorem refStack2 (v : Value) (m : List (List (List Rt))) (w : World) (h : StackSl w v m) (hn : m.length ≤ 1000 ∧ ∀ l ∈ m, l.length ≤ 1000 ∧ ∀ r ∈ l, r.length ≤ 1000) :
    Calls Tryz.prog 25 #[v] w (Ret w fun w' v' => QSt w' v' (m.map (List.map (List.map Rt.q)))) := (refStack_spec v m w h hn.1 hn.2).mono (by
  rintro e w' ⟨_, rfl, hx, hb⟩
  exact ⟨_, rfl, hx.slT, hb⟩)
def WavesRet (w0 : World) (x : Wd) (w : World) (v : Value) : Prop := ∃ vf va vb r, v = .tuple #[.agg #[vf, va, vb], r] ∧ NumRow w0.heap.size w vf x.wv.fr ∧ NumStP (fun b => vf.ownBlock ≠ some b) w va x.wv.a ∧ NumStP (fun b => vf.ownBlock ≠ some b) w vb x.wv.b ∧ QvT w r x.wv
theorem waves_end {w X : World} {x : Wd} {g h : Nat} {vf va vb rf ra rb : Value} {x0 x1 x2 y0 y1 y2 : Value} (og : Own X 52 g [x0, x1, x2]) (oh : Own X 56 h [y0, y1, y2]) (hne : g ≠ h) (hB : Below w.heap.size w X) (hg : w.heap.size ≤ g) (hh : w.heap.size ≤ h)
    (h1 : NumRow w.heap.size X vf x.wv.fr) (h2 : NumStP (fun b => vf.ownBlock ≠ some b) X va x.wv.a) (h3 : NumStP (fun b => vf.ownBlock ≠ some b) X vb x.wv.b) (h4 : QSl X rf x.wv.fr) (h5 : QSt X ra x.wv.a) (h6 : QSt X rb x.wv.b) :
    Ret w (WavesRet w x) (.returned (.tuple #[.agg #[vf, va, vb], .agg #[rf, ra, rb]])) ((((((X.setCell ⟨g, 0, none⟩ vf).setCell ⟨g, 1, none⟩ va).setCell ⟨g, 2, none⟩ vb).setCell ⟨h, 0, none⟩ rf).setCell ⟨h, 1, none⟩ ra).setCell ⟨h, 2, none⟩ rb) ∧
    Ret w (WavesRet w x) (.returned (.tuple #[.agg #[vf, va, vb], .agg #[rf, ra, rb]])) ((((((X.setCell ⟨h, 0, none⟩ rf).setCell ⟨h, 1, none⟩ ra).setCell ⟨h, 2, none⟩ rb).setCell ⟨g, 0, none⟩ vf).setCell ⟨g, 1, none⟩ va).setCell ⟨g, 2, none⟩ vb) := by
  have step : ∀ (X : World) (E : TypeId) (g : Nat) (cs : List Value) (i : Nat) (y : Value), Own X E g cs → cs.length = 3 → (E = 52 ∨ E = 56) → Below w.heap.size w X → w.heap.size ≤ g →
      NumRow w.heap.size X vf x.wv.fr → NumStP (fun b => vf.ownBlock ≠ some b) X va x.wv.a → NumStP (fun b => vf.ownBlock ≠ some b) X vb x.wv.b → QSl X rf x.wv.fr → QSt X ra x.wv.a → QSt X rb x.wv.b →
      Below w.heap.size w (X.setCell ⟨g, i, none⟩ y) ∧ NumRow w.heap.size (X.setCell ⟨g, i, none⟩ y) vf x.wv.fr ∧ NumStP (fun b => vf.ownBlock ≠ some b) (X.setCell ⟨g, i, none⟩ y) va x.wv.a ∧ NumStP (fun b => vf.ownBlock ≠ some b) (X.setCell ⟨g, i, none⟩ y) vb x.wv.b ∧ QSl (X.setCell ⟨g, i, none⟩ y) rf x.wv.fr ∧ QSt (X.setCell ⟨g, i, none⟩ y) ra x.wv.a ∧ QSt (X.setCell ⟨g, i, none⟩ y) rb x.wv.b := by
    intro X E g cs i y o hl hE hB hg h1 h2 h3 h4 h5 h6
    have e1 : E ∉ [40, 28] := by rcases hE with rfl | rfl <;> decide
    have e2 : E ∉ [64, 49, 40, 28] := by rcases hE with rfl | rfl <;> decide
    have e3 : E ∉ [46, 28] := by rcases hE with rfl | rfl <;> decide
    have e4 : E ∉ [76, 53, 46, 28] := by rcases hE with rfl | rfl <;> decide
    exact ⟨hB.setCell hg y, RowOf.putBox num_stable h1 o e1 (by omega) i y, SlT.put (numsMP_stable _) h2 o e2 (by omega) i y, SlT.put (numsMP_stable _) h3 o e2 (by omega) i y, SlT.put q_stable h4 o e3 (by omega) i y, SlT.put qsM_stable h5 o e4 (by omega) i y, SlT.put qsM_stable h6 o e4 (by omega) i y⟩
  constructor
  · obtain ⟨b1, p1, p2, p3, p4, p5, p6⟩ := step X _ g _ 0 vf og rfl (.inl rfl) hB hg h1 h2 h3 h4 h5 h6
    obtain ⟨b1, p1, p2, p3, p4, p5, p6⟩ := step _ _ g _ 1 va (og.set 0 vf) rfl (.inl rfl) b1 hg p1 p2 p3 p4 p5 p6
    obtain ⟨b1, p1, p2, p3, p4, p5, p6⟩ := step _ _ g _ 2 vb ((og.set 0 vf).set 1 va) rfl (.inl rfl) b1 hg p1 p2 p3 p4 p5 p6
    have oh' := ((oh.other (a := ⟨g, 0, none⟩) hne vf).other (a := ⟨g, 1, none⟩) hne va).other (a := ⟨g, 2, none⟩) hne vb
    obtain ⟨b1, p1, p2, p3, p4, p5, p6⟩ := step _ _ h _ 0 rf oh' rfl (.inr rfl) b1 hh p1 p2 p3 p4 p5 p6
    obtain ⟨b1, p1, p2, p3, p4, p5, p6⟩ := step _ _ h _ 1 ra (oh'.set 0 rf) rfl (.inr rfl) b1 hh p1 p2 p3 p4 p5 p6
    obtain ⟨b1, p1, p2, p3, p4, p5, p6⟩ := step _ _ h _ 2 rb ((oh'.set 0 rf).set 1 ra) rfl (.inr rfl) b1 hh p1 p2 p3 p4 p5 p6
    exact ⟨_, rfl, ⟨_, _, _, _, rfl, p1, p2, p3, _, _, _, rfl, p4, p5, p6⟩, b1⟩
  · obtain ⟨b1, p1, p2, p3, p4, p5, p6⟩ := step X _ h _ 0 rf oh rfl (.inr rfl) hB hh h1 h2 h3 h4 h5 h6
    obtain ⟨b1, p1, p2, p3, p4, p5, p6⟩ := step _ _ h _ 1 ra (oh.set 0 rf) rfl (.inr rfl) b1 hh p1 p2 p3 p4 p5 p6
    obtain ⟨b1, p1, p2, p3, p4, p5, p6⟩ := step _ _ h _ 2 rb ((oh.set 0 rf).set 1 ra) rfl (.inr rfl) b1 hh p1 p2 p3 p4 p5 p6
    have og' := ((og.other (a := ⟨h, 0, none⟩) (Ne.symm hne) rf).other (a := ⟨h, 1, none⟩) (Ne.symm hne) ra).other (a := ⟨h, 2, none⟩) (Ne.symm hne) rb
    obtain ⟨b1, p1, p2, p3, p4, p5, p6⟩ := step _ _ g _ 0 vf og' rfl (.inl rfl) b1 hg p1 p2 p3 p4 p5 p6
    obtain ⟨b1, p1, p2, p3, p4, p5, p6⟩ := step _ _ g _ 1 va (og'.set 0 vf) rfl (.inl rfl) b1 hg p1 p2 p3 p4 p5 p6
    obtain ⟨b1, p1, p2, p3, p4, p5, p6⟩ := step _ _ g _ 2 vb ((og'.set 0 vf).set 1 va) rfl (.inl rfl) b1 hg p1 p2 p3 p4 p5 p6
    exact ⟨_, rfl, ⟨_, _, _, _, rfl, p1, p2, p3, _, _, _, rfl, p4, p5, p6⟩, b1⟩
set_option maxRecDepth 100000 in
set_option maxHeartbeats 3200000 in
theorem waves_spec (v : Value) (x : Wd) (w : World) (h : WdRep w v x) (hx : x.fit) :
    Calls Tryz.prog 13 #[v] w (Ret w (WavesRet w x)) := by
  obtain ⟨vf, va, vb, rfl, h1, h2, h3⟩ := h
  have hf : RatSl w vf x.fr := h1
  have ha : StackSl w va x.a := h2
  have hb : StackSl w vb x.b := h3
  obtain ⟨af, nf, cf, rfl, -⟩ := h1.open
  obtain ⟨aa, na, ca, rfl, -⟩ := h2.open
  obtain ⟨ab, nb, cb, rfl, -⟩ := h3.open
  obtain ⟨hx1, hx2, hx3⟩ := hx
  have HX1 := Lib.hid hx1
  have HX2 := Lib.hid hx2
  have HX3 := Lib.hid hx3
  clear h1 h2 h3 hx1 hx2 hx3
  go_enter Tryz.func13, Tryz.ntmps13
  go_upto_region 1 with (fail)
  obtain ⟨W, hW, o1, o2, o3, hB, hS⟩ := boxes3 w 27 52 56 [.slice af nf cf, .slice aa na ca, .slice ab nb cb] [.slice none 0 0, .slice none 0 0, .slice none 0 0] [.slice none 0 0, .slice none 0 0, .slice none 0 0]
  rw [← hW]
  clear hW
  have qo10 := o1.cell 0 _ rfl; have qo11 := o1.cell 1 _ rfl; have qo12 := o1.cell 2 _ rfl
  have o1 : Own W.drew _ _ _ := o1; have o2 : Own W.drew _ _ _ := o2; have o3 : Own W.drew _ _ _ := o3; have lto1 : _ < W.heap.size := o1.lt; have lto2 : _ < W.heap.size := o2.lt; have lto3 : _ < W.heap.size := o3.lt; have hB := hB.drew
  have hf := hf.below hB (Nat.le_refl _); have ha := ha.below hB (Nat.le_refl _); have hb := hb.below hB (Nat.le_refl _)
  have tok1 : True := trivial
  have tok2 : True := trivial
  have tok3 : True := trivial
  have tok4 : True := trivial
  have tok5 : True := trivial
  have tok6 : True := trivial
  go_region_held3 (fun w' => w'.cell? ⟨w.heap.size, 0, none⟩ = some (.slice af nf cf) ∧ w'.cell? ⟨w.heap.size, 1, none⟩ = some (.slice aa na ca) ∧ w'.cell? ⟨w.heap.size, 2, none⟩ = some (.slice ab nb cb)) (first | (with_reducible exact ⟨o1.cell 0 _ rfl, o1.cell 1 _ rfl, o1.cell 2 _ rfl⟩) | (simp [go_sem, qo10, qo11, qo12, lto1]; done))
    (first
      | (go_at_call 46; have _t := tok1; refine (list2 _ x.fr _ hf HX1.out).mono ?_; rintro e W1 ⟨u1, rfl, hu1, hb1⟩; have hsW1 : W.heap.size ≤ W1.heap.size := hb1.size; have hB := hB.trans (hb1.mono hB.size); have o1 := o1.below hb1 o1.lt; have o2 := o2.below hb1 o2.lt; have o3 := o3.below hb1 o3.lt; have lto1 := o1.lt; have lto2 := o2.lt; have lto3 := o3.lt; have qo10 := o1.cell 0 _ rfl; have qo11 := o1.cell 1 _ rfl; have qo12 := o1.cell 2 _ rfl; have hf := hf.below hb1 (Nat.le_refl _); have ha := ha.below hb1 (Nat.le_refl _); have hb := hb.below hb1 (Nat.le_refl _); obtain ⟨e1, e2, e3, rfl⟩ := hu1.shape; have HBK1 := Lib.hid (RowOf.block hu1); clear tok1 _t)
      | (go_at_call 47; have _t := tok2; refine (stack2 _ x.a _ ha HX2.out).mono ?_; rintro e W2 ⟨u2, rfl, hu2, hb2⟩; have hsW2 : W1.heap.size ≤ W2.heap.size := hb2.size; have hB := hB.trans (hb2.mono hB.size); have o1 := o1.below hb2 o1.lt; have o2 := o2.below hb2 o2.lt; have o3 := o3.below hb2 o3.lt; have lto1 := o1.lt; have lto2 := o2.lt; have lto3 := o3.lt; have qo10 := o1.cell 0 _ rfl; have qo11 := o1.cell 1 _ rfl; have qo12 := o1.cell 2 _ rfl; have hf := hf.below hb2 (Nat.le_refl _); have ha := ha.below hb2 (Nat.le_refl _); have hb := hb.below hb2 (Nat.le_refl _); have hu1 := hu1.below hb2 (Nat.le_refl _); obtain ⟨e4, e5, e6, rfl⟩ := hu2.shape; have HSZ2 := Lib.hid hsW2; clear tok2 _t)
      | (go_at_call 47; have _t := tok3; refine (stack2 _ x.b _ hb HX3.out).mono ?_; rintro e W3 ⟨u3, rfl, hu3, hb3⟩; have hsW3 : W2.heap.size ≤ W3.heap.size := hb3.size; have hB := hB.trans (hb3.mono hB.size); have o1 := o1.below hb3 o1.lt; have o2 := o2.below hb3 o2.lt; have o3 := o3.below hb3 o3.lt; have lto1 := o1.lt; have lto2 := o2.lt; have lto3 := o3.lt; have qo10 := o1.cell 0 _ rfl; have qo11 := o1.cell 1 _ rfl; have qo12 := o1.cell 2 _ rfl; have hf := hf.below hb3 (Nat.le_refl _); have ha := ha.below hb3 (Nat.le_refl _); have hb := hb.below hb3 (Nat.le_refl _); have hu1 := hu1.below hb3 (Nat.le_refl _); have hu2 := hu2.below hb3 (Nat.le_refl _); obtain ⟨e7, e8, e9, rfl⟩ := hu3.shape; clear tok3 _t)
      | (go_at_call 48; have _t := tok4; refine (refList2 _ x.fr _ hf HX1.out).mono ?_; rintro e W4 ⟨u4, rfl, hu4, hb4⟩; have hsW4 : W3.heap.size ≤ W4.heap.size := hb4.size; have hB := hB.trans (hb4.mono hB.size); have o1 := o1.below hb4 o1.lt; have o2 := o2.below hb4 o2.lt; have o3 := o3.below hb4 o3.lt; have lto1 := o1.lt; have lto2 := o2.lt; have lto3 := o3.lt; have qo10 := o1.cell 0 _ rfl; have qo11 := o1.cell 1 _ rfl; have qo12 := o1.cell 2 _ rfl; have hf := hf.below hb4 (Nat.le_refl _); have ha := ha.below hb4 (Nat.le_refl _); have hb := hb.below hb4 (Nat.le_refl _); have hu1 := hu1.below hb4 (Nat.le_refl _); have hu2 := hu2.below hb4 (Nat.le_refl _); have hu3 := hu3.below hb4 (Nat.le_refl _); obtain ⟨f1, f2, f3, rfl⟩ := hu4.shape; clear tok4 _t)
      | (go_at_call 25; have _t := tok5; refine (refStack2 _ x.a _ ha HX2.out).mono ?_; rintro e W5 ⟨u5, rfl, hu5, hb5⟩; have hsW5 : W4.heap.size ≤ W5.heap.size := hb5.size; have hB := hB.trans (hb5.mono hB.size); have o1 := o1.below hb5 o1.lt; have o2 := o2.below hb5 o2.lt; have o3 := o3.below hb5 o3.lt; have lto1 := o1.lt; have lto2 := o2.lt; have lto3 := o3.lt; have qo10 := o1.cell 0 _ rfl; have qo11 := o1.cell 1 _ rfl; have qo12 := o1.cell 2 _ rfl; have hf := hf.below hb5 (Nat.le_refl _); have ha := ha.below hb5 (Nat.le_refl _); have hb := hb.below hb5 (Nat.le_refl _); have hu1 := hu1.below hb5 (Nat.le_refl _); have hu2 := hu2.below hb5 (Nat.le_refl _); have hu3 := hu3.below hb5 (Nat.le_refl _); have hu4 := hu4.below hb5 (Nat.le_refl _); obtain ⟨f4, f5, f6, rfl⟩ := hu5.shape; clear tok5 _t)
      | (go_at_call 25; have _t := tok6; refine (refStack2 _ x.b _ hb HX3.out).mono ?_; rintro e W6 ⟨u6, rfl, hu6, hb6⟩; have hsW6 : W5.heap.size ≤ W6.heap.size := hb6.size; have hB := hB.trans (hb6.mono hB.size); have o1 := o1.below hb6 o1.lt; have o2 := o2.below hb6 o2.lt; have o3 := o3.below hb6 o3.lt; have lto1 := o1.lt; have lto2 := o2.lt; have lto3 := o3.lt; have qo10 := o1.cell 0 _ rfl; have qo11 := o1.cell 1 _ rfl; have qo12 := o1.cell 2 _ rfl; have hf := hf.below hb6 (Nat.le_refl _); have ha := ha.below hb6 (Nat.le_refl _); have hb := hb.below hb6 (Nat.le_refl _); have hu1 := hu1.below hb6 (Nat.le_refl _); have hu2 := hu2.below hb6 (Nat.le_refl _); have hu3 := hu3.below hb6 (Nat.le_refl _); have hu4 := hu4.below hb6 (Nat.le_refl _); have hu5 := hu5.below hb6 (Nat.le_refl _); obtain ⟨f7, f8, f9, rfl⟩ := hu6.shape; have fo2 := o2.free; have co20 := o2.cell 0 _ rfl; have co21 := o2.cell 1 _ rfl; have co22 := o2.cell 2 _ rfl; have fo3 := o3.free; have co30 := o3.cell 0 _ rfl; have co31 := o3.cell 1 _ rfl; have co32 := o3.cell 2 _ rfl; clear tok6 _t))
  all_goals
    have hu1' : NumRow w.heap.size _ _ x.wv.fr := RowOf.base hu1 (by have := hS; simp at this ⊢; omega)
    have hex : ∀ b : Nat, W1.heap.size ≤ b → (Value.slice e1 e2 e3).ownBlock ≠ some b := fun b hb he => by
      have := (HBK1.out b he).2
      omega
    have hex2 : ∀ b : Nat, W2.heap.size ≤ b → (Value.slice e1 e2 e3).ownBlock ≠ some b := fun b hb => hex b (by have := HSZ2.out; omega)
    have hfin := waves_end (x := x) o2 o3 (by omega) hB (by omega) (by omega) hu1' (hu2.weaken fun b _ h => hex b h) (hu3.weaken fun b _ h => hex2 b h) hu4 hu5 hu6
    go_wp2_with fail
    first
      | exact bodyPost_ret (by simp [results, Tryz.results13, go_sem, co20, co21, co22, co30, co31, co32]) rfl hfin.1
      | exact bodyPost_ret (by simp [results, Tryz.results13, go_sem, co20, co21, co22, co30, co31, co32]) rfl hfin.2
end Go.Proofs.YtfkogkcpndaoeaaGreat
