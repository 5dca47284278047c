/- The way between a statement and the calls: arguments opened (bytes, frames), the post of 'true, nothing changed'. Conditions: none. Slices of slices of plain numbers that came in. Conditions: none. -/
import Derived.Test.YtfkogkcpndaoeaaGreatMKept
import Derived.Test.YtfkogkcpndaoeaaGreatMRec
import Derived.Test.YtfkogkcpndaoeaaGreatMSum
import Derived.Test.YtfkogkcpndaoeaaGreatRows
import Derived.WalkKit
import Derived.ProofKit
import Derived.OpenShut
import Derived.JoinedCond
import Derived.Carry
import Derived.Deep.Slices
import Derived.ChangeSlices
set_option linter.all false
namespace Go.Proofs.YtfkogkcpndaoeaaGreat
open Go.ChangeShapes Go.WideShapes Go.ChangeAt Go.RowKit Go.Deep
set_option maxRecDepth 100000 in
theorem own : ownKnob Tryz.prog.godebug = none := by kernel_rfl
set_option maxRecDepth 100000 in
theorem laidOut : laidOutB Tryz.prog = true := by kernel_rfl
section
variable {H : Type} {enc : TypeId × Value → H} {w : World} {base : Nat} {spare : Nat → Bool} {held : Bool}
set_option maxRecDepth 100000 in
theorem carry_all {W W' : World} (hb : Below W.heap.size W W') : ∀ {ts : List TypeId} {vs : List Value} {ds : List (DataW H)} {p : List MemPlace}, (∀ t ∈ ts, Tryz.prog.readableRec t = true ∧ t < Tryz.prog.types.size) → (∀ x ∈ p, x.block < W.heap.size) →
    DataW.TrodAll enc Tryz.prog W 0 (fun _ => true) true ts vs ds p → DataW.TrodAll enc Tryz.prog W' 0 (fun b => decide (b < W.heap.size)) true ts vs ds p
  | [], _, _, _, _, _, h => by
    obtain ⟨rfl, rfl, rfl⟩ := trodAll_nil h
    exact trodAll_mk0
  | t :: ts, _, _, _, hr, hlt, h => by
    obtain ⟨v, vs1, d, ds1, a, b, rfl, rfl, rfl, h1, h2⟩ := trodAll_cons h
    exact trodAll_cons_mk (Below.trod laidOut (hr t List.mem_cons_self).1 (hr t List.mem_cons_self).2 h1 hb (fun x hx => hlt x (List.mem_append_left _ hx))) (carry_all hb (fun t ht => hr t (List.mem_cons_of_mem _ ht)) (fun x hx => hlt x (List.mem_append_right _ hx)) h2)
set_option maxRecDepth 100000 in
theorem post_true {f : Func} {s : ChangeSpec} {W W' : World} {args : Array Value} {ds gs : List (DataW H)} {before : List MemPlace}
    (hW : DataW.Whole enc Tryz.prog f.params.toList s.vars false W args.toList ds gs before) (hv : s.vars = [])
    (hr : ∀ t ∈ f.params.toList, Tryz.prog.readableRec t = true ∧ t < Tryz.prog.types.size) (hrt : f.resultTypes = #[4])
    (hres : ∀ ds : List (DataW H), ds.length = f.params.size → (s.fn H ds).results = [.lit (.bool true)] ∧ (s.fn H ds).args = ds ∧ (s.fn H ds).vars = []) (hl : ds.length = f.params.size) (hb : Below W.heap.size W W') :
    s.post enc Tryz.prog f false true false false W args (.bool true) W' := by
  have hlt : ∀ x ∈ before, x.block < W.heap.size := fun x hx => by simpa using hW.lt x hx
  have hW' := hW
  obtain ⟨p, q, hA, hV, rfl, _, _⟩ := hW
  rw [hv] at hV
  obtain ⟨rfl, rfl⟩ := trodVars_none hV
  obtain ⟨h1, h2, h3⟩ := hres ds hl
  rw [List.append_nil] at hlt hW'
  refine ⟨ds, [], p, [], p, [], hW', ?_, ?_, ?_, hb.frame _, fun h => by cases h⟩
  · rw [List.append_nil, h1, hrt]
    exact trodAll_mk1 (shut_bool Tryz.underlying4 true)
  · rw [List.append_nil, h2]
    exact carry_all hb hr hlt hA
  · rw [List.append_nil, h3, hv]
    rfl
set_option maxRecDepth 100000 in
theorem i64_of {z : Int} (h : (Lit.int .i64 z).wf = true) : I64 z := bounds_i64 h
set_option maxRecDepth 100000 in
theorem list_of {α : Type} {n : Nat} {R : Nat → α → Prop} (h : ∀ i, i < n → ∃ x, R i x) : ∃ l : List α, l.length = n ∧ ∀ i x, l[i]? = some x → R i x := by
  induction n with
  | zero => exact ⟨[], rfl, fun i x hx => by simp at hx⟩
  | succ n ih =>
    obtain ⟨l, hl, hR⟩ := ih fun i hi => h i (by omega)
    obtain ⟨y, hy⟩ := h n (by omega)
    refine ⟨l ++ [y], by simp [hl], fun i x hx => ?_⟩
    rcases Nat.lt_or_ge i n with hi | hi
    · rw [List.getElem?_append_left (by omega)] at hx; exact hR i x hx
    · have := (List.getElem?_eq_some_iff.1 hx).1
      simp [hl] at this
      obtain rfl : i = n := by omega
      rw [List.getElem?_append_right (by omega), hl, Nat.sub_self] at hx
      simp at hx
      subst hx; exact hy
end
end Go.Proofs.YtfkogkcpndaoeaaGreat
namespace Go.Proofs.YtfkogkcpndaoeaaGreat
open Go.ChangeShapes Go.WideShapes Go.ChangeAt Go.RowKit Go.Deep
section
variable {H : Type} {enc : TypeId × Value → H} {w : World}
set_option maxRecDepth 100000 in
theorem open_sl {α : Type} {R : World → List Value → α → Prop} {t e : TypeId} {size : Nat} (ht : Tryz.prog.underlying t = some (.slice e)) (hsz : Tryz.prog.cellsOf e = size) (hs0 : 0 < size)
    (OE : ∀ (fuel : Nat) (cs : List Value) (x : DataW H × List MemPlace), DataW.trod enc Tryz.prog w 0 (fun _ => true) true fuel e cs = some x → ∃ y, cs.length = size ∧ R w cs y)
    {fuel : Nat} {cs : List Value} {x : DataW H × List MemPlace} (h : DataW.trod enc Tryz.prog w 0 (fun _ => true) true fuel t cs = some x) : ∃ v l, cs = [v] ∧ SlOf R size w v l := by
  rcases open_slice ht h with ⟨hcs, _⟩ | ⟨a, n, c, mm, nn, D, Pl, hcs, _, hl, hm, hmm, _, hi⟩
  · exact ⟨_, [], hcs, none, 0, rfl, Nat.le_refl _, by omega, fun i x hx => by simp at hx⟩
  · simp only [if_true] at hmm
    obtain ⟨ab, ao, spot⟩ := a
    obtain ⟨ps, hpl, hps⟩ := list_of (n := n) (R := fun i (q : α) => ∃ u : List Value, u.length = size ∧ R w u q ∧ ∀ (j : Nat) (x : Value), u[j]? = some x → w.cell? (((⟨ab, ao, spot⟩ : Addr).add (i * size)).add j) = some x) fun i hin => by
      obtain ⟨cs', hc, ht'⟩ := hi i (by omega)
      rw [hsz] at hc
      obtain ⟨q, hlen, hq⟩ := OE _ _ _ ht'
      refine ⟨q, cs', hlen, hq, fun j x hj => ?_⟩
      obtain ⟨_, _, hat⟩ := World.cells?_some hc
      have hj4 : j < size := by rw [← hlen]; exact (List.getElem?_eq_some_iff.1 hj).1
      have := hat j hj4
      rw [this, hj]
    refine ⟨_, ps, hcs, some ⟨ab, ao, spot⟩, c, by rw [hpl], by rw [hpl]; exact hl, by unfold maxLen at hm; omega, fun i q hq => ?_⟩
    obtain ⟨u, hu, hR, hc⟩ := hps i q hq
    have hspot : spot = none := by
      obtain ⟨u0, hu0, _, hc0⟩ := hps 0 _ (List.getElem?_eq_getElem (by have := (List.getElem?_eq_some_iff.1 hq).1; omega))
      simpa [Addr.add] using World.cell?_spot (hc0 0 _ (List.getElem?_eq_getElem (by omega)))
    subst hspot
    refine ⟨ab, ao, u, rfl, hu, hR, fun j x hj => ?_⟩
    have := hc j x hj
    rw [Addr.add_lit, Addr.add_lit] at this
    exact this
set_option maxRecDepth 100000 in
theorem open_ratio (fuel : Nat) (cs : List Value) (x : DataW H × List MemPlace) (h : DataW.trod enc Tryz.prog w 0 (fun _ => true) true fuel 23 cs = some x) : ∃ y, cs.length = 3 ∧ RatC w cs y := by
  obtain ⟨xs, m, _, _, hlen, hx, hg⟩ := DataW.trod_struct Tryz.underlying23 h
  rw [show Tryz.prog.cellsOf 23 = 3 by kernel_rfl] at hlen
  have hc : Tryz.prog.cellsOf 2 = 1 := by kernel_rfl
  have hx3 : xs.length = 3 := hx
  match cs, hlen with
  | [c0, c1, c2], _ =>
    have g0 : DataW.trod enc Tryz.prog w 0 (fun _ => true) true m 2 (([c0, c1, c2].drop 0).take (Tryz.prog.cellsOf 2)) = xs[0]? := hg 0 _ rfl
    have g1 : DataW.trod enc Tryz.prog w 0 (fun _ => true) true m 2 (([c0, c1, c2].drop 1).take (Tryz.prog.cellsOf 2)) = xs[1]? := hg 1 _ rfl
    have g2 : DataW.trod enc Tryz.prog w 0 (fun _ => true) true m 2 (([c0, c1, c2].drop 2).take (Tryz.prog.cellsOf 2)) = xs[2]? := hg 2 _ rfl
    rw [hc, List.getElem?_eq_getElem (by omega)] at g0 g1 g2
    obtain ⟨a, e0, _, w0⟩ := DataW.trod_int Tryz.underlying2 g0
    obtain ⟨b, e1, _, w1⟩ := DataW.trod_int Tryz.underlying2 g1
    obtain ⟨d, e2, _, w2⟩ := DataW.trod_int Tryz.underlying2 g2
    simp at e0 e1 e2
    subst e0 e1 e2
    exact ⟨⟨a, b, d⟩, rfl, rfl, i64_of w0, i64_of w1, i64_of w2⟩
set_option maxRecDepth 100000 in
theorem open_ratios (fuel : Nat) (cs : List Value) (x : DataW H × List MemPlace) (h : DataW.trod enc Tryz.prog w 0 (fun _ => true) true fuel 24 cs = some x) : ∃ v l, cs = [v] ∧ SlOf RatC 3 w v l :=
  open_sl Tryz.underlying24 (by kernel_rfl) (by omega) open_ratio h
set_option maxRecDepth 100000 in
theorem open_ratrows (fuel : Nat) (cs : List Value) (x : DataW H × List MemPlace) (h : DataW.trod enc Tryz.prog w 0 (fun _ => true) true fuel 72 cs = some x) : ∃ v l, cs = [v] ∧ SlOf (CellSl RatC 3) 1 w v l :=
  open_sl Tryz.underlying72 (by kernel_rfl) (by omega) (fun fuel cs x h => by
    obtain ⟨v, l, e, h⟩ := open_ratios fuel cs x h
    exact ⟨l, by rw [e]; rfl, v, e, h⟩) h
set_option maxRecDepth 100000 in
theorem open_ratstack (fuel : Nat) (cs : List Value) (x : DataW H × List MemPlace) (h : DataW.trod enc Tryz.prog w 0 (fun _ => true) true fuel 25 cs = some x) : ∃ v l, cs = [v] ∧ SlOf (CellSl (CellSl RatC 3) 1) 1 w v l :=
  open_sl Tryz.underlying25 (by kernel_rfl) (by omega) (fun fuel cs x h => by
    obtain ⟨v, l, e, h⟩ := open_ratrows fuel cs x h
    exact ⟨l, by rw [e]; rfl, v, e, h⟩) h
set_option maxRecDepth 100000 in
theorem open_waves {b0 : Nat} {v : Value} {d : DataW H} {p : List MemPlace} (hval : Value.okWide Tryz.prog w .any b0 27 v) (h1 : DataW.Trod enc Tryz.prog w 0 (fun _ => true) true 27 v d p) : ∃ x : Wd, WdRep w v x := by
  have hrow := hval
  unfold Value.okWide at hrow
  rw [Tryz.underlying27] at hrow
  obtain ⟨cs, rfl, hsz, ts, hts, _, hcell⟩ := hrow
  obtain ⟨fuel, hf⟩ := h1
  obtain ⟨cs⟩ := cs
  obtain ⟨xs, m, _, _, hlen, hx, hg⟩ := DataW.trod_struct Tryz.underlying27 hf
  have hcl : Tryz.prog.cellsOf 27 = 3 := by kernel_rfl
  rw [hcl] at hsz
  have hx3 : xs.length = 3 := hx
  match cs, hsz with
  | [c0, c1, c2], _ =>
    have g0 : DataW.trod enc Tryz.prog w 0 (fun _ => true) true m 24 (([c0, c1, c2].drop 0).take (Tryz.prog.cellsOf 24)) = xs[0]? := hg 0 _ rfl
    have g1 : DataW.trod enc Tryz.prog w 0 (fun _ => true) true m 25 (([c0, c1, c2].drop 1).take (Tryz.prog.cellsOf 25)) = xs[1]? := hg 1 _ rfl
    have g2 : DataW.trod enc Tryz.prog w 0 (fun _ => true) true m 25 (([c0, c1, c2].drop 2).take (Tryz.prog.cellsOf 25)) = xs[2]? := hg 2 _ rfl
    rw [List.getElem?_eq_getElem (by omega)] at g0 g1 g2
    rw [show Tryz.prog.cellsOf 24 = 1 by kernel_rfl] at g0
    rw [show Tryz.prog.cellsOf 25 = 1 by kernel_rfl] at g1 g2
    obtain ⟨v0, l0, e0, h0⟩ := open_ratios _ _ _ g0
    obtain ⟨v1, l1, e1, h1⟩ := open_ratstack _ _ _ g1
    obtain ⟨v2, l2, e2, h2⟩ := open_ratstack _ _ _ g2
    simp at e0 e1 e2
    subst e0 e1 e2
    exact ⟨⟨l0, l1, l2⟩, _, _, _, rfl, h0, h1, h2⟩
end
end Go.Proofs.YtfkogkcpndaoeaaGreat
