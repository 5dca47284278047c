/- Slices of slices of plain numbers that came in. Conditions: none. RecordMergeBack: whatever the sweeps and the shift, the law returns true, and what came in reads as before. Conditions: none. -/
import Derived.Test.YtpnfdlnhmhekeaaGreatMLawMB
import Derived.Test.YtpnfdlnhmhekeaaGreatMTop
import Derived.Test.YtpnfdlnhmhekeaaGreatMWavesA
set_option linter.unusedSimpArgs false
set_option linter.unusedVariables false
set_option linter.all false
namespace Go.Proofs.YtpnfdlnhmhekeaaGreat
open Go.ChangeShapes Go.WideShapes Go.ChangeAt Go.RowKit Go.Deep

section
variable {H : Type} {enc : TypeId × Value → H} {w : World}

set_option maxRecDepth 100000 in
/-- A slice whose elements are opened. -/
theorem open_sl {α : Type} {R : World → List Value → α → Prop} {t e : TypeId} {size : Nat} (ht : Tryz.prog.underlying t = some (.slice e)) (hsz : Tryz.prog.cellsOf e = size) (hs0 : 0 < size)
    (OE : ∀ (fuel : Nat) (cs : List Value) (x : DataW H × List MemPlace), DataW.trod enc Tryz.prog w 0 (fun _ => true) true fuel e cs = some x → ∃ y, cs.length = size ∧ R w cs y)
    {fuel : Nat} {cs : List Value} {x : DataW H × List MemPlace} (h : DataW.trod enc Tryz.prog w 0 (fun _ => true) true fuel t cs = some x) : ∃ v l, cs = [v] ∧ SlOf R size w v l := by
  rcases open_slice ht h with ⟨hcs, _⟩ | ⟨a, n, c, mm, nn, D, Pl, hcs, _, hl, hm, hmm, _, hi⟩
  · exact ⟨_, [], hcs, none, 0, rfl, Nat.le_refl _, by omega, fun i x hx => by simp at hx⟩
  · simp only [if_true] at hmm
    obtain ⟨ab, ao, spot⟩ := a
    obtain ⟨ps, hpl, hps⟩ := list_of (n := n) (R := fun i (q : α) => ∃ u : List Value, u.length = size ∧ R w u q ∧ ∀ (j : Nat) (x : Value), u[j]? = some x → w.cell? (((⟨ab, ao, spot⟩ : Addr).add (i * size)).add j) = some x) fun i hin => by
      obtain ⟨cs', hc, ht'⟩ := hi i (by omega)
      rw [hsz] at hc
      obtain ⟨q, hlen, hq⟩ := OE _ _ _ ht'
      refine ⟨q, cs', hlen, hq, fun j x hj => ?_⟩
      obtain ⟨_, _, hat⟩ := World.cells?_some hc
      have hj4 : j < size := by rw [← hlen]; exact (List.getElem?_eq_some_iff.1 hj).1
      have := hat j hj4
      rw [this, hj]
    refine ⟨_, ps, hcs, some ⟨ab, ao, spot⟩, c, by rw [hpl], by rw [hpl]; exact hl, by unfold maxLen at hm; omega, fun i q hq => ?_⟩
    obtain ⟨u, hu, hR, hc⟩ := hps i q hq
    have hspot : spot = none := by
      obtain ⟨u0, hu0, _, hc0⟩ := hps 0 _ (List.getElem?_eq_getElem (by have := (List.getElem?_eq_some_iff.1 hq).1; omega))
      simpa [Addr.add] using World.cell?_spot (hc0 0 _ (List.getElem?_eq_getElem (by omega)))
    subst hspot
    refine ⟨ab, ao, u, rfl, hu, hR, fun j x hj => ?_⟩
    have := hc j x hj
    rw [Addr.add_lit, Addr.add_lit] at this
    exact this

set_option maxRecDepth 100000 in
theorem open_ratio (fuel : Nat) (cs : List Value) (x : DataW H × List MemPlace) (h : DataW.trod enc Tryz.prog w 0 (fun _ => true) true fuel 27 cs = some x) : ∃ y, cs.length = 3 ∧ RatC w cs y := by
  obtain ⟨xs, m, _, _, hlen, hx, hg⟩ := DataW.trod_struct Tryz.underlying27 h
  rw [show Tryz.prog.cellsOf 27 = 3 by kernel_rfl] at hlen
  have hc : Tryz.prog.cellsOf 2 = 1 := by kernel_rfl
  have hx3 : xs.length = 3 := hx
  match cs, hlen with
  | [c0, c1, c2], _ =>
    have g0 : DataW.trod enc Tryz.prog w 0 (fun _ => true) true m 2 (([c0, c1, c2].drop 0).take (Tryz.prog.cellsOf 2)) = xs[0]? := hg 0 _ rfl
    have g1 : DataW.trod enc Tryz.prog w 0 (fun _ => true) true m 2 (([c0, c1, c2].drop 1).take (Tryz.prog.cellsOf 2)) = xs[1]? := hg 1 _ rfl
    have g2 : DataW.trod enc Tryz.prog w 0 (fun _ => true) true m 2 (([c0, c1, c2].drop 2).take (Tryz.prog.cellsOf 2)) = xs[2]? := hg 2 _ rfl
    rw [hc, List.getElem?_eq_getElem (by omega)] at g0 g1 g2
    obtain ⟨a, e0, _, w0⟩ := DataW.trod_int Tryz.underlying2 g0
    obtain ⟨b, e1, _, w1⟩ := DataW.trod_int Tryz.underlying2 g1
    obtain ⟨d, e2, _, w2⟩ := DataW.trod_int Tryz.underlying2 g2
    simp at e0 e1 e2
    subst e0 e1 e2
    exact ⟨⟨a, b, d⟩, rfl, rfl, i64_of w0, i64_of w1, i64_of w2⟩

set_option maxRecDepth 100000 in
theorem open_ratios (fuel : Nat) (cs : List Value) (x : DataW H × List MemPlace) (h : DataW.trod enc Tryz.prog w 0 (fun _ => true) true fuel 22 cs = some x) : ∃ v l, cs = [v] ∧ SlOf RatC 3 w v l :=
  open_sl Tryz.underlying22 (by kernel_rfl) (by omega) open_ratio h
set_option maxRecDepth 100000 in
theorem open_ratrows (fuel : Nat) (cs : List Value) (x : DataW H × List MemPlace) (h : DataW.trod enc Tryz.prog w 0 (fun _ => true) true fuel 132 cs = some x) : ∃ v l, cs = [v] ∧ SlOf (CellSl RatC 3) 1 w v l :=
  open_sl Tryz.underlying132 (by kernel_rfl) (by omega) (fun fuel cs x h => by
    obtain ⟨v, l, e, h⟩ := open_ratios fuel cs x h
    exact ⟨l, by rw [e]; rfl, v, e, h⟩) h
set_option maxRecDepth 100000 in
theorem open_ratstack (fuel : Nat) (cs : List Value) (x : DataW H × List MemPlace) (h : DataW.trod enc Tryz.prog w 0 (fun _ => true) true fuel 23 cs = some x) : ∃ v l, cs = [v] ∧ SlOf (CellSl (CellSl RatC 3) 1) 1 w v l :=
  open_sl Tryz.underlying23 (by kernel_rfl) (by omega) (fun fuel cs x h => by
    obtain ⟨v, l, e, h⟩ := open_ratrows fuel cs x h
    exact ⟨l, by rw [e]; rfl, v, e, h⟩) h

set_option maxRecDepth 100000 in
/-- The plain data of a sweep that came in. -/
theorem open_waves {b0 : Nat} {v : Value} {d : DataW H} {p : List MemPlace} (hval : Value.okWide Tryz.prog w .any b0 25 v) (h1 : DataW.Trod enc Tryz.prog w 0 (fun _ => true) true 25 v d p) : ∃ x : Wd, WdRep w v x := by
  have hrow := hval
  unfold Value.okWide at hrow
  rw [Tryz.underlying25] at hrow
  obtain ⟨cs, rfl, hsz, ts, hts, _, hcell⟩ := hrow
  obtain ⟨fuel, hf⟩ := h1
  obtain ⟨cs⟩ := cs
  obtain ⟨xs, m, _, _, hlen, hx, hg⟩ := DataW.trod_struct Tryz.underlying25 hf
  have hcl : Tryz.prog.cellsOf 25 = 3 := by kernel_rfl
  rw [hcl] at hsz
  have hx3 : xs.length = 3 := hx
  match cs, hsz with
  | [c0, c1, c2], _ =>
    have g0 : DataW.trod enc Tryz.prog w 0 (fun _ => true) true m 22 (([c0, c1, c2].drop 0).take (Tryz.prog.cellsOf 22)) = xs[0]? := hg 0 _ rfl
    have g1 : DataW.trod enc Tryz.prog w 0 (fun _ => true) true m 23 (([c0, c1, c2].drop 1).take (Tryz.prog.cellsOf 23)) = xs[1]? := hg 1 _ rfl
    have g2 : DataW.trod enc Tryz.prog w 0 (fun _ => true) true m 23 (([c0, c1, c2].drop 2).take (Tryz.prog.cellsOf 23)) = xs[2]? := hg 2 _ rfl
    rw [List.getElem?_eq_getElem (by omega)] at g0 g1 g2
    rw [show Tryz.prog.cellsOf 22 = 1 by kernel_rfl] at g0
    rw [show Tryz.prog.cellsOf 23 = 1 by kernel_rfl] at g1 g2
    obtain ⟨v0, l0, e0, h0⟩ := open_ratios _ _ _ g0
    obtain ⟨v1, l1, e1, h1⟩ := open_ratstack _ _ _ g1
    obtain ⟨v2, l2, e2, h2⟩ := open_ratstack _ _ _ g2
    simp at e0 e1 e2
    subst e0 e1 e2
    exact ⟨⟨l0, l1, l2⟩, _, _, _, rfl, h0, h1, h2⟩
end
end Go.Proofs.YtpnfdlnhmhekeaaGreat

namespace Go.Proofs.YtpnfdlnhmhekeaaGreat.recordMergeBack
open Go.ChangeShapes Go.WideShapes Go.ChangeAt Go.RowKit

set_option maxHeartbeats 800000 in
set_option maxRecDepth 100000 in
theorem lifted (os : Os) (started : os.Started) (H : Type) (enc : TypeId × Value → H) :
    ReturnsInHanded {} Tryz.checked os 4 .any (Rows.recordMergeBackSpec.pre6 enc Tryz.prog Tryz.f4 Rows.recordMergeBackRow.domain false) (Rows.recordMergeBackSpec.post enc Tryz.prog Tryz.f4 false true false false) := by
  refine returnsInHanded_of_change (C := Tryz.checked) own started (by kernel_rfl) Tryz.func4
    (ChangeSpec.witness6 (enc := enc) (C := Tryz.checked) false ⟨#[], #[.agg #[.slice none 0 0, .slice none 0 0, .slice none 0 0], .agg #[.slice none 0 0, .slice none 0 0, .slice none 0 0], .int .u16 0], []⟩ 8 (by kernel_rfl) (by kernel_rfl) (by kernel_rfl) (by kernel_rfl)) ?_
  intro W base args ds gs before hval0 hW _ _
  have hval : ∀ (j : Nat) t v, Tryz.f4.params[j]? = some t → args[j]? = some v → Value.okWide Tryz.prog W .any base t v := hval0
  have hW' := hW
  obtain ⟨p, q, hA0, hV, rfl, _, _⟩ := hW
  have hA : DataW.TrodAll enc Tryz.prog W 0 (fun _ => true) true Tryz.f4.params.toList args.toList ds p := hA0
  rw [Tryz.params4] at hA hval
  obtain ⟨v0, v1, v2, d0, d1, d2, p0, p1, p2, rfl, rfl, rfl, h0, h1, h2⟩ := trodAll_three hA
  obtain ⟨x, hx⟩ := open_waves (hval 0 25 v0 rfl rfl) h0
  obtain ⟨y, hy⟩ := open_waves (hval 1 25 v1 rfl rfl) h1
  obtain ⟨z, rfl, _, _, wz⟩ := open_int Tryz.underlying63 (hval 2 63 v2 rfl rfl) h2
  have hz := bounds_u16 wz
  obtain ⟨n, rfl⟩ : ∃ n : Nat, z = (n : Int) := ⟨z.toNat, by omega⟩
  refine (recordMergeBack_spec v0 v1 x y n W hx hy (by omega)).mono ?_
  rintro e W' ⟨_, rfl, rfl, hb⟩
  exact ⟨_, rfl, post_true hW' rfl (by rw [Tryz.params4]; intro t ht; simp only [List.mem_cons, List.not_mem_nil, or_false] at ht; rcases ht with rfl | rfl | rfl <;> exact ⟨by kernel_rfl, of_decide_eq_true (by kernel_rfl)⟩) (by kernel_rfl)
    (fun ds hl => by
      match ds, hl with
      | [_, _, _], _ => exact ⟨rfl, rfl, rfl⟩) (by kernel_rfl) hb⟩

theorem proved : Rows.RecordMergeBackSaid :=
  OpenClaim.holds_of_wide 4 Tryz.f4 rfl rfl rfl rfl rfl rfl rfl ⟨rfl, rfl, rfl, rfl, rfl⟩ rfl rfl rfl rfl rfl (by kernel_rfl) Tryz.func4 (by kernel_rfl)
    (of_decide_eq_true (by kernel_rfl)) (by unfold Func.isWrapper; first | (rw [if_pos (by decide +kernel)]; kernel_rfl) | (rw [if_neg (by decide +kernel)]; exact ⟨rfl, rfl⟩))
    (fun os started H enc _ => lifted os started H enc)

#print axioms proved
end Go.Proofs.YtpnfdlnhmhekeaaGreat.recordMergeBack
