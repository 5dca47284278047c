/- RecordPowers: whatever the wave, the impedance, the sweep and the limit, the law returns true, and what came in reads as before. Conditions: none. -/
import Derived.Test.YtfkogkcpndaoeaaGreatMLawPw
import Derived.Test.YtfkogkcpndaoeaaGreatMTop
set_option linter.all false
namespace Go.Proofs.YtfkogkcpndaoeaaGreat.recordPowers
open Go.ChangeShapes Go.WideShapes Go.ChangeAt Go.RowKit Go.Deep
section
variable {H : Type} {enc : TypeId × Value → H} {w : World}
set_option maxRecDepth 100000 in
theorem open_ratio1 {b0 : Nat} {v : Value} {d : DataW H} {p : List MemPlace} (hval : Value.okWide Tryz.prog w .any b0 23 v) (h1 : DataW.Trod enc Tryz.prog w 0 (fun _ => true) true 23 v d p) :
    ∃ r : Rt, v = .agg #[.int .i64 r.re, .int .i64 r.im, .int .i64 r.den] ∧ r.ok := by
  have hrow := hval
  unfold Value.okWide at hrow
  rw [Tryz.underlying23] at hrow
  obtain ⟨cs, rfl, hsz, ts, hts, _, hcell⟩ := hrow
  obtain ⟨fuel, hf⟩ := h1
  obtain ⟨cs⟩ := cs
  obtain ⟨y, -, hy, hok⟩ := open_ratio (enc := enc) (w := w) fuel cs _ hf
  subst hy
  exact ⟨y, rfl, hok⟩
end
set_option maxHeartbeats 800000 in
set_option maxRecDepth 100000 in
theorem lifted (os : Os) (started : os.Started) (H : Type) (enc : TypeId × Value → H) :
    ReturnsInHanded {} Tryz.checked os 3 .any (Rows.recordPowersSpec.pre6 enc Tryz.prog Tryz.f3 Rows.recordPowersRow.domain false) (Rows.recordPowersSpec.post enc Tryz.prog Tryz.f3 false true false false) := by
  refine returnsInHanded_of_change (C := Tryz.checked) own started (by kernel_rfl) Tryz.func3
    (ChangeSpec.witness6 (enc := enc) (C := Tryz.checked) false ⟨#[], #[.agg #[.int .i64 0, .int .i64 0, .int .i64 0], .agg #[.int .i64 0, .int .i64 0, .int .i64 0], .agg #[.slice none 0 0, .slice none 0 0, .slice none 0 0], .int .u32 0], []⟩ 8 (by kernel_rfl) (by kernel_rfl) (by kernel_rfl) (by kernel_rfl)) ?_
  intro W base args ds gs before hval0 hW _ _
  have hval : ∀ (j : Nat) t v, Tryz.f3.params[j]? = some t → args[j]? = some v → Value.okWide Tryz.prog W .any base t v := hval0
  have hW' := hW
  obtain ⟨p, q, hA0, hV, rfl, _, _⟩ := hW
  have hA : DataW.TrodAll enc Tryz.prog W 0 (fun _ => true) true Tryz.f3.params.toList args.toList ds p := hA0
  rw [Tryz.params3] at hA hval
  obtain ⟨v0, v1, v2, v3, d0, d1, d2, d3, p0, p1, p2, p3, rfl, rfl, rfl, h0, h1, h2, h3⟩ := trodAll_four hA
  obtain ⟨x, rfl, hx⟩ := open_ratio1 (hval 0 23 v0 rfl rfl) h0
  obtain ⟨z, rfl, hz⟩ := open_ratio1 (hval 1 23 v1 rfl rfl) h1
  obtain ⟨y, hy⟩ := open_waves (hval 2 27 v2 rfl rfl) h2
  obtain ⟨i, rfl, _, _, wi⟩ := open_int Tryz.underlying28 (hval 3 28 v3 rfl rfl) h3
  have hi := bounds_u32 wi
  obtain ⟨L, rfl⟩ : ∃ n : Nat, i = (n : Int) := ⟨i.toNat, by omega⟩
  refine (recordPowers_spec v2 x z y L W hy hx hz).mono ?_
  rintro e W' ⟨_, rfl, rfl, hb⟩
  exact ⟨_, rfl, post_true hW' rfl (by rw [Tryz.params3]; intro t ht; simp only [List.mem_cons, List.not_mem_nil, or_false] at ht; rcases ht with rfl | rfl | rfl | rfl <;> exact ⟨by kernel_rfl, of_decide_eq_true (by kernel_rfl)⟩) (by kernel_rfl)
    (fun ds hl => by
      match ds, hl with
      | [_, _, _, _], _ => exact ⟨rfl, rfl, rfl⟩) (by kernel_rfl) hb⟩
theorem proved : Rows.RecordPowersSaid :=
  OpenClaim.holds_of_wide 3 Tryz.f3 rfl rfl rfl rfl rfl rfl rfl ⟨rfl, rfl, rfl, rfl, rfl⟩ rfl rfl rfl rfl rfl (by kernel_rfl) Tryz.func3 (by kernel_rfl)
    (of_decide_eq_true (by kernel_rfl)) (by unfold Func.isWrapper; first | (rw [if_pos (by decide +kernel)]; kernel_rfl) | (rw [if_neg (by decide +kernel)]; exact ⟨rfl, rfl⟩))
    (fun os started H enc _ => lifted os started H enc)
#print axioms proved
end Go.Proofs.YtfkogkcpndaoeaaGreat.recordPowers
