/- RecordScans: whatever the bytes and the number, the law returns true, and what came in reads as before. Conditions: none. -/
import Derived.Test.YtohnlmfmpflbpaaGreatMLawScan
import Derived.Test.YtohnlmfmpflbpaaGreatMTop
set_option linter.unusedSimpArgs false
set_option linter.unusedVariables false
set_option linter.all false
namespace Go.Proofs.YtohnlmfmpflbpaaGreat.recordScans
open Go.ChangeShapes Go.WideShapes Go.ChangeAt Go.RowKit

set_option maxHeartbeats 800000 in
set_option maxRecDepth 100000 in
theorem lifted (os : Os) (started : os.Started) (H : Type) (enc : TypeId × Value → H) :
    ReturnsInHanded {} Tryz.checked os 4 .any (Rows.recordScansSpec.pre6 enc Tryz.prog Tryz.f4 Rows.recordScansRow.domain false) (Rows.recordScansSpec.post enc Tryz.prog Tryz.f4 false true false false) := by
  refine returnsInHanded_of_change (C := Tryz.checked) own started (by kernel_rfl) Tryz.func4
    (ChangeSpec.witness6 (enc := enc) (C := Tryz.checked) false ⟨#[], #[.slice none 0 0, .int .u8 0], []⟩ 8 (by kernel_rfl) (by kernel_rfl) (by kernel_rfl) (by kernel_rfl)) ?_
  intro W base args ds gs before hval0 hW _ _
  have hval : ∀ (j : Nat) t v, Tryz.f4.params[j]? = some t → args[j]? = some v → Value.okWide Tryz.prog W .any base t v := hval0
  have hW' := hW
  obtain ⟨p, q, hA0, hV, rfl, _, _⟩ := hW
  have hA : DataW.TrodAll enc Tryz.prog W 0 (fun _ => true) true Tryz.f4.params.toList args.toList ds p := hA0
  rw [Tryz.params4] at hA hval
  obtain ⟨v0, v1, d0, d1, p0, p1, rfl, rfl, rfl, h0, h1⟩ := trodAll_two hA
  obtain ⟨a, n, c, l, rfl, hA1, hl, hc, hcm, hno⟩ := open_bytes (hval 0 31 v0 rfl rfl) h0
  obtain ⟨z, rfl, _, _, wz⟩ := open_int Tryz.underlying5 (hval 1 5 v1 rfl rfl) h1
  have hz := bounds_u8 wz
  obtain ⟨s, rfl⟩ : ∃ s : Nat, z = (s : Int) := ⟨z.toNat, by omega⟩
  refine (recordScans_spec a l n c s W hA1 (Lib.hid hl) (Lib.hid hno) hc hcm (by omega)).mono ?_
  rintro e W' ⟨_, rfl, rfl, hb⟩
  exact ⟨_, rfl, post_true hW' rfl (by rw [Tryz.params4]; intro t ht; simp only [List.mem_cons, List.not_mem_nil, or_false] at ht; rcases ht with rfl | rfl <;> exact ⟨by kernel_rfl, of_decide_eq_true (by kernel_rfl)⟩) (by kernel_rfl)
    (fun ds hl => by
      match ds, hl with
      | [_, _], _ => exact ⟨rfl, rfl, rfl⟩) (by kernel_rfl) hb⟩

theorem proved : Rows.RecordScansSaid :=
  OpenClaim.holds_of_wide 4 Tryz.f4 rfl rfl rfl rfl rfl rfl rfl ⟨rfl, rfl, rfl, rfl, rfl⟩ rfl rfl rfl rfl rfl (by kernel_rfl) Tryz.func4 (by kernel_rfl)
    (of_decide_eq_true (by kernel_rfl)) (by unfold Func.isWrapper; first | (rw [if_pos (by decide +kernel)]; kernel_rfl) | (rw [if_neg (by decide +kernel)]; exact ⟨rfl, rfl⟩))
    (fun os started H enc _ => lifted os started H enc)

#print axioms proved
end Go.Proofs.YtohnlmfmpflbpaaGreat.recordScans
