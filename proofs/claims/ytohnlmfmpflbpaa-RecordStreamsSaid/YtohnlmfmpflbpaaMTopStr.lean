/- RecordStreams: whatever the frames and the bytes, the law returns true, and what came in reads as before. Conditions: none. -/
import Derived.Test.YtohnlmfmpflbpaaMLawStr
import Derived.Test.YtohnlmfmpflbpaaMTopFr
set_option linter.unusedSimpArgs false
set_option linter.unusedVariables false
set_option linter.all false
namespace Go.Proofs.Ytohnlmfmpflbpaa.recordStreams
open Go.ChangeShapes Go.WideShapes Go.ChangeAt Go.RowKit

set_option maxHeartbeats 800000 in
set_option maxRecDepth 100000 in
theorem lifted (os : Os) (started : os.Started) (H : Type) (enc : TypeId × Value → H) :
    ReturnsInHanded {} Try.checked os 6 .any (Rows.recordStreamsSpec.pre6 enc Try.prog Try.f6 Rows.recordStreamsRow.domain false) (Rows.recordStreamsSpec.post enc Try.prog Try.f6 false true false false) := by
  refine returnsInHanded_of_change (C := Try.checked) own started (by kernel_rfl) Try.func6
    (ChangeSpec.witness6 (enc := enc) (C := Try.checked) false ⟨#[], #[.slice none 0 0, .slice none 0 0], []⟩ 8 (by kernel_rfl) (by kernel_rfl) (by kernel_rfl) (by kernel_rfl)) ?_
  intro W base args ds gs before hval0 hW _ _
  have hval : ∀ (j : Nat) t v, Try.f6.params[j]? = some t → args[j]? = some v → Value.okWide Try.prog W .any base t v := hval0
  have hW' := hW
  obtain ⟨p, q, hA0, hV, rfl, _, _⟩ := hW
  have hA : DataW.TrodAll enc Try.prog W 0 (fun _ => true) true Try.f6.params.toList args.toList ds p := hA0
  rw [Try.params6] at hA hval
  obtain ⟨v0, v1, d0, d1, p0, p1, rfl, rfl, rfl, h0, h1⟩ := trodAll_two hA
  obtain ⟨fa, fn, fc, fs, rfl, hF, hfn, hfc, hfm⟩ := open_frames (hval 0 38 v0 rfl rfl) h0
  obtain ⟨a, n, c, m, rfl, hA1, hm, hc, hcm, hno⟩ := open_bytes (hval 1 22 v1 rfl rfl) h1
  refine (recordStreams_spec fa fn fc fs a n c m W hF (Lib.hid hfn) hfc hfm hA1 (Lib.hid hm) hc hcm).mono ?_
  rintro e W' ⟨_, rfl, rfl, hb⟩
  exact ⟨_, rfl, post_true hW' rfl (by rw [Try.params6]; intro t ht; simp only [List.mem_cons, List.not_mem_nil, or_false] at ht; rcases ht with rfl | rfl <;> exact ⟨by kernel_rfl, of_decide_eq_true (by kernel_rfl)⟩) (by kernel_rfl)
    (fun ds hl => by
      match ds, hl with
      | [_, _], _ => exact ⟨rfl, rfl, rfl⟩) (by kernel_rfl) hb⟩

theorem proved : Rows.RecordStreamsSaid :=
  OpenClaim.holds_of_wide 6 Try.f6 rfl rfl rfl rfl rfl rfl rfl ⟨rfl, rfl, rfl, rfl, rfl⟩ rfl rfl rfl rfl rfl (by kernel_rfl) Try.func6 (by kernel_rfl)
    (of_decide_eq_true (by kernel_rfl)) (by unfold Func.isWrapper; first | (rw [if_pos (by decide +kernel)]; kernel_rfl) | (rw [if_neg (by decide +kernel)]; exact ⟨rfl, rfl⟩))
    (fun os started H enc _ => lifted os started H enc)

#print axioms proved
end Go.Proofs.Ytohnlmfmpflbpaa.recordStreams
