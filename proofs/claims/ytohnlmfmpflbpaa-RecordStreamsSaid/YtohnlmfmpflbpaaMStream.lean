/- A scan of valid frames with other bytes between them, plain. Conditions: no byte between is W. -/
import Derived.Test.YtohnlmfmpflbpaaMScanA
set_option linter.unusedSimpArgs false
set_option linter.unusedVariables false
set_option linter.all false
namespace Go.Proofs.Ytohnlmfmpflbpaa
open Go.RowKit

/-- Frames one after the other, with bytes ahead of each. -/
def streamB (nz : Nat → List UInt8) : Nat → List Fr → List UInt8
  | _, [] => []
  | i, f :: t => nz i ++ (enc f ++ streamB nz (i + 1) t)
def streamHits (nz : Nat → List UInt8) : Nat → Nat → List Fr → List (Nat × Fr)
  | _, _, [] => []
  | i, p, f :: t => (p + (nz i).length, f) :: streamHits nz (i + 1) (p + (nz i).length + (enc f).length) t

theorem streamB_snoc (nz : Nat → List UInt8) (f : Fr) : ∀ (l : List Fr) (i : Nat), streamB nz i (l ++ [f]) = streamB nz i l ++ (nz (i + l.length) ++ enc f)
  | [], i => by simp [streamB]
  | g :: t, i => by
    rw [List.cons_append, streamB, streamB, streamB_snoc nz f t (i + 1), List.length_cons, show i + (t.length + 1) = i + 1 + t.length by omega]
    simp only [List.append_assoc]
theorem streamHits_snoc (nz : Nat → List UInt8) (f : Fr) : ∀ (l : List Fr) (i p : Nat), streamHits nz i p (l ++ [f]) = streamHits nz i p l ++ [(p + (streamB nz i l).length + (nz (i + l.length)).length, f)]
  | [], i, p => by simp [streamHits, streamB]
  | g :: t, i, p => by
    rw [List.cons_append, streamHits, streamHits, streamHits_snoc nz f t, streamB, List.length_cons, show i + (t.length + 1) = i + 1 + t.length by omega]
    simp only [List.length_append, List.cons_append]
    rw [show p + (nz i).length + (enc g).length + (streamB nz (i + 1) t).length = p + ((nz i).length + ((enc g).length + (streamB nz (i + 1) t).length)) by omega]
theorem streamHits_len (nz : Nat → List UInt8) : ∀ (l : List Fr) (i p : Nat), (streamHits nz i p l).length = l.length
  | [], _, _ => rfl
  | _ :: t, i, p => by rw [streamHits, List.length_cons, List.length_cons, streamHits_len nz t]

theorem noise_err {l : List UInt8} {x : UInt8} {t : List UInt8} (h : l = x :: t) (hx : x ≠ 87) : decErr l ≠ 0 := by
  have h0 : byteAt l 0 ≠ 87 := by
    rw [h]
    intro e
    exact hx (UInt8.toNat_inj.1 (by simpa [byteAt] using e))
  have hf : formErr l = true := by
    unfold formErr
    rw [decide_eq_true_eq]
    left
    exact ⟨by rw [h]; simp, h0⟩
  have he : headErr l = 2 := by unfold headErr; rw [if_pos hf]
  unfold decErr
  rw [if_pos (by rw [he]; decide), he]
  decide
theorem scan_noise {l : List UInt8} : ∀ (z r : List UInt8) (i : Nat), l.drop i = z ++ r → (∀ x ∈ z, x ≠ 87) → scanFrom l i = scanFrom l (i + z.length)
  | [], _, _, _, _ => rfl
  | x :: z, r, i, h, hz => by
    have hi : i < l.length := by
      rcases Nat.lt_or_ge i l.length with hi | hi
      · exact hi
      · rw [List.drop_eq_nil_of_le hi] at h; cases h
    rw [scan_miss hi (noise_err h (hz x List.mem_cons_self)), scan_noise z r (i + 1) (by rw [← List.drop_drop, h]; rfl) (fun y hy => hz y (List.mem_cons_of_mem _ hy)), List.length_cons]
    congr 1
    omega
theorem scan_frame {l r : List UInt8} {f : Fr} {i : Nat} (hv : f.valid = true) (hok : f.ok) (h : l.drop i = enc f ++ r) : scanFrom l i = (i, f) :: scanFrom l (i + (enc f).length) := by
  have hl := enc_length hv
  have hi : i < l.length := by
    rcases Nat.lt_or_ge i l.length with hi | hi
    · exact hi
    · rw [List.drop_eq_nil_of_le hi] at h
      have := congrArg List.length h
      rw [List.length_append] at this
      simp at this
      omega
  rw [scan_hit hi (by rw [h]; exact decErr_enc hv hok r), h, decFr_enc hv hok r, head_len hv r]
theorem scan_stream {nz : Nat → List UInt8} (hnz : ∀ i, ∀ x ∈ nz i, x ≠ 87) {b : List UInt8} : ∀ (l : List Fr) (i p : Nat), (∀ f ∈ l, f.valid = true ∧ f.ok) → b.drop p = streamB nz i l → scanFrom b p = streamHits nz i p l
  | [], i, p, _, h => by
    rw [streamHits, scan_end]
    exact List.drop_eq_nil_iff.1 h
  | f :: t, i, p, hl, h => by
    rw [streamB] at h
    have h1 := scan_noise (nz i) _ p h (hnz i)
    have h2 : b.drop (p + (nz i).length) = enc f ++ streamB nz (i + 1) t := by rw [← List.drop_drop, h, List.drop_left]
    have h3 : b.drop (p + (nz i).length + (enc f).length) = streamB nz (i + 1) t := by rw [← List.drop_drop, h2, List.drop_left]
    rw [h1, scan_frame (hl f List.mem_cons_self).1 (hl f List.mem_cons_self).2 h2, scan_stream hnz t (i + 1) _ (fun g hg => hl g (List.mem_cons_of_mem _ hg)) h3, streamHits]

/-- What the law collects: the end, and the gaps. -/
theorem stream_run {nz : Nat → List UInt8} (l : List Fr) (f : Fr) (hv : f.valid = true) (h : (gapRun (streamHits nz 0 0 l)).1 = (streamB nz 0 l).length) :
    gapRun (streamHits nz 0 0 (l ++ [f])) = ((streamB nz 0 (l ++ [f])).length, (gapRun (streamHits nz 0 0 l)).2 ++ gap1 (streamB nz 0 l).length ((streamB nz 0 l).length + (nz l.length).length)) := by
  rw [streamHits_snoc, gapRun_snoc, streamB_snoc]
  unfold gapSt
  rw [h]
  have := enc_length hv
  simp only [List.length_append, Nat.zero_add]
  congr 1
  omega
theorem stream_gaps {nz : Nat → List UInt8} {l : List Fr} (h : (gapRun (streamHits nz 0 0 l)).1 = (streamB nz 0 l).length) : gapsOf (streamHits nz 0 0 l) (streamB nz 0 l).length = (gapRun (streamHits nz 0 0 l)).2 := by
  unfold gapsOf
  rw [h]
  unfold gap1
  rw [if_neg (by omega), List.append_nil]

/-- The bytes of the noise. -/
def noiseB (x : UInt8) (k : Nat) : List UInt8 := (List.range k).map fun j => UInt8.ofNat ((x.toNat + j) % 256 % 80)
def noiseAt (l : List UInt8) (i : Nat) : List UInt8 := match l[i]? with
  | some x => noiseB x (x.toNat % 16)
  | none => []
theorem noiseB_succ (x : UInt8) (k : Nat) : noiseB x (k + 1) = noiseB x k ++ [UInt8.ofNat ((x.toNat + k) % 256 % 80)] := by unfold noiseB; rw [List.range_succ]; simp
theorem noiseB_len (x : UInt8) (k : Nat) : (noiseB x k).length = k := by simp [noiseB]
theorem noiseAt_ne (l : List UInt8) (i : Nat) : ∀ x ∈ noiseAt l i, x ≠ 87 := by
  intro x hx
  unfold noiseAt at hx
  split at hx
  · unfold noiseB at hx
    obtain ⟨j, _, rfl⟩ := List.mem_map.1 hx
    intro e
    have := congrArg UInt8.toNat e
    rw [ofNat_val (by omega)] at this
    have h87 : (87 : UInt8).toNat = 87 := rfl
    omega
  · cases hx
theorem noiseAt_len (l : List UInt8) (i : Nat) : (noiseAt l i).length ≤ 15 := by
  unfold noiseAt
  split
  · rw [noiseB_len]; omega
  · simp
theorem streamB_len {nl : List UInt8} : ∀ (l : List Fr) (i : Nat), (∀ f ∈ l, f.valid = true ∧ f.ok) → (streamB (noiseAt nl) i l).length ≤ 113 * l.length
  | [], _, _ => by simp [streamB]
  | f :: t, i, h => by
    have h1 := noiseAt_len nl i
    have h2 := enc_length (h f List.mem_cons_self).1
    have h3 := (Fr.valid_iff.1 (h f List.mem_cons_self).1).1
    have h4 := streamB_len (nl := nl) t (i + 1) (fun g hg => h g (List.mem_cons_of_mem _ hg))
    rw [streamB, List.length_append, List.length_append, List.length_cons]
    omega
end Go.Proofs.Ytohnlmfmpflbpaa
