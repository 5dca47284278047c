/- RecordDecodes, whatever the bytes. Conditions: none. -/
import Derived.Test.YtohnlmfmpflbpaaMLawBack
import Derived.Test.YtohnlmfmpflbpaaMRefD
set_option linter.unusedSimpArgs false
set_option linter.unusedVariables false
set_option linter.all false
namespace Go.Proofs.Ytohnlmfmpflbpaa
open Go.RowKit

set_option maxRecDepth 100000 in
set_option maxHeartbeats 1600000 in
theorem recordDecodes_spec (ad : Option Addr) (l : List UInt8) (n cap : Nat) (w : World) (hA : BytesA w ad l) (Hn : Hid (l.length = n)) (hnone : ad = none → n = 0 ∧ cap = 0) (hcap : n ≤ cap) (hmax : cap ≤ 9223372036854775807) :
    Calls Try.prog 3 #[.slice ad n cap] w (Ret w fun _ v' => v' = .bool true) := by
  obtain ⟨F, z, er, hF⟩ : ∃ (F : Fr) (z er : Int), ∀ w v, DecPost l w v → ∃ u, v = .tuple #[u, .int .i64 z, .int .i64 er] ∧ FrRep w u F := ⟨_, _, _, fun w v h => h⟩
  have HF := Lib.hid hF
  clear hF
  have HNO := Lib.hid hnone
  clear hnone
  have hB : Below w.heap.size w w := Below.refl _ _
  by_cases h300 : 300 < n
  · go_enter Try.func3, Try.ntmps3
    go_wp2_with fail
    refine (awake_spec w).mono ?_
    rintro e W2 ⟨_, rfl, rfl, hb⟩
    go_wp2_with fail
    go_ret
    exact ⟨_, rfl, rfl, hb⟩
  · go_enter Try.func3, Try.ntmps3
    go_upto_region 3 with (fail)
    have ow0 : OwnB (w.alloc (.cells #[] 5)) w.heap.size (.slice (some ⟨w.heap.size, 0, none⟩) 0 0) [] := ⟨by simp, .inr ⟨w.heap.size, 0, #[], rfl, Nat.le_refl _, own_new w 5 [], Nat.le_refl _, by unfold maxLen; omega, rfl, rfl⟩⟩
    have hBb : Below w.heap.size w (w.alloc (.cells #[] 5)) := (Below.refl _ _).alloc (Nat.le_refl _) _
    have hsb : w.heap.size ≤ (w.alloc (.cells #[] 5)).heap.size := hBb.size
    have hA2 := hA.below hBb (Nat.le_refl _)
    go_wp2_with (at_builtin; refine append_bytesA (w.alloc (.cells #[] 5)) rfl (.tmp 14) (.tmp 15) _ rfl Try.underlying22 w.heap.size _ [] l ad n cap rfl rfl ow0 hA2 Hn.out HNO.out (by simp) (by omega) hsb ?_; intro v5 W5 ow5 hg5; have hb5 := hBb.grown hg5 hsb (fun k hk => (World.ownsRow.lt ow0 k hk).1); clear hg5)
    rw [List.nil_append] at ow5
    obtain ⟨a6, c6, rfl, hc61, hc62⟩ := ow5.shape
    refine (decode_spec a6 l _ c6 W5 ow5.bytes rfl hc61 hc62).mono ?_
    rintro e W6 ⟨_, rfl, hpost, hb6⟩
    have hB := hb5.trans (hb6.mono hb5.size)
    clear ow0 hBb hsb hA2 ow5 hc61 hc62 hb5 hb6
    obtain ⟨u, rfl, hu⟩ := HF.out _ _ hpost
    clear hpost
    obtain ⟨am, lm, cm, ap, lp, cp, rfl⟩ := hu.open
    have hst := run_store_float
    go_upto_region 4 with (fail)
    obtain ⟨V, hV, o3, hBV, hSV⟩ := boxes1 W6 29 [.int .u32 (F.seq : Int), .int .i64 F.point, .int .i64 F.source, .int .i64 F.turn, .float .f32 F.scale, .slice am lm cm, .slice ap lp cp]
    rw [← hV]
    clear hV
    have hu := hu.below hBV (Nat.le_refl _)
    have hB := hB.trans (hBV.mono hB.size)
    have hl3 := o3.lt
    generalize W6.heap.size = g3 at *
    go_wp2_with fail
    refine (refDecode_spec ad l n cap V (hA.below hB (Nat.le_refl _)) Hn hcap hmax).mono ?_
    rintro e W7 ⟨_, rfl, hpost, hb7⟩
    obtain ⟨u2, rfl, hu2⟩ := HF.out _ _ hpost
    clear hpost
    obtain ⟨bm, lm2, cm2, bp, lp2, cp2, rfl⟩ := hu2.open
    have hu := hu.below hb7 (Nat.le_refl _)
    have o3 := o3.below hb7 o3.lt
    have hB := hB.trans (hb7.mono hB.size)
    have hst := run_store_float
    go_upto_region 5 with (fail)
    obtain ⟨V2, hV2, o6, hBV2, hSV2⟩ := boxes1 W7 29 [.int .u32 (F.seq : Int), .int .i64 F.point, .int .i64 F.source, .int .i64 F.turn, .float .f32 F.scale, .slice bm lm2 cm2, .slice bp lp2 cp2]
    rw [← hV2]
    clear hV2
    have hu := hu.below hBV2 (Nat.le_refl _)
    have hu2 := hu2.below hBV2 (Nat.le_refl _)
    have o3 := o3.below hBV2 o3.lt
    have hB := hB.trans (hBV2.mono hB.size)
    have fo3 := o3.free; have co30 := o3.cell 0 _ rfl; have co31 := o3.cell 1 _ rfl; have co32 := o3.cell 2 _ rfl; have co33 := o3.cell 3 _ rfl; have co34 := o3.cell 4 _ rfl; have co35 := o3.cell 5 _ rfl; have co36 := o3.cell 6 _ rfl
    have fo6 := o6.free; have co60 := o6.cell 0 _ rfl; have co61 := o6.cell 1 _ rfl; have co62 := o6.cell 2 _ rfl; have co63 := o6.cell 3 _ rfl; have co64 := o6.cell 4 _ rfl; have co65 := o6.cell 5 _ rfl; have co66 := o6.cell 6 _ rfl
    go_wp2_with fail
    refine (sameFrames_yes _ _ F V2 hu hu2).mono ?_
    rintro e W8 ⟨_, rfl, rfl, hb8⟩
    have hB := hB.trans (hb8.mono hB.size)
    have hA8 := hA.below hB (Nat.le_refl _)
    clear co30 co31 co32 co33 co34 co35 co36 fo3 co60 co61 co62 co63 co64 co65 co66 fo6 o3 o6 hu hu2
    go_wp2_with fail
    refine (sum_spec ad l n cap W8 hA8 Hn hcap hmax).mono ?_
    rintro e w' ⟨rfl, rfl⟩
    go_wp2_with fail
    refine (refSum_spec ad l n cap W8 hA8 Hn hcap hmax).mono ?_
    rintro e w' ⟨rfl, rfl⟩
    go_wp2_with fail
    refine (awake_spec W8).mono ?_
    rintro e W9 ⟨_, rfl, rfl, hb9⟩
    have hB := hB.trans (hb9.mono hB.size)
    go_wp2_with fail
    go_ret
    exact ⟨_, rfl, rfl, hB⟩
end Go.Proofs.Ytohnlmfmpflbpaa
