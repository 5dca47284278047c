/- RecordFrames, whatever the frame. Conditions: none. -/
import Derived.Test.YtohnlmfmpflbpaaGreatMAre
import Derived.Test.YtohnlmfmpflbpaaGreatMAwake
import Derived.Test.YtohnlmfmpflbpaaGreatMFrReg
import Derived.Test.YtohnlmfmpflbpaaGreatMOneFr
import Derived.Test.YtohnlmfmpflbpaaGreatMRSmp
import Derived.Test.YtohnlmfmpflbpaaGreatMRefA
set_option linter.unusedSimpArgs false
set_option linter.unusedVariables false
set_option linter.all false
namespace Go.Proofs.YtohnlmfmpflbpaaGreat
open Go.RowKit

theorem few_len {f : Fr} (h : few f = true) : f.pairs.length ≤ 1000 := by
  unfold few at h
  simp at h
  omega

/-- The two parts of a sample. -/
theorem smp_part (x : Smp) {c : Nat} (hc : c < 2) : ∃ X Y, x.cells[c]? = some (.complex .f32 X Y) := by
  rcases (show c = 0 ∨ c = 1 by omega) with rfl | rfl
  · exact ⟨_, _, rfl⟩
  · exact ⟨_, _, rfl⟩

set_option maxRecDepth 100000 in
set_option maxHeartbeats 3200000 in
theorem recordFrames_spec (v : Value) (f : Fr) (w : World) (h : FrRep w v f) :
    Calls Tryz.prog 3 #[v] w (Ret w fun _ v' => v' = .bool true) := by
  obtain ⟨am, lm, cm, ap, lp, cp, rfl⟩ := h.open
  have hok : f.ok := by obtain ⟨_, _, _, _, _, hok⟩ := h; exact hok
  have HOK := Lib.hid hok
  clear hok
  go_enter Tryz.func3, Tryz.ntmps3
  go_upto_region 1 with (fail)
  obtain ⟨W, hW, o1, hB, hS⟩ := boxes1 w 27 [.int .u32 (f.seq : Int), .int .i64 f.point, .int .i64 f.source, .int .i64 f.turn, .float .f32 f.scale, .slice am lm cm, .slice ap lp cp]
  rw [← hW]
  clear hW
  have h := h.below hB (Nat.le_refl _)
  have fo1 := o1.free; have co10 := o1.cell 0 _ rfl; have co11 := o1.cell 1 _ rfl; have co12 := o1.cell 2 _ rfl; have co13 := o1.cell 3 _ rfl; have co14 := o1.cell 4 _ rfl; have co15 := o1.cell 5 _ rfl; have co16 := o1.cell 6 _ rfl
  go_wp2_with fail
  obtain ⟨V, hV, ob, hBV, hSV⟩ := boxes1 W 27 [.int .u32 (f.seq : Int), .int .i64 f.point, .int .i64 f.source, .int .i64 f.turn, .float .f32 f.scale, .slice am lm cm, .slice ap lp cp]
  rw [← hV]
  clear hV co10 co11 co12 co13 co14 co15 co16 fo1
  have hsV : W.heap.size ≤ V.heap.size := hBV.size; have hB := hB.trans (hBV.mono hB.size); have o1 := o1.below hBV o1.lt; have h := h.below hBV (Nat.le_refl _)
  refine (small_spec _ 1 1 1 [f] V (frs_one ob h) rfl (by omega) (by omega)).mono ?_
  rintro e W1 ⟨_, rfl, rfl, hb1⟩
  rw [small_one]
  clear ob
  have hsW1 : V.heap.size ≤ W1.heap.size := hb1.size; have hB := hB.trans (hb1.mono hB.size); have o1 := o1.below hb1 o1.lt; have h := h.below hb1 (Nat.le_refl _)
  cases hfew : few f
  · have HF := Lib.hid hfew
    clear hfew
    go_wp2_with fail
    refine (awake_spec W1).mono ?_
    rintro e W2 ⟨_, rfl, rfl, hb2⟩
    have hB := hB.trans (hb2.mono hB.size)
    go_wp2_with fail
    go_ret
    exact ⟨_, rfl, rfl, hB⟩
  · obtain ⟨la, lb, hla, hlb, hla2, hlb2, HV, HR⟩ := values_all f HOK.out (few_len hfew)
    have HFL := Lib.hid (few_len hfew)
    have HLA := Lib.hid hla
    have HLB := Lib.hid hlb
    have HLA2 := Lib.hid hla2
    have HLB2 := Lib.hid hlb2
    have HVV := Lib.hid HV
    have HRR := Lib.hid HR
    have HEC := Lib.hid (fun (v : Value) (w : World) h => encode_all v f w h)
    have HED := Lib.hid (fun (v : Value) (w : World) h => rencode_all v f w h)
    have HSC := Lib.hid (fun (v : Value) (w : World) h => samples_all v f w h)
    have HSD := Lib.hid (fun (v : Value) (w : World) h => rsamples_all v f w h)
    clear hfew hla hlb hla2 hlb2 HV HR
    generalize ecode f = z at *
    have fo1 := o1.free; have co10 := o1.cell 0 _ rfl; have co11 := o1.cell 1 _ rfl; have co12 := o1.cell 2 _ rfl; have co13 := o1.cell 3 _ rfl; have co14 := o1.cell 4 _ rfl; have co15 := o1.cell 5 _ rfl; have co16 := o1.cell 6 _ rfl
    go_wp2_with fail
    refine (HEC.out _ W1 h).mono ?_
    rintro e W2 ⟨_, rfl, ⟨s1, rfl, hs1⟩, hb2⟩
    clear co10 co11 co12 co13 co14 co15 co16 fo1
    have hsW2 : W1.heap.size ≤ W2.heap.size := hb2.size; have hB := hB.trans (hb2.mono hB.size); have o1 := o1.below hb2 o1.lt; have h := h.below hb2 (Nat.le_refl _)
    have fo1 := o1.free; have co10 := o1.cell 0 _ rfl; have co11 := o1.cell 1 _ rfl; have co12 := o1.cell 2 _ rfl; have co13 := o1.cell 3 _ rfl; have co14 := o1.cell 4 _ rfl; have co15 := o1.cell 5 _ rfl; have co16 := o1.cell 6 _ rfl
    go_wp2_with fail
    refine (HED.out _ W2 h).mono ?_
    rintro e W3 ⟨_, rfl, ⟨s2, rfl, hs2⟩, hb3⟩
    clear co10 co11 co12 co13 co14 co15 co16 fo1
    have hsW3 : W2.heap.size ≤ W3.heap.size := hb3.size; have hB := hB.trans (hb3.mono hB.size); have o1 := o1.below hb3 o1.lt; have h := h.below hb3 (Nat.le_refl _)
    have hs1' : OwnB W3 W1.heap.size s1 (encB f) := row_below hs1 hb3
    go_upto_region 5 with (fail)
    refine only_of (frreg5 W3 w.heap.size f.valid z s1 s2 ⟨(encB f).toArray⟩ (o1.cell 0 _ rfl) (o1.cell 1 _ rfl) (o1.cell 2 _ rfl) (o1.cell 3 _ rfl) (o1.cell 4 _ rfl) (o1.cell 5 _ rfl) (o1.cell 6 _ rfl)
      (fun W' hb => valid_spec _ f W' (h.below hb (Nat.le_refl _))) (fun W' hb => rvalid_spec _ f W' (h.below hb (Nat.le_refl _))) (fun W' hb => ownB_string hs1' hb) (fun W' hb => ownB_string hs2 hb) ?_)
    intro W4 x37 x38 x39 x40 x41 x42 x43 x44 x45 x46 x47 x48 x49 x50 x51 x52 hb4
    clear hs1 hs1' hs2
    have hsW4 : W3.heap.size ≤ W4.heap.size := hb4.size; have hB := hB.trans (hb4.mono hB.size); have o1 := o1.below hb4 o1.lt; have h := h.below hb4 (Nat.le_refl _)
    try simp only [Exit.then]
    go_upto_region 7 with (fail)
    refine only_of (frreg7 W4 w.heap.size (clips f.pairs f.pairs.length) (o1.cell 0 _ rfl) (o1.cell 1 _ rfl) (o1.cell 2 _ rfl) (o1.cell 3 _ rfl) (o1.cell 4 _ rfl) (o1.cell 5 _ rfl) (o1.cell 6 _ rfl)
      (fun W' hb => clipped_spec _ f W' (h.below hb (Nat.le_refl _)) HFL.out) (fun W' hb => rclipped_spec _ f W' (h.below hb (Nat.le_refl _)) HFL.out) ?_)
    intro W5 k1 k2 x54 x55 x56 x57 hb5 hk1 hk2
    have hsW5 : W4.heap.size ≤ W5.heap.size := hb5.size; have hB := hB.trans (hb5.mono hB.size); have o1 := o1.below hb5 o1.lt; have h := h.below hb5 (Nat.le_refl _)
    try simp only [Exit.then]
    have hln := clips_len f.pairs f.pairs.length
    generalize clips f.pairs f.pairs.length = L at *
    obtain ⟨n, hn⟩ : ∃ n, L.length = n := ⟨_, rfl⟩
    obtain ⟨a1, c1, rfl, hc1, hc12, hK1⟩ := hk1
    obtain ⟨a2, c2, rfl, hc2, hc22, hK2⟩ := hk2
    have HK1 := Lib.hid hK1
    have HK2 := Lib.hid hK2
    have HN := Lib.hid hn
    have hn1000 : n ≤ 1000 := by have := HFL.out; omega
    rw [hn] at hc1 hc2 ⊢
    clear hK1 hK2 hn hln
    go_wp2_with fail
    go_loopw [65] (fun iv wr => ∃ k : Nat, k ≤ n ∧ iv = .int .i64 (k : Int) ∧ Below W5.heap.size W5 wr) (fun i _ => n - (intOf i).toNat)
    case atStart => exact ⟨0, Nat.zero_le _, rfl, Below.refl _ _⟩
    case round =>
      obtain ⟨k, hk, rfl, hbL⟩ := hrel
      by_cases hlt : k < n
      · as_aux_lemma =>
        obtain ⟨x, hx⟩ : ∃ x, L[k]? = some x := ⟨_, List.getElem?_eq_getElem (by have := HN.out; omega)⟩
        obtain ⟨bp1, op1, u1, rfl, -, rfl, hq1⟩ := HK1.out k x hx
        obtain ⟨bp2, op2, u2, rfl, -, rfl, hq2⟩ := HK2.out k x hx
        have e1 := hq1 0 _ rfl
        have e2 := hq2 0 _ rfl
        have l1 : bp1 < W5.heap.size := World.block_lt_of_cell? W5 _ e1
        have l2 : bp2 < W5.heap.size := World.block_lt_of_cell? W5 _ e2
        simp only [Nat.mul_one, Nat.add_zero] at e1 e2
        have f1 : wr.cell? ⟨bp1, op1 + k, none⟩ = some (.int .i64 x) := (hbL.cell l1).trans e1
        have f2 : wr.cell? ⟨bp2, op2 + k, none⟩ = some (.int .i64 x) := (hbL.cell l2).trans e2
        clear hq1 hq2 e1 e2 hx h o1 hB
        go_upto_region 13 with (fail)
        go_quiet (fail)
        go_wp2_with fail
        go_roundw
        case rel => exact ⟨k + 1, by omega, by go_num, below_drewN hbL _⟩
        case measure => simp [intOf]; omega
      · obtain rfl : k = n := by omega
        as_aux_lemma =>
        have hswr : W5.heap.size ≤ wr.heap.size := hbL.size; have hB := hB.trans (hbL.mono hB.size); have o1 := o1.below hbL o1.lt; have h := h.below hbL (Nat.le_refl _)
        have fo1 := o1.free; have co10 := o1.cell 0 _ rfl; have co11 := o1.cell 1 _ rfl; have co12 := o1.cell 2 _ rfl; have co13 := o1.cell 3 _ rfl; have co14 := o1.cell 4 _ rfl; have co15 := o1.cell 5 _ rfl; have co16 := o1.cell 6 _ rfl
        go_wp2_with fail
        refine (HVV.out _ wr h).mono ?_
        rintro e W6 ⟨_, rfl, ⟨va, vb, rfl, hva, hvb⟩, hb6⟩
        clear co10 co11 co12 co13 co14 co15 co16 fo1
        have hsW6 : wr.heap.size ≤ W6.heap.size := hb6.size; have hB := hB.trans (hb6.mono hB.size); have o1 := o1.below hb6 o1.lt; have h := h.below hb6 (Nat.le_refl _)
        have fo1 := o1.free; have co10 := o1.cell 0 _ rfl; have co11 := o1.cell 1 _ rfl; have co12 := o1.cell 2 _ rfl; have co13 := o1.cell 3 _ rfl; have co14 := o1.cell 4 _ rfl; have co15 := o1.cell 5 _ rfl; have co16 := o1.cell 6 _ rfl
        go_wp2_with fail
        refine (HRR.out _ W6 h).mono ?_
        rintro e W7 ⟨_, rfl, ⟨ra, rb, rfl, hra, hrb⟩, hb7⟩
        clear co10 co11 co12 co13 co14 co15 co16 fo1
        replace hva := hva.below num_stable hb7 (Nat.le_refl _)
        replace hvb := hvb.below num_stable hb7 (Nat.le_refl _)
        have hsW7 : W6.heap.size ≤ W7.heap.size := hb7.size; have hB := hB.trans (hb7.mono hB.size); have o1 := o1.below hb7 o1.lt; have h := h.below hb7 (Nat.le_refl _)
        go_wp2_with fail
        refine (areAll_spec _ _ la 8001 W7 hva hra HLA.out (by omega) (by have := HLA2.out; omega)).mono ?_
        rintro e W8 ⟨_, rfl, rfl, hb8⟩
        replace hvb := hvb.below num_stable hb8 (Nat.le_refl _)
        replace hrb := hrb.below q_stable hb8 (Nat.le_refl _)
        have hsW8 : W7.heap.size ≤ W8.heap.size := hb8.size; have hB := hB.trans (hb8.mono hB.size); have o1 := o1.below hb8 o1.lt; have h := h.below hb8 (Nat.le_refl _)
        go_wp2_with fail
        refine (areAll_spec _ _ lb 8001 W8 hvb hrb HLB.out (by omega) (by have := HLB2.out; omega)).mono ?_
        rintro e W9 ⟨_, rfl, rfl, hb9⟩
        clear hva hra hvb hrb
        have hsW9 : W8.heap.size ≤ W9.heap.size := hb9.size; have hB := hB.trans (hb9.mono hB.size); have o1 := o1.below hb9 o1.lt; have h := h.below hb9 (Nat.le_refl _)
        have fo1 := o1.free; have co10 := o1.cell 0 _ rfl; have co11 := o1.cell 1 _ rfl; have co12 := o1.cell 2 _ rfl; have co13 := o1.cell 3 _ rfl; have co14 := o1.cell 4 _ rfl; have co15 := o1.cell 5 _ rfl; have co16 := o1.cell 6 _ rfl
        go_wp2_with fail
        refine (HSC.out _ W9 h).mono ?_
        rintro e WA ⟨_, rfl, ⟨sa, rfl, hsa⟩, hbA⟩
        clear co10 co11 co12 co13 co14 co15 co16 fo1
        have hsWA : W9.heap.size ≤ WA.heap.size := hbA.size; have hB := hB.trans (hbA.mono hB.size); have o1 := o1.below hbA o1.lt; have h := h.below hbA (Nat.le_refl _)
        have fo1 := o1.free; have co10 := o1.cell 0 _ rfl; have co11 := o1.cell 1 _ rfl; have co12 := o1.cell 2 _ rfl; have co13 := o1.cell 3 _ rfl; have co14 := o1.cell 4 _ rfl; have co15 := o1.cell 5 _ rfl; have co16 := o1.cell 6 _ rfl
        go_wp2_with fail
        refine (HSD.out _ WA h).mono ?_
        rintro e WB ⟨_, rfl, ⟨sb, rfl, hsb⟩, hbB⟩
        clear co10 co11 co12 co13 co14 co15 co16 fo1
        replace hsa := hsa.below smp_stable hbB (Nat.le_refl _)
        have hsWB : WA.heap.size ≤ WB.heap.size := hbB.size; have hB := hB.trans (hbB.mono hB.size)
        clear o1 h
        obtain ⟨m, hm⟩ : ∃ m, (smpL f).length = m := ⟨_, rfl⟩
        have hm1000 : m ≤ 1000 := by
          have := HFL.out
          unfold smpL at hm
          split at hm
          · rw [List.length_map] at hm; omega
          · simp at hm; omega
        obtain ⟨d1, g1, rfl, hd1, hd12, hD1⟩ := hsa
        obtain ⟨d2, g2, rfl, hd2, hd22, hD2⟩ := hsb
        have HD1 := Lib.hid hD1
        have HD2 := Lib.hid hD2
        have HM := Lib.hid hm
        rw [hm] at hd1 hd2 ⊢
        clear hD1 hD2 hm
        go_wp2_with fail
        go_loopw [127] (fun iv ws => ∃ k : Nat, k ≤ m ∧ iv = .int .i64 (k : Int) ∧ Below WB.heap.size WB ws) (fun i _ => m - (intOf i).toNat)
        case atStart => exact ⟨0, Nat.zero_le _, rfl, Below.refl _ _⟩
        case round =>
          obtain ⟨i, hi, rfl, hbM⟩ := hrel
          by_cases hlt : i < m
          · as_aux_lemma =>
            obtain ⟨x, hx⟩ : ∃ x, (smpL f)[i]? = some x := ⟨_, List.getElem?_eq_getElem (by have := HM.out; omega)⟩
            obtain ⟨bp1, op1, u1, rfl, -, rfl, hq1⟩ := HD1.out i x hx
            obtain ⟨bp2, op2, u2, rfl, -, rfl, hq2⟩ := HD2.out i x hx
            have HQ1 := Lib.hid hq1
            have HQ2 := Lib.hid hq2
            clear hq1 hq2 hx
            go_wp2_with fail
            go_loopw [130] (fun jv wt => ∃ c : Nat, c ≤ 2 ∧ jv = .int .i64 (c : Int) ∧ Below WB.heap.size WB wt) (fun i _ => 2 - (intOf i).toNat)
            case atStart => exact ⟨0, Nat.zero_le _, rfl, hbM⟩
            case round =>
              obtain ⟨c, hc, rfl, hbN⟩ := hrel
              by_cases hlc : c < 2
              · obtain ⟨X, Y, hXY⟩ := smp_part x hlc
                have e1 := HQ1.out c _ hXY
                have e2 := HQ2.out c _ hXY
                have l1 : bp1 < WB.heap.size := World.block_lt_of_cell? WB _ e1
                have l2 : bp2 < WB.heap.size := World.block_lt_of_cell? WB _ e2
                go_upto_region 30 with (fail)
                refine only_of (frreg30 wr bp1 op1 g1 bp2 op2 g2 m i c X Y hlt (by omega) hlc ((hbN.cell l1).trans e1) ((hbN.cell l2).trans e2) ?_)
                intro w' x133 x134 x135 x136 x137 x138 x139 x140 x141 x142 x143 x144 x145 x146 hbn
                try simp only [Exit.then]
                go_wp2_with fail
                go_roundw
                case rel => first | exact ⟨c + 1, by omega, by go_num, hbN.trans (hbn.mono hbN.size)⟩ | ((repeat apply Exists.intro); exact ⟨⟨c + 1, by omega, by go_num, hbN.trans (hbn.mono hbN.size)⟩, rfl, rfl, rfl⟩)
                case measure => simp [intOf]; omega
              · obtain rfl : c = 2 := by omega
                go_wp2_with fail
                go_roundw
                case rel => first | exact ⟨i + 1, by omega, by go_num, hbN⟩ | ((repeat apply Exists.intro); exact ⟨⟨i + 1, by omega, by go_num, hbN⟩, rfl, rfl, rfl⟩)
                case measure => simp [intOf]; omega
          · obtain rfl : i = m := by omega
            as_aux_lemma =>
            have hswr : WB.heap.size ≤ wr.heap.size := hbM.size; have hB := hB.trans (hbM.mono hB.size)
            go_wp2_with fail
            refine (awake_spec wr).mono ?_
            rintro e WC ⟨_, rfl, rfl, hbC⟩
            have hB := hB.trans (hbC.mono hB.size)
            go_wp2_with fail
            go_ret
            exact ⟨_, rfl, rfl, hB⟩
end Go.Proofs.YtohnlmfmpflbpaaGreat
