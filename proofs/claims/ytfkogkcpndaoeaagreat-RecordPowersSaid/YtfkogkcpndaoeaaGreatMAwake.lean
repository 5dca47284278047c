/- awake: what its examples come to. Conditions: none. awake: the examples of the chapter come out. Conditions: none. -/
import Derived.Test.YtfkogkcpndaoeaaGreatMDec
import Derived.Test.YtfkogkcpndaoeaaGreatMLawA
import Derived.Test.YtfkogkcpndaoeaaGreatMVals
import Derived.Test.YtfkogkcpndaoeaaGreatMWrite
import Derived.Lib.SlBytesConst
set_option linter.all false
namespace Go.Proofs.YtfkogkcpndaoeaaGreat
open Go.RowKit
theorem widens_half : Widens 1056964608 0 4602678819172646912 0 := fun w => by kernel_rfl
theorem fin_half : Fin 4602678819172646912 := ⟨by omega, ⟨4602678819172646912, by kernel_rfl, by kernel_rfl⟩, by kernel_rfl⟩
theorem fin_zero : Fin 0 := ⟨by omega, ⟨0, by kernel_rfl, by kernel_rfl⟩, by kernel_rfl⟩
theorem half_cq : (⟨fq 4602678819172646912, fq 0⟩ : CQ) = cq 1 0 2 := by
  have h1 : fq 4602678819172646912 = (1 : Int) / ((2 : Int) : Rat) := by kernel_rfl
  have h2 : fq 0 = ((0 : Int) : Rat) / ((2 : Int) : Rat) := by kernel_rfl
  unfold cq
  rw [h1, h2]
  rfl
theorem half_small : Small 16 (cq 1 0 2) := small_mk (by omega) (by decide) (by decide) (by decide)
theorem in0_cq : (cq 1 0 2).mul (cq 2 (-1) 1) = cq 2 (-1) 2 := by
  rw [cq_mul (by omega) (by omega)]; rfl
theorem out0_cq : (cq 1 0 2).mul (cq 0 4 1) = cq 0 4 2 := by
  rw [cq_mul (by omega) (by omega)]; rfl
theorem in0_text : numText (cq 2 (-1) 2) = [49, 45, 49, 47, 50, 105] := by kernel_rfl
theorem out0_text : numText (cq 0 4 2) = [50, 105] := by kernel_rfl
theorem crc_nine : crc [49, 50, 51, 52, 53, 54, 55, 56, 57] = 10673 := by kernel_rfl
theorem enc_len : (enc exFr).length = 28 := by kernel_rfl
theorem enc_2 : byteAt (enc exFr) 2 = 1 := by kernel_rfl
theorem enc_12 : byteAt (enc exFr) 12 = 63 := by kernel_rfl
theorem touch_text : tHead 50 1 ++ tLine 1000 1 1 (-4) 2 = [35, 32, 72, 90, 32, 83, 32, 82, 73, 32, 82, 32, 53, 48, 10, 49, 48, 48, 48, 32, 48, 46, 53, 32, 45, 50, 10] := by kernel_rfl
theorem ok_a : decOk 50 1 = true := by kernel_rfl
theorem ok_b : decOk 1000 1 = true := by kernel_rfl
theorem ok_c : decOk 1 2 = true := by kernel_rfl
theorem ok_d : decOk (-4) 2 = true := by kernel_rfl
theorem NumsRow.one {w : World} {base : Nat} {v : Value} {q : Nat → CQ} (h : NumsRow w base v 1 q) : ∃ g c, v = .slice (some ⟨g, 0, none⟩) 1 c ∧ 1 ≤ c ∧ c ≤ 9223372036854775807 ∧ ∃ (s0 s2 : Bool) (a1 a3 a4 : Option Addr) (l1 c1 l3 c3 l4 c4 : Nat),
    w.cell? ⟨g, 0, none⟩ = some (.bool s0) ∧ w.cell? ⟨g, 1, none⟩ = some (.slice a1 l1 c1) ∧ w.cell? ⟨g, 2, none⟩ = some (.bool s2) ∧ w.cell? ⟨g, 3, none⟩ = some (.slice a3 l3 c3) ∧ w.cell? ⟨g, 4, none⟩ = some (.slice a4 l4 c4) ∧
    NumRep w (.agg #[.bool s0, .slice a1 l1 c1, .bool s2, .slice a3 l3 c3, .slice a4 l4 c4]) (q 0) := by
  obtain ⟨us, hl, hr, hu⟩ := h
  match us, hl with
  | [u], _ =>
    obtain ⟨h5, hn⟩ := hu 0 u rfl
    obtain ⟨s0, s2, a1, a3, a4, l1, c1, l3, c3, l4, c4, e⟩ := hn.open
    injection e with e
    have e2 : u = [.bool s0, .slice a1 l1 c1, .bool s2, .slice a3 l3 c3, .slice a4 l4 c4] := by simpa using congrArg Array.toList e
    subst e2
    rcases hr.2 with ⟨_, h0⟩ | ⟨g, c, cur, rfl, _, _, hc, hm, _, _⟩
    · omega
    · have hcell := fun j x hx => hr.cells (g := g) rfl j x hx
      refine ⟨g, c, rfl, hc, by unfold maxLen at hm; exact hm, s0, s2, a1, a3, a4, l1, c1, l3, c3, l4, c4, ?_, ?_, ?_, ?_, ?_, hn⟩
      · exact hcell 0 _ rfl
      · exact hcell 1 _ rfl
      · exact hcell 2 _ rfl
      · exact hcell 3 _ rfl
      · exact hcell 4 _ rfl
end Go.Proofs.YtfkogkcpndaoeaaGreat
namespace Go.Proofs.YtfkogkcpndaoeaaGreat
open Go.RowKit
set_option maxRecDepth 100000 in
set_option maxHeartbeats 1600000 in
theorem awake_spec (w : World) : Calls Tryz.prog 7 #[] w (Ret w fun _ v' => v' = .bool true) := by
  have hvs := fun v w h => values_yes v exFr 4602678819172646912 16 w h exFr_valid widens_half fin_half fin_zero (by rw [half_cq]; exact half_small) (by omega) (by omega)
  rw [half_cq] at hvs
  have hta := fun v w (h : NumRep w v (qaOf (cq 1 0 2) exFr.pairs 0)) => text_spec v (cq 2 (-1) 2) 16 w (by rw [← in0_cq]; exact h) (small_mk (by omega) (by decide) (by decide) (by decide)) (by omega)
  have htb := fun v w (h : NumRep w v (qbOf (cq 1 0 2) exFr.pairs 0)) => text_spec v (cq 0 4 2) 16 w (by rw [← out0_cq]; exact h) (small_mk (by omega) (by decide) (by decide) (by decide)) (by omega)
  rw [in0_text] at hta
  rw [out0_text] at htb
  have HVS := Lib.hid hvs
  have HTA := Lib.hid hta
  have HTB := Lib.hid htb
  have HEL := Lib.hid enc_len
  have HE2 := Lib.hid enc_2
  have HE12 := Lib.hid enc_12
  clear hvs hta htb
  go_enter Tryz.func7, Tryz.ntmps7
  go_wp2_with fail
  refine (example_spec w).mono ?_
  rintro e W1 ⟨u1, rfl, hf1, hb1⟩
  go_wp2_with fail
  refine (encode_yes u1 exFr W1 hf1 exFr_valid).mono ?_
  rintro e W2 ⟨vb, rfl, hob, hb2⟩
  obtain ⟨ab, cb, rfl, hcb1, hcb2⟩ := hob.shape
  have hby := hob.bytes
  clear hob hf1
  have hB := hb1.trans (hb2.mono hb1.size)
  rw [HEL.out] at hcb1 ⊢
  go_wp2_with fail
  refine (example_spec W2).mono ?_
  rintro e W3 ⟨u3, rfl, hf3, hb3⟩
  have hby := hby.below hb3 (Nat.le_refl _)
  have hB := hB.trans (hb3.mono hB.size)
  go_wp2_with fail
  refine (HVS.out u3 W3 hf3).mono ?_
  rintro e W4 ⟨_, rfl, ⟨va, vc, base, rfl, hra, hrb⟩, hb4⟩
  have hby := hby.below hb4 (Nat.le_refl _)
  have hB := hB.trans (hb4.mono hB.size)
  obtain ⟨ga, ca, rfl, hca1, hca2, s0, s2, a1, a3, a4, l1, c1, l3, c3, l4, c4, p0, p1, p2, p3, p4, hna⟩ := NumsRow.one hra
  obtain ⟨gb, cc, rfl, hcc1, hcc2, t0, t2, b1, b3, b4, m1, n1, m3, n3, m4, n4, r0, r1, r2, r3, r4, hnb⟩ := NumsRow.one hrb
  obtain ⟨bb, bo, rfl, q2⟩ := hby.cell (i := 2) (by rw [HEL.out]; omega)
  obtain ⟨_, _, e12, q12⟩ := hby.cell (i := 12) (by rw [HEL.out]; omega)
  injection e12 with e12
  injection e12 with e1 e2
  subst e1 e2
  rw [HE2.out] at q2
  rw [HE12.out] at q12
  clear hby hf3 hra hrb
  go_wp2_with fail
  refine (HTA.out _ W4 hna).mono ?_
  rintro e W5 ⟨_, rfl, rfl, hb5⟩
  have hnb := hnb.below hb5 (Nat.le_refl _)
  have hB := hB.trans (hb5.mono hB.size)
  replace r0 := (hb5.cell (p := ⟨gb, 0, none⟩) (World.block_lt_of_cell? W4 _ r0)).trans r0
  replace r1 := (hb5.cell (p := ⟨gb, 1, none⟩) (World.block_lt_of_cell? W4 _ r1)).trans r1
  replace r2 := (hb5.cell (p := ⟨gb, 2, none⟩) (World.block_lt_of_cell? W4 _ r2)).trans r2
  replace r3 := (hb5.cell (p := ⟨gb, 3, none⟩) (World.block_lt_of_cell? W4 _ r3)).trans r3
  replace r4 := (hb5.cell (p := ⟨gb, 4, none⟩) (World.block_lt_of_cell? W4 _ r4)).trans r4
  clear p0 p1 p2 p3 p4 q2 q12 hna
  go_wp2_with fail
  refine (HTB.out _ W5 hnb).mono ?_
  rintro e W6 ⟨_, rfl, rfl, hb6⟩
  have hB := hB.trans (hb6.mono hB.size)
  clear r0 r1 r2 r3 r4 hnb
  have kc := fun (w : World) (C : Array Value) (n c : Nat) => Lib.run_convert_bytes_const (P := Tryz.prog) w 86 5 C n c Tryz.underlying86 Tryz.underlying5
  go_wp2_with fail
  obtain ⟨W7, hW7⟩ : ∃ V, V = W6.alloc (.cells #[.int .u8 49, .int .u8 50, .int .u8 51, .int .u8 52, .int .u8 53, .int .u8 54, .int .u8 55, .int .u8 56, .int .u8 57] 5 (9, 10)) := ⟨_, rfl⟩
  rw [← hW7]
  have hh : W7.heap[W6.heap.size]? = some (.cells (List.toArray ([49, 50, 51, 52, 53, 54, 55, 56, 57].map byteV)) 5 (9, 10)) := by rw [hW7]; show (W6.heap.push _)[W6.heap.size]? = _; rw [Array.getElem?_push_size]; rfl
  have hby7 : BytesA W7 (some ⟨W6.heap.size, 0, none⟩) [49, 50, 51, 52, 53, 54, 55, 56, 57] := fun i x hx => ⟨W6.heap.size, 0, rfl, by
    rw [Nat.zero_add, cell_of_row _ _ _ _ _ _ hh, List.getElem?_toArray, List.getElem?_map, hx]
    rfl⟩
  clear hh
  have hB7 : Below W6.heap.size W6 W7 := by rw [hW7]; exact (Below.refl _ _).alloc (Nat.le_refl _) _
  clear hW7 kc
  have hB := hB.trans (hB7.mono hB.size)
  refine (sum_spec _ [49, 50, 51, 52, 53, 54, 55, 56, 57] 9 9 W7 hby7 rfl (by omega) (by omega)).mono ?_
  rintro e w' ⟨rfl, rfl⟩
  rw [crc_nine]
  clear hby7
  go_wp2_with fail
  refine (int_spec 50 W7 (by omega) (by omega)).mono ?_
  rintro e W8 ⟨u8, rfl, hz, hb8⟩
  have hB := hB.trans (hb8.mono hB.size)
  obtain ⟨s0, s2, a1, a3, a4, l1, c1, l3, c3, l4, c4, rfl⟩ := hz.open
  go_wp2_with fail
  refine (int_spec 1000 W8 (by omega) (by omega)).mono ?_
  rintro e W9 ⟨u9, rfl, hfq, hb9⟩
  have hB := hB.trans (hb9.mono hB.size)
  have hz := hz.below hb9 (Nat.le_refl _)
  obtain ⟨t0, t2, b1, b3, b4, m1, n1, m3, n3, m4, n4, rfl⟩ := hfq.open
  go_wp2_with fail
  obtain ⟨Wa, hWa, of, hBa, hSa⟩ := boxes1 W9 40 [.bool t0, .slice b1 m1 n1, .bool t2, .slice b3 m3 n3, .slice b4 m4 n4]
  rw [← hWa]
  clear hWa
  have hB := hB.trans (hBa.mono hB.size)
  have hz := hz.below hBa (Nat.le_refl _)
  have hfq := hfq.below hBa (Nat.le_refl _)
  have hfb : NumBox Wa W9.heap.size (cq 1000 0 1) := ⟨t0, t2, b1, b3, b4, m1, n1, m3, n3, m4, n4, of, hfq⟩
  clear hfq of
  generalize W9.heap.size = gf at *
  refine (of_spec 1 (-4) 2 Wa (by omega) (by omega) (by omega) (by omega) (by omega) (by omega)).mono ?_
  rintro e Wb ⟨u3, rfl, he, hbb⟩
  have hB := hB.trans (hbb.mono hB.size)
  have hz := hz.below hbb (Nat.le_refl _)
  have hfb := hfb.grown hbb
  obtain ⟨r0, r2, d1, d3, d4, x1, y1, x3, y3, x4, y4, rfl⟩ := he.open
  go_upto_region 6 with (fail)
  obtain ⟨V, hV, o1, o2, o3, o4, hBV, hSV⟩ := boxes4 Wb 40 49 64 101 [.bool r0, .slice d1 x1 y1, .bool r2, .slice d3 x3 y3, .slice d4 x4 y4] [.slice (some ⟨Wb.heap.size, 0, none⟩) 1 1] [.slice (some ⟨Wb.heap.size + 1, 0, none⟩) 1 1]
    [.bool s0, .slice a1 l1 c1, .bool s2, .slice a3 l3 c3, .slice a4 l4 c4, .slice (some ⟨gf, 0, none⟩) 1 1, .slice (some ⟨Wb.heap.size + 1 + 1, 0, none⟩) 1 1]
  rw [← hV]
  clear hV
  have hB := hB.trans (hBV.mono hB.size)
  have hz := hz.below hBV (Nat.le_refl _)
  have hfb := hfb.grown hBV
  have he := he.below hBV (Nat.le_refl _)
  have ht : TabOne V gf (Wb.heap.size + 1 + 1) (Wb.heap.size + 1) Wb.heap.size (cq 1000 0 1) (cq 1 (-4) 2) := ⟨hfb, o3, o2, ⟨r0, r2, d1, d3, d4, x1, y1, x3, y3, x4, y4, o1, he⟩⟩
  clear o1 o2 o3 hfb he
  have fo4 := o4.free; have co40 := o4.cell 0 _ rfl; have co41 := o4.cell 1 _ rfl; have co42 := o4.cell 2 _ rfl; have co43 := o4.cell 3 _ rfl; have co44 := o4.cell 4 _ rfl; have co45 := o4.cell 5 _ rfl; have co46 := o4.cell 6 _ rfl
  go_wp2_with fail
  refine (writeTouch_one s0 s2 a1 a3 a4 l1 c1 l3 c3 l4 c4 gf (Wb.heap.size + 1 + 1) (Wb.heap.size + 1) Wb.heap.size 50 1000 1 (-4) 1 1 2 16 V hz ht (by omega) (by omega) (by omega) (by omega) (by omega) (by decide) (by decide) (by decide) (by decide) (by decide) (by decide) (by decide) (by omega) ok_a ok_b ok_c ok_d).mono ?_
  rintro e Wc ⟨_, rfl, rfl, hbc⟩
  have hB := hB.trans (hbc.mono hB.size)
  rw [touch_text]
  clear co40 co41 co42 co43 co44 co45 co46 fo4 ht hz
  go_wp2_with fail
  go_ret
  exact ⟨_, rfl, rfl, hB⟩
end Go.Proofs.YtfkogkcpndaoeaaGreat
