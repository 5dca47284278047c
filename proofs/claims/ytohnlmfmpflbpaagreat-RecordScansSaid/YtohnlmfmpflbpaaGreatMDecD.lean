/- record.Decode where the form and the check sum are right. Conditions: none. -/
import Derived.Test.YtohnlmfmpflbpaaGreatMDecQ
import Derived.Test.YtohnlmfmpflbpaaGreatMDecR
import Derived.Deep.CutRange
set_option linter.unusedSimpArgs false
set_option linter.unusedVariables false
set_option linter.all false
namespace Go.Proofs.YtohnlmfmpflbpaaGreat
open Go.RowKit

theorem dec_rest {l : List UInt8} (he : headErr l = 0) (hc : crc (l.take (headLen l - 2)) = wordAt l (headLen l - 2)) :
    decErr l = if byteAt l 11 ≠ 0 ∨ (decFr l).valid = false then 1 else 0 := by
  unfold decErr; rw [if_neg (by omega), if_neg (by omega)]

set_option maxRecDepth 100000 in
set_option maxHeartbeats 6400000 in
theorem decode_loop (a : Option Addr) (l : List UInt8) (n cap : Nat) (w : World) (hA : BytesA w a l) (Hn : Hid (l.length = n)) (hcap : n ≤ cap) (hmax : cap ≤ 9223372036854775807) (he : headErr l = 0) (hc : crc (l.take (headLen l - 2)) = wordAt l (headLen l - 2)) :
    Calls Tryz.prog 49 #[.slice a n cap] w (Ret w fun w' v' => DecPost l w' v') := by
  have hw := whole_spec a l n cap
  unfold WholePost at hw
  rw [if_pos he, he] at hw
  have hN : headLen l ≤ n := by
    unfold headErr at he
    rw [← Hn.out]
    split at he
    · omega
    · split at he <;> omega
  have hN2 : 18 ≤ headLen l := by unfold headLen; omega
  have hne : ((wordAt l (headLen l - 2) : Int) != (wordAt l (headLen l - 2) : Int)) = false := by simp
  have hpost := dec_rest he hc
  have HPost := Lib.hid hpost
  clear hpost
  have hT := hA.take (headLen l - 2)
  have hTn : Hid ((l.take (headLen l - 2)).length = headLen l - 2) := by show _ = _; rw [List.length_take, Hn.out]; omega
  obtain ⟨b, o, rfl, -⟩ := hA.cell (i := 0) (by rw [Hn.out]; omega)
  have hs := fun w' (h : BytesA w' (some ⟨b, o, none⟩) (l.take (headLen l - 2))) => sum_spec (some ⟨b, o, none⟩) (l.take (headLen l - 2)) (headLen l - 2) cap w' h hTn (by omega) hmax
  have hwd := fun (g : Nat) w' (h0 : w'.cell? ⟨g, 0, none⟩ = some (.slice (some ⟨b, o, none⟩) n cap)) (h : BytesA w' (some ⟨b, o, none⟩) l) => word_spec g (some ⟨b, o, none⟩) l n cap (headLen l - 2) w' h0 h Hn (by omega) (by omega)
  rw [hc] at hs
  have HW := Lib.hid hw
  have HS := Lib.hid hs
  have HWD := Lib.hid hwd
  clear hw hs hwd he hc
  generalize wordAt l (headLen l - 2) = D at *
  generalize hlt : l.take (headLen l - 2) = lt at *
  have HLT := Lib.hid hlt
  clear hlt hT
  have hnn : headLen l = 18 + 10 * byteAt l 2 := rfl
  have hnl : headLen l = headLen l := rfl
  generalize hNN : headLen l = N at *
  have HNL : Hid (N = headLen l) := hNN.symm
  clear hNN hnl
  have HNN := Lib.hid hnn
  clear hnn
  have s4 : (N : Int) - 2 = ((N - 2 : Nat) : Int) := by omega
  have S4 := Lib.hid s4
  clear s4
  have s1 : IntKind.i64.wrap ((N : Int) - 2) = (N : Int) - 2 := IntWalk.i64_in _ (by omega)
  have s2 : ((N : Int) - 2).toNat = N - 2 := by omega
  have s3 : (0 : Int) ≤ (N : Int) - 2 := by omega
  go_enter Tryz.func49, Tryz.ntmps49
  go_upto_region 1 with (fail)
  obtain ⟨W, hW, o1, o2, hB, hS⟩ := boxes2 w 31 27 [.slice (some ⟨b, o, none⟩) n cap] [.int .u32 0, .int .i64 0, .int .i64 0, .int .i64 0, .float .f32 0, .slice none 0 0, .slice none 0 0]
  rw [← hW]
  clear hW
  have c10 := o1.cell 0 _ rfl
  go_wp2_with fail
  refine (HW.out W (hA.below hB (Nat.le_refl _)) Hn hcap hmax).mono ?_
  rintro e1 W1 ⟨_, rfl, rfl, hb1⟩
  clear c10
  have hsW1 : W.heap.size ≤ W1.heap.size := hb1.size; have hB := hB.trans (hb1.mono hB.size); have o1 := o1.below hb1 o1.lt; have o2 := o2.below hb1 o2.lt; have fo2 := o2.free; have co20 := o2.cell 0 _ rfl; have co21 := o2.cell 1 _ rfl; have co22 := o2.cell 2 _ rfl; have co23 := o2.cell 3 _ rfl; have co24 := o2.cell 4 _ rfl; have co25 := o2.cell 5 _ rfl; have co26 := o2.cell 6 _ rfl
  have c10 := o1.cell 0 _ rfl
  have hst := run_store_float
  go_wp2_with fail
  refine (HS.out W1 ((hA.below hB (Nat.le_refl _)).take' HLT.out)).mono ?_
  rintro e1 w' ⟨rfl, rfl⟩
  go_wp2_with fail
  rw [S4.out]
  refine (HWD.out w.heap.size W1 c10 (hA.below hB (Nat.le_refl _))).mono ?_
  rintro e1 w' ⟨rfl, k, rfl⟩
  have hb2 : Below W1.heap.size W1 (W1.drewN k) := below_drewN (Below.refl _ _) k
  clear c10 co20 co21 co22 co23 co24 co25 co26 fo2
  generalize W1.drewN k = W2 at *
  have hsW2 : W1.heap.size ≤ W2.heap.size := hb2.size; have hB := hB.trans (hb2.mono hB.size); have o1 := o1.below hb2 o1.lt; have o2 := o2.below hb2 o2.lt
  have c10 := o1.cell 0 _ rfl
  have hA2 := hA.below hB (Nat.le_refl _)
  obtain ⟨_, _, e, q0⟩ := hA2.cell (i := 0) (by rw [Hn.out]; omega)
  injection e with e; injection e with e1 e2; subst e1 e2
  obtain ⟨_, _, e, q1⟩ := hA2.cell (i := 1) (by rw [Hn.out]; omega)
  injection e with e; injection e with e1 e2; subst e1 e2
  obtain ⟨_, _, e, q2⟩ := hA2.cell (i := 2) (by rw [Hn.out]; omega)
  injection e with e; injection e with e1 e2; subst e1 e2
  obtain ⟨_, _, e, q3⟩ := hA2.cell (i := 3) (by rw [Hn.out]; omega)
  injection e with e; injection e with e1 e2; subst e1 e2
  obtain ⟨_, _, e, q4⟩ := hA2.cell (i := 4) (by rw [Hn.out]; omega)
  injection e with e; injection e with e1 e2; subst e1 e2
  obtain ⟨_, _, e, q5⟩ := hA2.cell (i := 5) (by rw [Hn.out]; omega)
  injection e with e; injection e with e1 e2; subst e1 e2
  obtain ⟨_, _, e, q6⟩ := hA2.cell (i := 6) (by rw [Hn.out]; omega)
  injection e with e; injection e with e1 e2; subst e1 e2
  obtain ⟨_, _, e, q7⟩ := hA2.cell (i := 7) (by rw [Hn.out]; omega)
  injection e with e; injection e with e1 e2; subst e1 e2
  obtain ⟨_, _, e, q8⟩ := hA2.cell (i := 8) (by rw [Hn.out]; omega)
  injection e with e; injection e with e1 e2; subst e1 e2
  obtain ⟨_, _, e, q9⟩ := hA2.cell (i := 9) (by rw [Hn.out]; omega)
  injection e with e; injection e with e1 e2; subst e1 e2
  obtain ⟨_, _, e, q10⟩ := hA2.cell (i := 10) (by rw [Hn.out]; omega)
  injection e with e; injection e with e1 e2; subst e1 e2
  obtain ⟨_, _, e, q11⟩ := hA2.cell (i := 11) (by rw [Hn.out]; omega)
  injection e with e; injection e with e1 e2; subst e1 e2
  obtain ⟨_, _, e, q12⟩ := hA2.cell (i := 12) (by rw [Hn.out]; omega)
  injection e with e; injection e with e1 e2; subst e1 e2
  obtain ⟨_, _, e, q13⟩ := hA2.cell (i := 13) (by rw [Hn.out]; omega)
  injection e with e; injection e with e1 e2; subst e1 e2
  obtain ⟨_, _, e, q14⟩ := hA2.cell (i := 14) (by rw [Hn.out]; omega)
  injection e with e; injection e with e1 e2; subst e1 e2
  obtain ⟨_, _, e, q15⟩ := hA2.cell (i := 15) (by rw [Hn.out]; omega)
  injection e with e; injection e with e1 e2; subst e1 e2
  simp only [Nat.add_zero] at q0
  have hat := fun w => run_arrayAt (P := Tryz.prog) w 154 _ 16 (some ⟨b, o, none⟩) 16 cap Tryz.underlying154 (Nat.le_refl _)
  go_upto_region 9 with (fail)
  obtain ⟨V, hV, o3, o4, hBV, hSV⟩ := boxes2 W2 154 27 (headCells l) [.int .u32 0, .int .i64 0, .int .i64 0, .int .i64 0, .float .f32 0, .slice none 0 0, .slice none 0 0]
  unfold headCells at hV
  rw [← hV]
  clear hV q0 q1 q2 q3 q4 q5 q6 q7 q8 q9 q10 q11 q12 q13 q14 q15 c10
  have hsV : W2.heap.size ≤ V.heap.size := hBV.size; have hB := hB.trans (hBV.mono hB.size); have o1 := o1.below hBV o1.lt; have o2 := o2.below hBV o2.lt
  have hz3 : W2.heap.size < V.heap.size := by omega
  have hz4 : W2.heap.size + 1 < V.heap.size := by omega
  have hne1 : w.heap.size ≠ W2.heap.size + 1 := by omega
  have hne2 : w.heap.size + 1 ≠ W2.heap.size + 1 := by omega
  have hne3 : W2.heap.size ≠ W2.heap.size + 1 := by omega
  have hg3 : w.heap.size + 2 ≤ W2.heap.size := by omega
  generalize W2.heap.size = g3 at *
  unfold headCells at o3
  have fo3 := o3.free; have co30 := o3.cell 0 _ rfl; have co31 := o3.cell 1 _ rfl; have co32 := o3.cell 2 _ rfl; have co33 := o3.cell 3 _ rfl; have co34 := o3.cell 4 _ rfl; have co35 := o3.cell 5 _ rfl; have co36 := o3.cell 6 _ rfl; have co37 := o3.cell 7 _ rfl; have co38 := o3.cell 8 _ rfl; have co39 := o3.cell 9 _ rfl; have co310 := o3.cell 10 _ rfl; have co311 := o3.cell 11 _ rfl; have co312 := o3.cell 12 _ rfl; have co313 := o3.cell 13 _ rfl; have co314 := o3.cell 14 _ rfl; have co315 := o3.cell 15 _ rfl
  go_wp2_with fail
  refine (fill_spec l (g3 + 1) V o4).mono ?_
  rintro e1 V1 ⟨rfl, o4, hgV1⟩
  replace o1 := o1.grown hgV1 hne1
  replace o2 := o2.grown hgV1 hne2
  replace o3 := o3.grown hgV1 hne3
  have hB := hB.grown hgV1 hB.size (fun j hj => by obtain rfl := Option.some.inj hj; omega)
  have hsz := hgV1.size
  clear co30 co31 co32 co33 co34 co35 co36 co37 co38 co39 co310 co311 co312 co313 co314 co315 fo3
  have fo3 := o3.free; have co30 := o3.cell 0 _ rfl; have co31 := o3.cell 1 _ rfl; have co32 := o3.cell 2 _ rfl; have co33 := o3.cell 3 _ rfl; have co34 := o3.cell 4 _ rfl; have co35 := o3.cell 5 _ rfl; have co36 := o3.cell 6 _ rfl; have co37 := o3.cell 7 _ rfl; have co38 := o3.cell 8 _ rfl; have co39 := o3.cell 9 _ rfl; have co310 := o3.cell 10 _ rfl; have co311 := o3.cell 11 _ rfl; have co312 := o3.cell 12 _ rfl; have co313 := o3.cell 13 _ rfl; have co314 := o3.cell 14 _ rfl; have co315 := o3.cell 15 _ rfl
  go_wp2_with fail
  refine (ports_spec l V1).mono ?_
  rintro e1 V2 ⟨_, rfl, rfl, hbV2⟩
  replace o1 := o1.below hbV2 o1.lt
  replace o2 := o2.below hbV2 o2.lt
  replace o3 := o3.below hbV2 o3.lt
  replace o4 := o4.below hbV2 o4.lt
  have hB := hB.trans (hbV2.mono hB.size)
  have hsz2 := hbV2.size
  clear co30 co31 co32 co33 co34 co35 co36 co37 co38 co39 co310 co311 co312 co313 co314 co315 fo3
  go_wp2_with fail
  have hbase3 : g3 + 1 < V2.heap.size := o4.lt
  have hbase1 : w.heap.size + 1 < V2.heap.size := o2.lt
  have hN8 := byteAt_lt l 2
  have hN3 : 18 + 10 * byteAt l 2 ≤ N := by have := HNN.out; omega
  have hI : DecInv w l (some ⟨b, o, none⟩) n cap w.heap.size g3 V2.heap.size 0 0 V2 := ⟨_, _, ⟨o1, o2, o3, o4, hB⟩, World.ownsRow_nil _ _ _ _, World.ownsRow_nil _ _ _ _, Nat.le_refl _⟩
  clear o1 o2 o3 o4 hB
  generalize V2.heap.size = base at *
  go_loopg [41] (byteAt l 2) (fun g s41 wr => ∃ k : Nat, k + g = byteAt l 2 ∧ s41 = .int .i64 (k : Int) ∧ DecInv w l (some ⟨b, o, none⟩) n cap w.heap.size g3 base k k wr)
  case atStart => exact ⟨0, Nat.zero_add _, rfl, hI⟩
  case round =>
    clear hI
    obtain ⟨k, hk, rfl, vm, vp, ⟨o1, o2, o3, o4, hB⟩, hm, hp, hbs⟩ := hrel
    by_cases hlt : k < byteAt l 2
    · have hAr := hA.below hB (Nat.le_refl _)
      have hI : DecInv w l (some ⟨b, o, none⟩) n cap w.heap.size g3 base k k wr := ⟨vm, vp, ⟨o1, o2, o3, o4, hB⟩, hm, hp, hbs⟩
      clear o1 o2 o3 o4 hm hp
      go_upto_region 14 with (fail)
      refine only_of (reg14 l (some ⟨b, o, none⟩) n cap w.heap.size g3 base k w wr hI (by omega) hbase3 hAr Hn (by omega) (by omega) (by omega) ?_)
      clear hI
      intro wa x47 x48 x49 x50 x51 x52 x53 x54 x55 hI
      have hAa := hA.below hI.below (Nat.le_refl _)
      try simp only [Exit.then]
      go_upto_region 15 with (fail)
      refine only_of (reg15 l (some ⟨b, o, none⟩) n cap w.heap.size g3 base k w wa hI (by omega) hbase3 hAa Hn (by omega) (by omega) (by omega) ?_)
      clear hI hAa
      intro wb x56 x57 x58 x59 x60 x61 x62 x63 x64 x65 x66 x67 x68 x69 x70 x71 x72 x73 x74 x75 x76 x77 x78 x79 x80 x81 x82 x83 hI
      try simp only [Exit.then]
      go_wp2_with fail
      go_roundg (gk - 1)
      case measure => omega
      case rel => exact ⟨k + 1, by omega, by go_num, hI⟩
    · have hkk : k = byteAt l 2 := by omega
      subst hkk
      obtain ⟨am, cm, rfl⟩ : ∃ am cm, vm = .slice am (byteAt l 2) cm := by
        rcases hm.2 with ⟨h, h0⟩ | ⟨g, cap, cur, h, _⟩
        · exact ⟨none, 0, by rw [h, h0]⟩
        · exact ⟨_, _, h⟩
      obtain ⟨ap, cp, rfl⟩ : ∃ ap cp, vp = .slice ap (byteAt l 2) cp := by
        rcases hp.2 with ⟨h, h0⟩ | ⟨g, cap, cur, h, _⟩
        · exact ⟨none, 0, by rw [h, h0]⟩
        · exact ⟨_, _, h⟩
      have hrep := dec_rep hm hp
      have HRep := Lib.hid hrep
      clear hrep
      have c311 := o3.cell 11 _ rfl
      have fo2 := o2.free; have co20 := o2.cell 0 _ rfl; have co21 := o2.cell 1 _ rfl; have co22 := o2.cell 2 _ rfl; have co23 := o2.cell 3 _ rfl; have co24 := o2.cell 4 _ rfl; have co25 := o2.cell 5 _ rfl; have co26 := o2.cell 6 _ rfl
      have fo4 := o4.free; have co40 := o4.cell 0 _ rfl; have co41 := o4.cell 1 _ rfl; have co42 := o4.cell 2 _ rfl; have co43 := o4.cell 3 _ rfl; have co44 := o4.cell 4 _ rfl; have co45 := o4.cell 5 _ rfl; have co46 := o4.cell 6 _ rfl
      have hst := run_store_float
      by_cases h11 : byteAt l 11 = 0
      · have h11' : ((byteAt l 11 : Int) != 0) = false := by simp; omega
        have H11 := Lib.hid h11
        clear h11
        go_wp2_with fail
        refine (valid_spec _ (decFr l) wr HRep.out).mono ?_
        rintro e1 Wv ⟨_, rfl, rfl, hbv⟩
        clear co20 co21 co22 co23 co24 co25 co26 fo2 co40 co41 co42 co43 co44 co45 co46 fo4 c311
        replace o2 := o2.below hbv o2.lt
        replace o4 := o4.below hbv o4.lt
        replace hm := row_below hm hbv
        replace hp := row_below hp hbv
        have hB := hB.trans (hbv.mono hB.size)
        have fo2 := o2.free; have co20 := o2.cell 0 _ rfl; have co21 := o2.cell 1 _ rfl; have co22 := o2.cell 2 _ rfl; have co23 := o2.cell 3 _ rfl; have co24 := o2.cell 4 _ rfl; have co25 := o2.cell 5 _ rfl; have co26 := o2.cell 6 _ rfl
        have fo4 := o4.free; have co40 := o4.cell 0 _ rfl; have co41 := o4.cell 1 _ rfl; have co42 := o4.cell 2 _ rfl; have co43 := o4.cell 3 _ rfl; have co44 := o4.cell 4 _ rfl; have co45 := o4.cell 5 _ rfl; have co46 := o4.cell 6 _ rfl
        cases hv : (decFr l).valid
        · have hd := fun W => dec_one (w := W) HPost.out (.inr hv)
          have HD := Lib.hid hd
          clear hd
          go_wp2_with fail
          exact bodyPost_ret (by simp [results, Tryz.results49, go_sem, co20, co21, co22, co23, co24, co25, co26, fo2]) rfl ⟨_, rfl, HD.out _, below7 hB (by omega)⟩
        · have HV := Lib.hid hv
          go_wp2_with fail
          exact bodyPost_ret (by simp [results, Tryz.results49, go_sem, co20, co21, co22, co23, co24, co25, co26, fo2]) rfl ⟨_, rfl, dec_zero HNL.out HPost.out H11.out HV.out (dec_rep (row7 hm (by omega)) (row7 hp (by omega))), below7 hB (by omega)⟩
      · have h11' : ((byteAt l 11 : Int) != 0) = true := by simp only [bne_iff_ne, ne_eq]; omega
        have hd := fun W => dec_one (w := W) HPost.out (.inl h11)
        have HD := Lib.hid hd
        clear hd h11
        go_wp2_with fail
        exact bodyPost_ret (by simp [results, Tryz.results49, go_sem, co20, co21, co22, co23, co24, co25, co26, fo2]) rfl ⟨_, rfl, HD.out _, below7 hB (by omega)⟩

/-- Decode, whatever the bytes. -/
theorem decode_spec (a : Option Addr) (l : List UInt8) (n cap : Nat) (w : World) (hA : BytesA w a l) (Hn : Hid (l.length = n)) (hcap : n ≤ cap) (hmax : cap ≤ 9223372036854775807) :
    Calls Tryz.prog 49 #[.slice a n cap] w (Ret w fun w' v' => DecPost l w' v') := by
  by_cases he : headErr l = 0
  · by_cases hc : crc (l.take (headLen l - 2)) = wordAt l (headLen l - 2)
    · exact decode_loop a l n cap w hA Hn hcap hmax he hc
    · exact decode_sum a l n cap w hA Hn hcap hmax he hc
  · exact decode_head a l n cap w hA Hn hcap hmax he
end Go.Proofs.YtohnlmfmpflbpaaGreat
