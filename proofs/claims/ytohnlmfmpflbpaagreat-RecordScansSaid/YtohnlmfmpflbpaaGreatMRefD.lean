/- The reference's Decode, whatever the bytes. Conditions: none. -/
import Derived.Test.YtohnlmfmpflbpaaGreatMRefA
import Derived.Test.YtohnlmfmpflbpaaGreatMRefH
import Derived.Test.YtohnlmfmpflbpaaGreatMRefN
import Derived.Test.YtohnlmfmpflbpaaGreatMRefP
import Derived.Test.YtohnlmfmpflbpaaGreatMRefQ
import Derived.Deep.CutRange
set_option linter.unusedSimpArgs false
set_option linter.unusedVariables false
set_option linter.all false
namespace Go.Proofs.YtohnlmfmpflbpaaGreat
open Go.RowKit

set_option maxRecDepth 100000 in
set_option maxHeartbeats 3200000 in
theorem refDec_loop (a : Option Addr) (l : List UInt8) (n cap : Nat) (w : World) (hA : BytesA w a l) (Hn : Hid (l.length = n)) (hcap : n ≤ cap) (hmax : cap ≤ 9223372036854775807) (he : headErr l = 0) :
    Calls Tryz.prog 47 #[.slice a n cap] w (Ret w fun w' v' => DecPost l w' v') := by
  have hf : formErr l = false := by
    cases h : formErr l
    · rfl
    · unfold headErr at he; rw [if_pos h] at he; cases he
  have hN : 3 ≤ n ∧ headLen l ≤ n := by
    unfold headErr at he
    rw [if_neg (by rw [hf]; decide)] at he
    split at he
    · cases he
    · rename_i h; rw [Hn.out] at h; omega
  obtain ⟨hn3, hN1⟩ := hN
  have hx : byteAt l 0 = 87 ∧ byteAt l 1 = 86 ∧ 1 ≤ byteAt l 2 ∧ byteAt l 2 ≤ 8 := by
    unfold formErr at hf
    rw [decide_eq_false_iff_not, Hn.out] at hf
    omega
  obtain ⟨x0, x1, x2, x3⟩ := hx
  have hlen : headLen l = 18 + 10 * byteAt l 2 := rfl
  have HLEN := Lib.hid hlen
  have hst := run_store_float
  obtain ⟨b, o, rfl, q0⟩ := hA.cell (i := 0) (by rw [Hn.out]; omega)
  obtain ⟨_, _, e, q1⟩ := hA.cell (i := 1) (by rw [Hn.out]; omega)
  injection e with e
  injection e with e1 e2
  subst e1 e2
  obtain ⟨_, _, e, q2⟩ := hA.cell (i := 2) (by rw [Hn.out]; omega)
  injection e with e
  injection e with e1 e2
  subst e1 e2
  rw [Nat.add_zero, x0] at q0
  rw [x1] at q1
  have HP1 : crc (l.take (headLen l - 2)) ≠ wordAt l (headLen l - 2) → decErr l = 31 := fun hc => by unfold decErr; rw [if_neg (by omega), if_pos hc]
  have HP2 : crc (l.take (headLen l - 2)) = wordAt l (headLen l - 2) → decErr l = if byteAt l 11 ≠ 0 ∨ (decFr l).valid = false then 1 else 0 := fun hc => by unfold decErr; rw [if_neg (by omega), if_neg (by rw [hc]; simp)]
  have HP1 := Lib.hid HP1
  have HP2 := Lib.hid HP2
  clear he hf x0 x1
  obtain ⟨N, hNN⟩ : ∃ N, N = headLen l := ⟨_, rfl⟩
  rw [← hNN] at HP1 HP2 hN1 hlen
  have HNN := Lib.hid hNN
  clear hNN
  obtain ⟨P, hP⟩ : ∃ P, P = byteAt l 2 := ⟨_, rfl⟩
  rw [← hP] at q2 x2 x3 hlen
  have HPP := Lib.hid hP
  clear hP
  have hN18 : 18 + 10 * (P : Int) = (N : Int) := by omega
  have hw1 : IntKind.i64.wrap (10 * (P : Int)) = 10 * (P : Int) := IntWalk.i64_in _ (by omega)
  have hw2 : IntKind.i64.wrap (18 + 10 * (P : Int)) = (N : Int) := by rw [hN18]; exact IntWalk.i64_in _ (by omega)
  have HN18 := Lib.hid hN18
  clear hN18
  have hNle : ¬ ((n : Int) < (N : Int)) := by omega
  have hNge : 28 ≤ N := by omega
  have g2 : decide ((P : Int) < 1) = false := by rw [decide_eq_false_iff_not]; omega
  have g3 : decide (8 < (P : Int)) = false := by rw [decide_eq_false_iff_not]; omega
  have g4 : decide ((n : Int) < 3) = false := by rw [decide_eq_false_iff_not]; omega
  have g5 : decide ((n : Int) < (N : Int)) = false := by rw [decide_eq_false_iff_not]; omega
  go_enter Tryz.func47, Tryz.ntmps47
  go_upto_region 1 with (fail)
  obtain ⟨W, hW, o2, hB, hS⟩ := boxes1 w 27 [.int .u32 0, .int .i64 0, .int .i64 0, .int .i64 0, .float .f32 0, .slice none 0 0, .slice none 0 0]
  rw [← hW]
  clear hW
  replace q0 := (hB.cell (p := ⟨_, _, none⟩) (World.block_lt_of_cell? w _ q0)).trans q0
  replace q1 := (hB.cell (p := ⟨_, _, none⟩) (World.block_lt_of_cell? w _ q1)).trans q1
  replace q2 := (hB.cell (p := ⟨_, _, none⟩) (World.block_lt_of_cell? w _ q2)).trans q2
  have hA0 := hA
  have hA := hA.below hB (Nat.le_refl _)
  go_upto_region 7 with (fail)
  rw [HN18.out]
  obtain ⟨M, hM⟩ : ∃ M, M = N - 2 := ⟨_, rfl⟩
  rw [← hM] at HP1 HP2
  have hT := hA.take M
  have hTn : Hid ((l.take M).length = M) := by show _ = _; rw [List.length_take, Hn.out]; omega
  have HS := Lib.hid (refSum_spec (some ⟨b, o, none⟩) (l.take M) M cap W.drew hT hTn (by omega) hmax)
  have HR := Lib.hid (read_two b o l n cap M W.drew hA Hn (by omega) hcap hmax)
  have hC := crc_lt (l.take M)
  have hD := wordAt_lt l M
  generalize crc (l.take M) = C at *
  generalize wordAt l M = D at *
  have s1 : IntKind.i64.wrap ((N : Int) - 2) = (M : Int) := by rw [show (N : Int) - 2 = (M : Int) by omega]; exact IntWalk.i64_in _ (by omega)
  have s4 : (M : Int) ≤ (N : Int) := by omega
  have s5 : (N : Int) ≤ (cap : Int) := by omega
  have s6 : (M : Int) ≤ (cap : Int) := by omega
  have s7 : ¬ (cap = M) := by omega
  have t4 : M ≤ N := by omega
  have t5 : N ≤ cap := by omega
  have t6 : M ≤ cap := by omega
  have t7 : ¬ cap < M := by omega
  have t8 : ¬ cap < N := by omega
  have t9 : ¬ N < M := by omega
  have s8 : N - M = 2 := by omega
  have s9 : IntKind.i64.wrap (C : Int) = (C : Int) := IntWalk.i64_in _ (by omega)
  clear hM
  clear hT hTn hlen
  have tok1 : True := trivial
  have tok2 : True := trivial
  go_region_held3 (fun _ => True) (trivial) (first
    | (go_simp; go_at_call 33; have _t := tok1; (with_reducible refine HS.out.mono ?_); rintro e1 w' ⟨rfl, rfl⟩; clear tok1 _t)
    | (go_simp; go_at_call 72; have _t := tok2; (with_reducible refine HR.out.mono ?_); rintro e1 w' ⟨rfl, rfl⟩; clear tok2 _t))
  try simp only [Exit.then]
  have o2 : Own W.drew 27 w.heap.size [.int .u32 0, .int .i64 0, .int .i64 0, .int .i64 0, .float .f32 0, .slice none 0 0, .slice none 0 0] := o2
  have hB := hB.drew
  have hA : BytesA W.drew (some ⟨b, o, none⟩) l := hA
  clear s1 s4 s5 s6 s7 t4 t5 t6 t7 t8 t9 s8 s9 HS HR
  by_cases hcd : C = D
  · have hcd' : ((C : Int) != (D : Int)) = false := by simp; omega
    have HPost := Lib.hid (HP2.out hcd)
    clear HP1 HP2 hcd
    go_upto_region 9 with (fail)
    have hsz0 : w.heap.size + 1 ≤ W.drew.heap.size := hS
    refine only_of (rreg9 l b o n cap W.drew hA Hn (by omega) hcap hmax ?_)
    intro W3 x84 x85 x86 x87 x88 x89 x90 x91 x92 x93 x94 x95 x96 x97 x98 x99 x100 x101 x102 x103 x104 o7 hb3 hlt3
    try simp only [Exit.then]
    replace o2 := o2.below hb3 o2.lt
    have hB := hB.trans (hb3.mono hB.size)
    have hA := hA.below hb3 (Nat.le_refl _)
    clear hb3 q0 q1 q2 hcd' hS
    generalize W.drew.heap.size = g7 at *
    have hI : RInv w l w.heap.size g7 W3.heap.size 0 0 W3 := ⟨_, _, ⟨o2, o7, hB⟩, World.ownsRow_nil _ _ _ _, World.ownsRow_nil _ _ _ _, Nat.le_refl _⟩
    clear o2 o7 hB
    generalize W3.heap.size = base at *
    have HA := Lib.hid (show BytesA w (some ⟨b, o, none⟩) l from hA0)
    clear hA
    go_wp2_with fail
    go_loopw [8] (fun iv wr => ∃ k : Nat, k ≤ P ∧ iv = .int .i64 (k : Int) ∧ RInv w l w.heap.size g7 base k k wr) (fun i _ => P - (intOf i).toNat)
    case atStart => exact ⟨0, Nat.zero_le _, rfl, hI⟩
    case round =>
      clear hI
      obtain ⟨k, hk, rfl, hI⟩ := hrel
      by_cases hlt : k < P
      · obtain ⟨A, hAk⟩ : ∃ A, A = 16 + 10 * k := ⟨_, rfl⟩
        have hAn : A + 10 ≤ n := by have := HN18.out; omega
        have HAk := Lib.hid hAk
        have HAz := Lib.hid (show (16 + 10 * (k : Int)) = (A : Int) by omega)
        clear hAk
        go_upto_region 14 with (fail)
        rw [HAz.out]
        refine only_of (rreg14 l b o n cap w.heap.size g7 base k A w wr hI (by omega) hlt3 (HA.out.below hI.below (Nat.le_refl _)) Hn HAk.out (by omega) hAn hcap hmax ?_)
        clear hI
        intro wa x113 x114 x115 x116 x117 x118 x119 x120 x121 x122 x123 hI
        try simp only [Exit.then]
        go_upto_region 15 with (fail)
        refine only_of (rreg15 l b o n cap w.heap.size g7 base k A w wa hI (by omega) hlt3 (HA.out.below hI.below (Nat.le_refl _)) Hn HAk.out (by omega) hAn hcap hmax ?_)
        clear hI
        intro wb x124 x125 x126 x127 x128 x129 x130 x131 x132 x133 x134 x135 x136 x137 x138 x139 x140 x141 x142 x143 x144 x145 x146 x147 x148 x149 x150 x151 hI
        try simp only [Exit.then]
        go_wp2_with fail
        go_roundw
        case rel => exact ⟨k + 1, by omega, by go_num, hI⟩
        case measure => simp [intOf]; omega
      · have hkk : k = P := by omega
        subst hkk
        have hPP := HPP.out
        subst hPP
        obtain ⟨vm, vp, ⟨o2, o7, hB⟩, hm, hp, hbs⟩ := hI
        obtain ⟨am, cm, rfl⟩ : ∃ am cm, vm = .slice am (byteAt l 2) cm := by
          rcases hm.2 with ⟨h, h0⟩ | ⟨g, cap, cur, h, _⟩
          · exact ⟨none, 0, by rw [h, h0]⟩
          · exact ⟨_, _, h⟩
        obtain ⟨ap, cp, rfl⟩ : ∃ ap cp, vp = .slice ap (byteAt l 2) cp := by
          rcases hp.2 with ⟨h, h0⟩ | ⟨g, cap, cur, h, _⟩
          · exact ⟨none, 0, by rw [h, h0]⟩
          · exact ⟨_, _, h⟩
        have HRep := Lib.hid (dec_rep hm hp)
        obtain ⟨_, _, e, q11⟩ := (HA.out.below hB (Nat.le_refl _)).cell (i := 11) (by rw [Hn.out]; omega)
        injection e with e
        injection e with e1 e2
        subst e1 e2
        have fo2 := o2.free; have co20 := o2.cell 0 _ rfl; have co21 := o2.cell 1 _ rfl; have co22 := o2.cell 2 _ rfl; have co23 := o2.cell 3 _ rfl; have co24 := o2.cell 4 _ rfl; have co25 := o2.cell 5 _ rfl; have co26 := o2.cell 6 _ rfl
        have fo7 := o7.free; have co70 := o7.cell 0 _ rfl; have co71 := o7.cell 1 _ rfl; have co72 := o7.cell 2 _ rfl; have co73 := o7.cell 3 _ rfl; have co74 := o7.cell 4 _ rfl; have co75 := o7.cell 5 _ rfl; have co76 := o7.cell 6 _ rfl
        have j11 : (11 : Int) < (n : Int) := by omega
        have hst := run_store_float
        by_cases h11 : byteAt l 11 = 0
        · have h11' : ((byteAt l 11 : Int) != 0) = false := by simp; omega
          have H11 := Lib.hid h11
          clear h11
          go_wp2_with fail
          refine (rvalid_spec _ (decFr l) wr HRep.out).mono ?_
          rintro e1 Wv ⟨_, rfl, rfl, hbv⟩
          clear co20 co21 co22 co23 co24 co25 co26 fo2 co70 co71 co72 co73 co74 co75 co76 fo7 q11
          replace o2 := o2.below hbv o2.lt
          replace o7 := o7.below hbv o7.lt
          replace hm := row_below hm hbv
          replace hp := row_below hp hbv
          have hB := hB.trans (hbv.mono hB.size)
          have fo2 := o2.free; have co20 := o2.cell 0 _ rfl; have co21 := o2.cell 1 _ rfl; have co22 := o2.cell 2 _ rfl; have co23 := o2.cell 3 _ rfl; have co24 := o2.cell 4 _ rfl; have co25 := o2.cell 5 _ rfl; have co26 := o2.cell 6 _ rfl
          have fo7 := o7.free; have co70 := o7.cell 0 _ rfl; have co71 := o7.cell 1 _ rfl; have co72 := o7.cell 2 _ rfl; have co73 := o7.cell 3 _ rfl; have co74 := o7.cell 4 _ rfl; have co75 := o7.cell 5 _ rfl; have co76 := o7.cell 6 _ rfl
          cases hv : (decFr l).valid
          · have HD := Lib.hid (fun W => dec_one (w := W) HPost.out (.inr hv))
            go_wp2_with fail
            exact bodyPost_ret (by simp [results, Tryz.results47, go_sem, co20, co21, co22, co23, co24, co25, co26, fo2]) rfl ⟨_, rfl, HD.out _, below7 hB (Nat.le_refl _)⟩
          · have HV := Lib.hid hv
            go_wp2_with fail
            exact bodyPost_ret (by simp [results, Tryz.results47, go_sem, co20, co21, co22, co23, co24, co25, co26, fo2]) rfl ⟨_, rfl, dec_zero HNN.out HPost.out H11.out HV.out (dec_rep (row7 hm (by omega)) (row7 hp (by omega))), below7 hB (Nat.le_refl _)⟩
        · have h11' : ((byteAt l 11 : Int) != 0) = true := by simp only [bne_iff_ne, ne_eq]; omega
          have HD := Lib.hid (fun W => dec_one (w := W) HPost.out (.inl h11))
          clear h11
          go_wp2_with fail
          exact bodyPost_ret (by simp [results, Tryz.results47, go_sem, co20, co21, co22, co23, co24, co25, co26, fo2]) rfl ⟨_, rfl, HD.out _, below7 hB (Nat.le_refl _)⟩
  · have hcd' : ((C : Int) != (D : Int)) = true := by simp; omega
    have HD := Lib.hid (fun w => dec_bad (w := w) (HP1.out hcd) (by omega))
    clear hcd HP1 HP2
    generalize W.drew = W4 at *
    have fo2 := o2.free; have co20 := o2.cell 0 _ rfl; have co21 := o2.cell 1 _ rfl; have co22 := o2.cell 2 _ rfl; have co23 := o2.cell 3 _ rfl; have co24 := o2.cell 4 _ rfl; have co25 := o2.cell 5 _ rfl; have co26 := o2.cell 6 _ rfl
    go_wp2_with fail
    exact bodyPost_ret (by simp [results, Tryz.results47, go_sem, co20, co21, co22, co23, co24, co25, co26, fo2]) rfl ⟨_, rfl, HD.out _, below7 hB (Nat.le_refl _)⟩

/-- The reference's Decode, whatever the bytes. -/
theorem refDecode_spec (a : Option Addr) (l : List UInt8) (n cap : Nat) (w : World) (hA : BytesA w a l) (Hn : Hid (l.length = n)) (hcap : n ≤ cap) (hmax : cap ≤ 9223372036854775807) :
    Calls Tryz.prog 47 #[.slice a n cap] w (Ret w fun w' v' => DecPost l w' v') := by
  by_cases he : headErr l = 0
  · exact refDec_loop a l n cap w hA Hn hcap hmax he
  · exact refDec_head a l n cap w hA Hn hcap hmax he
end Go.Proofs.YtohnlmfmpflbpaaGreat
