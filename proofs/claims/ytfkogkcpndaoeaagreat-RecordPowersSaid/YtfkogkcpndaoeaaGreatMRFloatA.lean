/- Floats as the reference's numbers: finite, dyadic. Conditions: the float is a number. The reference's nearest floats: NatBit, float, split. Conditions: fewer than 2^30 bits. -/
import Derived.Test.YtfkogkcpndaoeaaGreatMF32
import Derived.Test.YtfkogkcpndaoeaaGreatMFloatR
import Derived.Test.YtfkogkcpndaoeaaGreatMRQB
import Derived.Test.YtfkogkcpndaoeaaGreatMRQM
set_option linter.all false
namespace Go.Proofs.YtfkogkcpndaoeaaGreat
open Go.RowKit
set_option maxHeartbeats 800000 in
theorem rfin64_spec (b : Nat) (w : World) (hb : b < 18446744073709551616) (hf : fexp b ≠ 2047) :
    Calls Tryz.prog 163 #[.float .f64 b] w (fun e w' => e = .returned (.bool true) ∧ w = w') := by
  have hrun := run_fb64
  have h2 := and_exp (b / 4503599627370496) (by omega)
  have hd : (b : Int) / 4503599627370496 = (b / 4503599627370496 : Nat) := by omega
  have he : fexp b < 2048 := Nat.mod_lt _ (by omega)
  rw [show b / 4503599627370496 % 2048 = fexp b from rfl] at h2
  generalize fexp b = ex at *
  generalize b / 4503599627370496 = b1 at *
  have hx : ((ex : Int) != 2047) = true := by simp; omega
  go_enter Tryz.func163, Tryz.ntmps163
  go_wp2_with fail
  go_ret
  exact ⟨rfl, rfl⟩
theorem fq_high {b : Nat} (h : 1074 ≤ fup b) : cq (fz b * (2 ^ (fup b - 1074) : Nat)) 0 1 = ⟨fq b, 0⟩ :=
  CQ.ext (fq_over (z := fz b) (u := fup b) (k := 0) (e := fup b - 1074) (by omega)) (show ((0 : Int) : Rat) / _ = 0 by rw [Rat.div_def]; simp)
theorem fq_low {b : Nat} (h : fup b < 1074) : cq (fz b) 0 (2 ^ (1074 - fup b)) = ⟨fq b, 0⟩ := by
  refine CQ.ext ?_ (show ((0 : Int) : Rat) / _ = 0 by rw [Rat.div_def]; simp)
  have := fq_over (z := fz b) (u := fup b) (k := 1074 - fup b) (e := 0) (by omega)
  rw [Nat.pow_zero, show ((1 : Nat) : Int) = 1 from rfl, Int.mul_one] at this
  exact this
theorem q_end_old {w V : World} {E : TypeId} {g gN : Nat} {z : Int} {x : CQ} {s0 b0 b2 : Bool} {a1 x1 x3 x4 : Option Addr} {l1 c1 y1 z1 y3 z3 y4 z4 : Nat} (hu : WholeRep V (.agg #[.bool s0, .slice a1 l1 c1]) z) (oN : Own V 28 gN [.int .u32 1])
    (o : Own V E g [.bool b0, .slice x1 y1 z1, .bool b2, .slice x3 y3 z3, .slice x4 y4 z4]) (hB : Below w.heap.size w V) (hg : w.heap.size ≤ g) (e : cq z 0 1 = x) :
    Ret w (fun w' v' => QRep w' v' x) (.returned (.agg #[.bool s0, .slice a1 l1 c1, .bool false, .slice none 0 0, .slice (some ⟨gN, 0, none⟩) 1 1])) (((((V.setCell ⟨g, 0, none⟩ (.bool s0)).setCell ⟨g, 1, none⟩ (.slice a1 l1 c1)).setCell ⟨g, 2, none⟩ (.bool false)).setCell ⟨g, 3, none⟩ (.slice none 0 0)).setCell ⟨g, 4, none⟩ (.slice (some ⟨gN, 0, none⟩) 1 1)) := by
  obtain ⟨hs, hn⟩ := hu.sign
  exact q_end (E := E) (g := g) ⟨z, 0, 1, ⟨_, _, _, by rw [hs]; rfl, hn, NatRep.zero, nat_own oN, low_whole z⟩, rfl⟩ o hB hg e
theorem q_end_new {w V : World} {E : TypeId} {g : Nat} {z : Int} {x : CQ} {s0 b0 b2 : Bool} {a1 x1 x3 x4 : Option Addr} {l1 c1 y1 z1 y3 z3 y4 z4 : Nat} (hu : WholeRep V (.agg #[.bool s0, .slice a1 l1 c1]) z)
    (o : Own V E g [.bool b0, .slice x1 y1 z1, .bool b2, .slice x3 y3 z3, .slice x4 y4 z4]) (hB : Below w.heap.size w V) (hg : w.heap.size ≤ g) (e : cq z 0 1 = x) :
    Ret w (fun w' v' => QRep w' v' x) (.returned (.agg #[.bool s0, .slice a1 l1 c1, .bool false, .slice none 0 0, .slice (some ⟨V.heap.size, 0, none⟩) 1 1])) ((((((V.setCell ⟨g, 0, none⟩ (.bool s0)).setCell ⟨g, 1, none⟩ (.slice a1 l1 c1)).setCell ⟨g, 2, none⟩ (.bool false)).setCell ⟨g, 3, none⟩ (.slice none 0 0)).setCell ⟨g, 4, none⟩ (.slice (some ⟨V.heap.size, 0, none⟩) 1 1)).alloc (.cells #[.int .u32 1] 28)) := by
  subst e
  obtain ⟨hs, hn⟩ := hu.sign
  have h5 : NatRep (((((V.setCell ⟨g, 0, none⟩ (.bool s0)).setCell ⟨g, 1, none⟩ (.slice a1 l1 c1)).setCell ⟨g, 2, none⟩ (.bool false)).setCell ⟨g, 3, none⟩ (.slice none 0 0)).setCell ⟨g, 4, none⟩ (.slice (some ⟨V.heap.size, 0, none⟩) 1 1)) (.slice a1 l1 c1) z.natAbs :=
    ((((hn.put o rfl 0 _).put (o.set 0 _) rfl 1 _).put ((o.set 0 _).set 1 _) rfl 2 _).put (((o.set 0 _).set 1 _).set 2 _) rfl 3 _).put ((((o.set 0 _).set 1 _).set 2 _).set 3 _) rfl 4 _
  have hb5 := below5 (g := g) (v0 := .bool s0) (v1 := .slice a1 l1 c1) (v2 := .bool false) (v3 := .slice none 0 0) (v4 := .slice (some ⟨V.heap.size, 0, none⟩) 1 1) hB hg
  refine ⟨_, rfl, ⟨z, 0, 1, ⟨_, _, _, by rw [hs]; rfl, h5.below ((Below.refl _ _).alloc (Nat.le_refl _) _) (Nat.le_refl _), NatRep.zero, nat_one' (by simp [World.setCell]), low_whole z⟩, rfl⟩, hb5.alloc hb5.size _⟩
set_option maxRecDepth 100000 in
set_option maxHeartbeats 1600000 in
theorem dyadic_spec (b : Nat) (w : World) (hb : b < 18446744073709551616) :
    Calls Tryz.prog 164 #[.float .f64 b] w (Ret w fun w' v' => QRep w' v' ⟨fq b, 0⟩) := by
  have hrun := run_fb64
  have h1 := and_man b hb
  have h2 := and_exp (b / 4503599627370496) (by omega)
  have hd : (b : Int) / 4503599627370496 = (b / 4503599627370496 : Nat) := by omega
  have hm0 : b % 4503599627370496 < 4503599627370496 := Nat.mod_lt _ (by omega)
  have h3 := or_man _ hm0
  have hn : ((b : Int) / 9223372036854775808 == 1) = fneg b := by
    unfold fneg; rw [Bool.eq_iff_iff, beq_iff_eq, decide_eq_true_iff]; omega
  have he : fexp b < 2048 := Nat.mod_lt _ (by omega)
  have hup : Hid (fup b = max (fexp b) 1 - 1) := rfl
  have hfm : Hid (fman b = if fexp b = 0 then b % 4503599627370496 else b % 4503599627370496 + 4503599627370496) := rfl
  have HZ : Hid (fz b = sgn (fneg b) (fman b)) := rfl
  have hzs := fz_small b
  have H1 := Lib.hid (fq_high (b := b))
  have H2 := Lib.hid (fq_low (b := b))
  have hmb : fman b < 9007199254740992 := by rw [hfm.out]; split <;> omega
  rw [show b / 4503599627370496 % 2048 = fexp b from rfl] at h2
  generalize fq b = qv at *
  generalize fz b = z at *
  generalize fup b = p at *
  generalize fman b = M at *
  generalize fexp b = ex at *
  generalize b % 4503599627370496 = m0 at *
  generalize b / 4503599627370496 = b1 at *
  generalize fneg b = sg at *
  obtain ⟨M2, hM2⟩ : ∃ M2, M2 = m0 + 4503599627370496 := ⟨_, rfl⟩
  rw [← hM2] at h3 hfm
  have hM2b : M2 < 18446744073709551616 := by omega
  have HM2 := Lib.hid hM2
  clear hM2
  have hp1 : p < 2047 := by have := hup.out; omega
  go_enter Tryz.func164, Tryz.ntmps164
  go_upto_region 1 with (fail)
  obtain ⟨W, hW, o1, hB, hS⟩ := boxes1 w 46 [.bool false, .slice none 0 0, .bool false, .slice none 0 0, .slice none 0 0]
  rw [← hW]
  clear hW
  go_upto_region 4 with (fail)
  go_upto_if 16 with (fail)
  go_cut [4, 5] (fun s4 s5 wx => s4 = .int .i64 ((p : Int) + 1) ∧ s5 = .int .u64 (M : Int) ∧ wx = W)
  case first =>
    rcases Nat.eq_zero_or_pos ex with h0 | h0
    · subst h0
      rw [if_pos rfl] at hfm
      obtain rfl : p = 0 := by have := hup.out; omega
      obtain rfl : M = m0 := hfm.out
      go_wp2_with fail
      go_meet
      exact ⟨rfl, rfl, rfl⟩
    · have h0' : ((ex : Int) == 0) = false := by simp; omega
      rw [if_neg (by omega)] at hfm
      have hpe : (ex : Int) = (p : Int) + 1 := by have := hup.out; omega
      have HPE := Lib.hid hpe
      clear hpe
      go_wp2_with fail
      go_meet
      exact ⟨int_of HPE.out, int_of (by rw [hfm.out]), rfl⟩
  case rest =>
    obtain ⟨rfl, rfl, rfl⟩ := hcut
    clear hrun h1 h2 h3 hd hm0 he hup hfm HM2 hM2b
    go_wp2_with fail
    refine (rnatOf_spec M wc (by omega)).mono ?_
    rintro e W1 ⟨v1, rfl, hv1, hb1⟩
    have hsW1 : wc.heap.size ≤ W1.heap.size := hb1.size; have hB := hB.trans (hb1.mono hB.size); have o1 := o1.below hb1 o1.lt
    go_wp2_with fail
    refine (rsigned_spec sg v1 M W1 hv1).mono ?_
    rintro e W2 ⟨_, rfl, hw2, hb2⟩
    rw [← HZ.out] at hw2
    obtain ⟨s, a, l, c, rfl, _, hs⟩ := hw2.open
    have hsW2 : W1.heap.size ≤ W2.heap.size := hb2.size; have hB := hB.trans (hb2.mono hB.size); have o1 := o1.below hb2 o1.lt
    go_upto_region 8 with (fail)
    obtain ⟨V, hV, o6, hBV, hSV⟩ := boxes1 W2 44 [.bool s, .slice a l c]
    rw [← hV]
    clear hV
    have hB := hB.trans (hBV.mono hB.size)
    have o1 := o1.below hBV o1.lt; have hw2 := hw2.below hBV (Nat.le_refl _)
    obtain ⟨hsz, hna⟩ := hw2.sign
    have Hsz := Lib.hid hsz
    clear hsz hs
    have hVs := hBV.size
    by_cases hp : 1074 ≤ p
    · have HQ := Lib.hid (H1.out hp)
      obtain ⟨q, hq⟩ : ∃ q : Nat, q = p - 1074 := ⟨_, rfl⟩
      have hqi : IntKind.i64.wrap ((p : Int) + 1 - 1075) = (q : Int) := by rw [IntWalk.i64_in _ (by omega)]; omega
      have hq2 : q ≤ 1000 := by omega
      rw [← hq] at HQ
      have HS : Hid (sgn s (z.natAbs * 2 ^ q) = z * (2 ^ q : Nat)) := show _ = _ by rw [Hsz.out]; exact sgn_cplx z (2 ^ q)
      have hz64 : z.natAbs < 2 ^ 64 := hzs
      clear hq H1 H2
      go_upto_region 9 with (fail)
      have F1 := Lib.hid (fun w h => rshl_spec (.slice a l c) z.natAbs q 64 w h hz64 (by omega) (by omega))
      have F2 := Lib.hid (fun v w h => rsigned_spec s v (z.natAbs * 2 ^ q) w h)
      clear hw2 hz64 hzs
      generalize z.natAbs = nz at *
      have qo60 := o6.cell 0 _ rfl; have qo61 := o6.cell 1 _ rfl
      have o1 : Own V.drew _ _ _ := o1; have o6 : Own V.drew _ _ _ := o6
      have lto1 : _ < V.heap.size := o1.lt; have lto6 : _ < V.heap.size := o6.lt
      have hnaA := hna.below (((Below.refl V.heap.size V).alloc (Nat.le_refl _) (.cells #[.int .u32 1] 28)).drew) (Nat.le_refl _)
      have hna := hna.below ((Below.refl V.heap.size V).drew) (Nat.le_refl _)
      have hone0 := nat_own (w := (V.alloc (.cells #[.int .u32 1] 28)).drew) (own_new V 28 [.int .u32 1])
      have tok1 : True := trivial
      have tok2 : True := trivial
      have tokA : True := trivial
      have hB := hB.drew
      go_region_held3 (fun w' => w'.cell? ⟨W2.heap.size, 0, none⟩ = some (.bool s) ∧ w'.cell? ⟨W2.heap.size, 1, none⟩ = some (.slice a l c)) (first | (with_reducible exact ⟨o6.cell 0 _ rfl, o6.cell 1 _ rfl⟩) | (simp [go_sem, qo60, qo61, lto6]; done))
        (first
          | (go_at_call 185; have _t := tok1; (with_reducible refine (F1.out V.drew hna).mono ?_); rintro e V1 ⟨v3, rfl, hv3, hbb⟩; (try (have oN := Own.below (w := V.drew) oN hbb oN.lt)); have hsV1 : V.heap.size ≤ V1.heap.size := hbb.size; have hB := hB.trans (hbb.mono hB.size); have o1 := Own.below (w := V.drew) o1 hbb lto1; have lto1 := o1.lt; have o6 := Own.below (w := V.drew) o6 hbb lto6; have lto6 := o6.lt; have qo60 := o6.cell 0 _ rfl; have qo61 := o6.cell 1 _ rfl; have hna := hna.below (B := V.drew.heap.size) hbb (Nat.le_refl _); clear tok1 _t)
          | (go_at_call 185; have _t := tok1; have _a := tokA; (with_reducible refine (F1.out ((V.alloc (.cells #[.int .u32 1] 28)).drew) hnaA).mono ?_); rintro e V1 ⟨v3, rfl, hv3, hbc⟩; have oN := Own.below (w := ((V.alloc (.cells #[.int .u32 1] 28)).drew)) (own_new V 28 [.int .u32 1]) hbc (own_new V 28 [.int .u32 1]).lt; have hbb : Below V.drew.heap.size V.drew V1 := ext_step ((Below.refl V.drew.heap.size V.drew).alloc (Nat.le_refl _) (.cells #[.int .u32 1] 28)) hbc; have hsV1 : V.heap.size ≤ V1.heap.size := hbb.size; have hB := hB.trans (hbb.mono hB.size); have o1 := Own.below (w := V.drew) o1 hbb lto1; have lto1 := o1.lt; have o6 := Own.below (w := V.drew) o6 hbb lto6; have lto6 := o6.lt; have qo60 := o6.cell 0 _ rfl; have qo61 := o6.cell 1 _ rfl; have hna := hna.below (B := V.drew.heap.size) hbb (Nat.le_refl _); clear tok1 _t tokA _a)
          | (go_at_call 156; have _t := tok2; (with_reducible refine (F2.out _ V1 hv3).mono ?_); rintro e V2 ⟨u2, rfl, hu2, hbb⟩; (try (have oN := Own.below (w := V1) oN hbb oN.lt)); have hsV2 : V1.heap.size ≤ V2.heap.size := hbb.size; have hB := hB.trans (hbb.mono hB.size); have o1 := Own.below (w := V1) o1 hbb lto1; have lto1 := o1.lt; have o6 := Own.below (w := V1) o6 hbb lto6; have lto6 := o6.lt; have qo60 := o6.cell 0 _ rfl; have qo61 := o6.cell 1 _ rfl; have hna := hna.below (B := V1.heap.size) hbb (Nat.le_refl _); have hv3 := hv3.below (B := V1.heap.size) hbb (Nat.le_refl _); rw [HS.out] at hu2; obtain ⟨t1, t2, t3, t4, rfl, _, _⟩ := hu2.open; have fo1 := o1.free; have co10 := o1.cell 0 _ rfl; have co11 := o1.cell 1 _ rfl; have co12 := o1.cell 2 _ rfl; have co13 := o1.cell 3 _ rfl; have co14 := o1.cell 4 _ rfl; clear tok2 _t)
          | (go_at_call 156; have _t := tok2; have _a := tokA; (with_reducible refine (F2.out _ (V1.alloc (.cells #[.int .u32 1] 28)) (hv3.below ((Below.refl V1.heap.size V1).alloc (Nat.le_refl _) (.cells #[.int .u32 1] 28)) (Nat.le_refl _))).mono ?_); rintro e V2 ⟨u2, rfl, hu2, hbc⟩; have oN := Own.below (w := (V1.alloc (.cells #[.int .u32 1] 28))) (own_new V1 28 [.int .u32 1]) hbc (own_new V1 28 [.int .u32 1]).lt; have hbb : Below V1.heap.size V1 V2 := ext_step ((Below.refl V1.heap.size V1).alloc (Nat.le_refl _) (.cells #[.int .u32 1] 28)) hbc; have hsV2 : V1.heap.size ≤ V2.heap.size := hbb.size; have hB := hB.trans (hbb.mono hB.size); have o1 := Own.below (w := V1) o1 hbb lto1; have lto1 := o1.lt; have o6 := Own.below (w := V1) o6 hbb lto6; have lto6 := o6.lt; have qo60 := o6.cell 0 _ rfl; have qo61 := o6.cell 1 _ rfl; have hna := hna.below (B := V1.heap.size) hbb (Nat.le_refl _); have hv3 := hv3.below (B := V1.heap.size) hbb (Nat.le_refl _); rw [HS.out] at hu2; obtain ⟨t1, t2, t3, t4, rfl, _, _⟩ := hu2.open; have fo1 := o1.free; have co10 := o1.cell 0 _ rfl; have co11 := o1.cell 1 _ rfl; have co12 := o1.cell 2 _ rfl; have co13 := o1.cell 3 _ rfl; have co14 := o1.cell 4 _ rfl; clear tok2 _t tokA _a))
      all_goals go_wp2_with fail
      all_goals have ltw := o1.lt
      all_goals first
        | (have hfin := q_end_old (w := w) hu2 oN o1 hB (by omega) HQ.out; exact bodyPost_ret (by simp [results, Tryz.results164, go_sem, co10, co11, co12, co13, co14]) rfl hfin)
        | (have hfin := q_end_new (w := w) hu2 o1 hB (by omega) HQ.out; exact bodyPost_ret (by simp [results, Tryz.results164, go_sem, co10, co11, co12, co13, co14, ltw]) rfl hfin)
    · have HQ := Lib.hid (H2.out (by omega))
      obtain ⟨q, hq⟩ : ∃ q : Nat, q = 1074 - p := ⟨_, rfl⟩
      have hqi : IntKind.i64.wrap (1075 - ((p : Int) + 1)) = (q : Int) := by rw [IntWalk.i64_in _ (by omega)]; omega
      have hq2 : q ≤ 1074 := by omega
      have hlp : (p : Int) + 1 < 1075 := by omega
      rw [← hq] at HQ
      obtain ⟨KK, hKK⟩ : ∃ KK : Nat, KK = 1100 := ⟨_, rfl⟩
      have hK1 : 1100 ≤ KK := by omega
      have hK2 : KK ≤ 2000 := by omega
      clear hKK
      have HZK := Lib.hid (pow_step hzs (show 64 ≤ KK by omega))
      have h2q : 1 * 2 ^ q < 2 ^ KK := by rw [Nat.one_mul]; exact Nat.pow_lt_pow_right (by omega) (by omega)
      have h2p : 0 < 1 * 2 ^ q := by rw [Nat.one_mul]; exact Nat.two_pow_pos _
      have HQ2 : Hid (cq z 0 (1 * 2 ^ q) = (⟨qv, 0⟩ : CQ)) := show _ = _ by rw [Nat.one_mul]; exact HQ.out
      have F1 := Lib.hid (fun v w h => rshl_spec v 1 q 1 w h (by omega) (by omega) (by omega))
      have F2 := Lib.hid (fun v w h hx => make_spec (.agg #[.bool s, .slice a l c]) (.agg #[.bool false, .slice none 0 0]) v z 0 (1 * 2 ^ q) KK w h whole_zero hx h2p HZK.out (Nat.two_pow_pos _) h2q (by omega))
      clear h2q h2p HQ HZK hna
      clear hq H1 H2 hzs hp
      go_upto_region 10 with (fail)
      have qo60 := o6.cell 0 _ rfl; have qo61 := o6.cell 1 _ rfl
      have o1 : Own V.drew _ _ _ := o1; have o6 : Own V.drew _ _ _ := o6
      have lto1 : _ < V.heap.size := o1.lt; have lto6 : _ < V.heap.size := o6.lt
      have hw2A := hw2.below (((Below.refl V.heap.size V).alloc (Nat.le_refl _) (.cells #[.int .u32 1] 28)).drew) (Nat.le_refl _)
      have hw2 := hw2.below ((Below.refl V.heap.size V).drew) (Nat.le_refl _)
      have hone0 := nat_own (w := (V.alloc (.cells #[.int .u32 1] 28)).drew) (own_new V 28 [.int .u32 1])
      have tok1 : True := trivial
      have tok2 : True := trivial
      have tokA : True := trivial
      have hB := hB.drew
      go_region_held3 (fun w' => w'.cell? ⟨W2.heap.size, 0, none⟩ = some (.bool s) ∧ w'.cell? ⟨W2.heap.size, 1, none⟩ = some (.slice a l c)) (first | (with_reducible exact ⟨o6.cell 0 _ rfl, o6.cell 1 _ rfl⟩) | (simp [go_sem, qo60, qo61, lto6]; done))
        (first
          | (go_at_call 185; have _t := tok1; (with_reducible refine (F1.out _ V.drew (nat_own oN)).mono ?_); rintro e V1 ⟨v3, rfl, hv3, hbb⟩; (try (have oN := Own.below (w := V.drew) oN hbb oN.lt)); have hsV1 : V.heap.size ≤ V1.heap.size := hbb.size; have hB := hB.trans (hbb.mono hB.size); have o1 := Own.below (w := V.drew) o1 hbb lto1; have lto1 := o1.lt; have o6 := Own.below (w := V.drew) o6 hbb lto6; have lto6 := o6.lt; have qo60 := o6.cell 0 _ rfl; have qo61 := o6.cell 1 _ rfl; have hw2 := hw2.below (B := V.drew.heap.size) hbb (Nat.le_refl _); clear tok1 _t)
          | (go_at_call 185; have _t := tok1; have _a := tokA; (with_reducible refine (F1.out _ ((V.alloc (.cells #[.int .u32 1] 28)).drew) hone0).mono ?_); rintro e V1 ⟨v3, rfl, hv3, hbc⟩; have oN := Own.below (w := ((V.alloc (.cells #[.int .u32 1] 28)).drew)) (own_new V 28 [.int .u32 1]) hbc (own_new V 28 [.int .u32 1]).lt; have hbb : Below V.drew.heap.size V.drew V1 := ext_step ((Below.refl V.drew.heap.size V.drew).alloc (Nat.le_refl _) (.cells #[.int .u32 1] 28)) hbc; have hsV1 : V.heap.size ≤ V1.heap.size := hbb.size; have hB := hB.trans (hbb.mono hB.size); have o1 := Own.below (w := V.drew) o1 hbb lto1; have lto1 := o1.lt; have o6 := Own.below (w := V.drew) o6 hbb lto6; have lto6 := o6.lt; have qo60 := o6.cell 0 _ rfl; have qo61 := o6.cell 1 _ rfl; have hw2 := hw2.below (B := V.drew.heap.size) hbb (Nat.le_refl _); clear tok1 _t tokA _a)
          | (go_at_call 99; have _t := tok2; (with_reducible refine (F2.out _ V1 hw2 hv3).mono ?_); rintro e V2 ⟨u8, rfl, hu8, hbb⟩; (try (have oN := Own.below (w := V1) oN hbb oN.lt)); have hsV2 : V1.heap.size ≤ V2.heap.size := hbb.size; have hB := hB.trans (hbb.mono hB.size); have o1 := Own.below (w := V1) o1 hbb lto1; have lto1 := o1.lt; have o6 := Own.below (w := V1) o6 hbb lto6; have lto6 := o6.lt; have qo60 := o6.cell 0 _ rfl; have qo61 := o6.cell 1 _ rfl; have hw2 := hw2.below (B := V1.heap.size) hbb (Nat.le_refl _); have hv3 := hv3.below (B := V1.heap.size) hbb (Nat.le_refl _); obtain ⟨_, _, _, _, _, _, _, _, _, _, _, rfl⟩ := hu8.open; have fo1 := o1.free; have co10 := o1.cell 0 _ rfl; have co11 := o1.cell 1 _ rfl; have co12 := o1.cell 2 _ rfl; have co13 := o1.cell 3 _ rfl; have co14 := o1.cell 4 _ rfl; clear tok2 _t)
          | (go_at_call 99; have _t := tok2; have _a := tokA; (with_reducible refine (F2.out _ (V1.alloc (.cells #[.int .u32 1] 28)) (hw2.below ((Below.refl V1.heap.size V1).alloc (Nat.le_refl _) (.cells #[.int .u32 1] 28)) (Nat.le_refl _)) (hv3.below ((Below.refl V1.heap.size V1).alloc (Nat.le_refl _) (.cells #[.int .u32 1] 28)) (Nat.le_refl _))).mono ?_); rintro e V2 ⟨u8, rfl, hu8, hbc⟩; have oN := Own.below (w := (V1.alloc (.cells #[.int .u32 1] 28))) (own_new V1 28 [.int .u32 1]) hbc (own_new V1 28 [.int .u32 1]).lt; have hbb : Below V1.heap.size V1 V2 := ext_step ((Below.refl V1.heap.size V1).alloc (Nat.le_refl _) (.cells #[.int .u32 1] 28)) hbc; have hsV2 : V1.heap.size ≤ V2.heap.size := hbb.size; have hB := hB.trans (hbb.mono hB.size); have o1 := Own.below (w := V1) o1 hbb lto1; have lto1 := o1.lt; have o6 := Own.below (w := V1) o6 hbb lto6; have lto6 := o6.lt; have qo60 := o6.cell 0 _ rfl; have qo61 := o6.cell 1 _ rfl; have hw2 := hw2.below (B := V1.heap.size) hbb (Nat.le_refl _); have hv3 := hv3.below (B := V1.heap.size) hbb (Nat.le_refl _); obtain ⟨_, _, _, _, _, _, _, _, _, _, _, rfl⟩ := hu8.open; have fo1 := o1.free; have co10 := o1.cell 0 _ rfl; have co11 := o1.cell 1 _ rfl; have co12 := o1.cell 2 _ rfl; have co13 := o1.cell 3 _ rfl; have co14 := o1.cell 4 _ rfl; clear tok2 _t tokA _a))
      go_wp2_with fail
      have hfin := q_end (w := w) hu8 o1 hB (by omega) HQ2.out
      exact bodyPost_ret (by simp [results, Tryz.results164, go_sem, co10, co11, co12, co13, co14]) rfl hfin
theorem i_cq : cq 0 1 1 = ⟨0, 1⟩ := CQ.ext (show ((0 : Int) : Rat) / _ = 0 by rw [Rat.div_def]; simp) (show ((1 : Int) : Rat) / (((1 : Nat) : Int) : Rat) = 1 by have h : (((1 : Nat) : Int) : Rat) ≠ 0 := rat_ne (by omega); grind)
theorem cplx_eq (x y : Rat) : CQ.add ⟨x, 0⟩ (CQ.mul ⟨y, 0⟩ (cq 0 1 1)) = ⟨x, y⟩ := by
  rw [i_cq]
  unfold CQ.add CQ.mul
  refine CQ.ext ?_ ?_ <;> simp only <;> grind
theorem zero_over (x : Rat) : ((0 : Int) : Rat) / x = 0 := by rw [Rat.div_def]; simp
theorem small_pow {z : Int} {L K : Nat} (h : z.natAbs < 2 ^ K) (hl : L < K) : Small K (cq z 0 (2 ^ L)) := small_mk (Nat.two_pow_pos _) h (Nat.two_pow_pos _) (Nat.pow_lt_pow_right (by omega) hl)
theorem fq_small (b : Nat) (hf : fexp b ≠ 2047) : Small 4000 ⟨fq b, 0⟩ := by
  obtain ⟨KK, hKK⟩ : ∃ KK : Nat, KK = 4000 := ⟨_, rfl⟩
  rw [← hKK]
  have hK : 3000 ≤ KK := by omega
  clear hKK
  have h1 : fup b < 2047 := (fup_eq b).2
  have e : (⟨fq b, 0⟩ : CQ) = cq (fz b * (2 ^ fup b : Nat)) 0 (2 ^ 1074) := CQ.ext rfl (zero_over _).symm
  rw [e]
  have h2 : (fz b * (2 ^ fup b : Nat)).natAbs < 2 ^ KK := Nat.lt_of_lt_of_le (mul_pow_small (fz_small b) (Nat.le_refl (fup b))) (Nat.pow_le_pow_right (by omega) (by omega))
  exact small_pow (L := 1074) h2 (by omega)
set_option maxRecDepth 100000 in
set_option maxHeartbeats 1600000 in
theorem rcomplex_spec (b c : Nat) (w : World) (hb : b < 18446744073709551616) (hc : c < 18446744073709551616) (hfb : fexp b ≠ 2047) (hfc : fexp c ≠ 2047) :
    Calls Tryz.prog 106 #[.complex .f64 b c] w (Ret w fun w' v' => ∃ u, v' = .tuple #[u, .int .i64 0] ∧ QRep w' u ⟨fq b, fq c⟩) := by
  have hsb := fq_small b hfb
  have hsc := fq_small c hfc
  have HFin := Lib.hid (cplx_eq (fq b) (fq c))
  have D1 := Lib.hid (fun w => dyadic_spec b w hb)
  have D2 := Lib.hid (fun w => dyadic_spec c w hc)
  obtain ⟨KK, hKK⟩ : ∃ KK : Nat, KK = 4000 := ⟨_, rfl⟩
  rw [← hKK] at hsb hsc
  have hK1 : 4000 ≤ KK := by omega
  have hK2 : KK ≤ 5000 := by omega
  clear hKK
  generalize fq b = qb at *
  generalize fq c = qc at *
  have hsi : Small KK (cq 0 1 1) := small_mk (by omega) (Nat.two_pow_pos _) (Nat.one_lt_two_pow (by omega)) (Nat.one_lt_two_pow (by omega))
  have F1 := Lib.hid (fun v u w h h' => qmul_spec v u ⟨qc, 0⟩ (cq 0 1 1) KK w h h' hsc hsi (by omega))
  have F2 := Lib.hid (fun v u w h h' => qadd_spec v u ⟨qb, 0⟩ (CQ.mul ⟨qc, 0⟩ (cq 0 1 1)) (2 * KK + 1) w h h' (hsb.mono (by omega)) (hsc.mul hsi) (by omega))
  clear hsb hsc hsi
  go_enter Tryz.func106, Tryz.ntmps106
  go_upto_region 1 with (fail)
  obtain ⟨W, hW, o1, hB, hS⟩ := boxes1 w 46 [.bool false, .slice none 0 0, .bool false, .slice none 0 0, .slice none 0 0]
  rw [← hW]
  clear hW
  go_wp2_with fail
  refine (rfin64_spec b W hb hfb).mono ?_
  rintro e w' ⟨rfl, rfl⟩
  go_wp2_with fail
  refine (rfin64_spec c W hc hfc).mono ?_
  rintro e w' ⟨rfl, rfl⟩
  go_wp2_with fail
  refine (D1.out W).mono ?_
  rintro e W1 ⟨u1, rfl, hu1, hb1⟩
  obtain ⟨_, _, _, _, _, _, _, _, _, _, _, rfl⟩ := hu1.open
  have hsW1 : W.heap.size ≤ W1.heap.size := hb1.size; have hB := hB.trans (hb1.mono hB.size); have o1 := o1.below hb1 o1.lt
  go_wp2_with fail
  refine (D2.out W1).mono ?_
  rintro e W2 ⟨u2, rfl, hu2, hb2⟩
  obtain ⟨_, _, _, _, _, _, _, _, _, _, _, rfl⟩ := hu2.open
  have hsW2 : W1.heap.size ≤ W2.heap.size := hb2.size; have hB := hB.trans (hb2.mono hB.size); have o1 := o1.below hb2 o1.lt; have hu1 := hu1.below hb2 (Nat.le_refl _)
  go_wp2_with fail
  refine (rintOf_spec 1 W2 (by omega) (by omega)).mono ?_
  rintro e W3 ⟨u3, rfl, ⟨hu3, -⟩, hb3⟩
  obtain ⟨s3, a3, l3, c3, rfl, -, -⟩ := hu3.open
  have hsW3 : W2.heap.size ≤ W3.heap.size := hb3.size; have hB := hB.trans (hb3.mono hB.size); have o1 := o1.below hb3 o1.lt; have hu1 := hu1.below hb3 (Nat.le_refl _); have hu2 := hu2.below hb3 (Nat.le_refl _)
  obtain ⟨V, hV, oN, hBV, hSV⟩ := boxes1 W3 28 [.int .u32 1]
  go_wp2_with fail
  rw [← hV]
  clear hV
  have hB := hB.trans (hBV.mono hB.size)
  have o1 := o1.below hBV o1.lt; have hu1 := hu1.below hBV (Nat.le_refl _); have hu2 := hu2.below hBV (Nat.le_refl _); have hu3 := hu3.below hBV (Nat.le_refl _)
  obtain ⟨hs3, hn3⟩ := hu3.sign
  have hi : QRep V (.agg #[.bool false, .slice none 0 0, .bool s3, .slice a3 l3 c3, .slice (some ⟨W3.heap.size, 0, none⟩) 1 1]) (cq 0 1 1) :=
    ⟨0, 1, 1, ⟨_, _, _, by rw [hs3]; rfl, NatRep.zero, hn3, nat_own oN, by simp [Low]⟩, rfl⟩
  clear hs3 hn3 hu3
  refine (F1.out _ _ V hu2 hi).mono ?_
  rintro e W4 ⟨u4, rfl, hu4, hb4⟩
  obtain ⟨_, _, _, _, _, _, _, _, _, _, _, rfl⟩ := hu4.open
  have hsW4 : V.heap.size ≤ W4.heap.size := hb4.size; have hB := hB.trans (hb4.mono hB.size); have o1 := o1.below hb4 o1.lt; have hu1 := hu1.below hb4 (Nat.le_refl _)
  go_wp2_with fail
  refine (F2.out _ _ W4 hu1 hu4).mono ?_
  rintro e W5 ⟨u5, rfl, hu5, hb5⟩
  obtain ⟨_, _, _, _, _, _, _, _, _, _, _, rfl⟩ := hu5.open
  have hsW5 : W4.heap.size ≤ W5.heap.size := hb5.size; have hB := hB.trans (hb5.mono hB.size); have o1 := o1.below hb5 o1.lt; have fo1 := o1.free; have co10 := o1.cell 0 _ rfl; have co11 := o1.cell 1 _ rfl; have co12 := o1.cell 2 _ rfl; have co13 := o1.cell 3 _ rfl; have co14 := o1.cell 4 _ rfl
  go_wp2_with fail
  have hfin := q_pair (w := w) (r := .int .i64 0) hu5 o1 hB (Nat.le_refl _) HFin.out
  exact bodyPost_ret (by simp [results, Tryz.results106, go_sem, co10, co11, co12, co13, co14]) rfl hfin
def Widens1 (s S : Nat) : Prop := ∀ w, (convert 31 169 (.float .f32 s)).run Tryz.prog w = .ok (.float .f64 S) w
set_option maxRecDepth 100000 in
set_option maxHeartbeats 1600000 in
theorem rcomplex64_spec (s t S T : Nat) (w : World) (hs : Widens1 s S) (ht : Widens1 t T) (hb : S < 18446744073709551616) (hc : T < 18446744073709551616) (hfb : fexp S ≠ 2047) (hfc : fexp T ≠ 2047) :
    Calls Tryz.prog 52 #[.complex .f32 s t] w (Ret w fun w' v' => ∃ u, v' = .tuple #[u, .int .i64 0] ∧ QRep w' u ⟨fq S, fq T⟩) := by
  unfold Widens1 at hs ht
  have hcp := fun w => rcomplex_spec S T w hb hc hfb hfc
  generalize fq S = qS at *
  generalize fq T = qT at *
  have HC := Lib.hid hcp
  clear hcp hfb hfc hb hc
  go_enter Tryz.func52, Tryz.ntmps52
  go_upto_region 1 with (fail)
  obtain ⟨W, hW, o1, hB, hS⟩ := boxes1 w 46 [.bool false, .slice none 0 0, .bool false, .slice none 0 0, .slice none 0 0]
  rw [← hW]
  clear hW
  go_wp2_with fail
  refine (HC.out W).mono ?_
  rintro e W1 ⟨_, rfl, ⟨u, rfl, hu⟩, hb1⟩
  obtain ⟨_, _, _, _, _, _, _, _, _, _, _, rfl⟩ := hu.open
  have hsW1 : W.heap.size ≤ W1.heap.size := hb1.size; have hB := hB.trans (hb1.mono hB.size); have o1 := o1.below hb1 o1.lt; have fo1 := o1.free; have co10 := o1.cell 0 _ rfl; have co11 := o1.cell 1 _ rfl; have co12 := o1.cell 2 _ rfl; have co13 := o1.cell 3 _ rfl; have co14 := o1.cell 4 _ rfl
  go_wp2_with fail
  have hfin := q_pair (w := w) (r := .int .i64 0) hu o1 hB (Nat.le_refl _) rfl
  exact bodyPost_ret (by simp [results, Tryz.results52, go_sem, co10, co11, co12, co13, co14]) rfl hfin
end Go.Proofs.YtfkogkcpndaoeaaGreat
namespace Go.Proofs.YtfkogkcpndaoeaaGreat
open Go.RowKit
theorem nval_even {xs : List Nat} {x : Nat} (h : xs[0]? = some x) : nval xs % 2 = x % 2 := by
  have := drop_step h
  rw [List.drop_zero] at this
  omega
set_option maxHeartbeats 400000 in
theorem rbit0_spec (v : Value) (n : Nat) (w : World) (h : NatRep w v n) :
    Calls Tryz.prog 146 #[v, .int .i64 0] w (RetQ w fun v' => v' = .int .u32 ((n % 2 : Nat) : Int)) := by
  obtain ⟨xs, h1, h2, rfl⟩ := h
  obtain ⟨a, lx, cx, rfl, Hlx, hlcx, hmx, hX, wX⟩ := h1.any
  by_cases hx0 : lx = 0
  · subst hx0
    have e : xs = [] := List.eq_nil_of_length_eq_zero Hlx.out
    go_enter Tryz.func146, Tryz.ntmps146
    go_wp2
    go_ret
    subst e
    exact ⟨_, rfl, by simp [nval], rfl⟩
  · have hl0 : 0 < lx := by omega
    obtain ⟨x, hx⟩ := get_lt Hlx (i := 0) hl0
    obtain ⟨b, o, rfl, hc⟩ := hX.at hx
    rw [Nat.add_zero] at hc
    have hxb := wX _ (List.mem_of_getElem? hx)
    have He := Lib.hid (nval_even hx)
    have hand : bits .and .u32 (x : Int) 1 = ((x % 2 : Nat) : Int) := by
      rw [show (1 : Int) = ((1 : Nat) : Int) from rfl, u32_and_nat _ _ hxb (by omega), Nat.and_one_is_mod]
    obtain ⟨r, hr⟩ : ∃ r, r = x % 2 := ⟨_, rfl⟩
    rw [← hr] at hand
    have Hr := Lib.hid hr
    have hlx : ¬ ((lx : Int) ≤ 0) := by omega
    clear hx hr
    go_enter Tryz.func146, Tryz.ntmps146
    go_wp2
    go_ret
    exact ⟨_, rfl, int_of (by have := He.out; have := Hr.out; omega), rfl⟩
def infW : Nat := 9218868437227405312
theorem run_ffinf (w : World) : (callFunc 187 #[.int .u64 9218868437227405312]).run Tryz.prog w = .ok (.value (.float .f64 infW)) w := run_ff64 infW w
set_option maxRecDepth 100000 in
set_option maxHeartbeats 400000 in
theorem inf_spec (w : World) : Calls Tryz.prog 150 #[.int .i64 1] w (fun e w' => e = .returned (.float .f64 infW) ∧ w = w') := by
  have hrun := run_ffinf
  go_enter Tryz.func150, Tryz.ntmps150
  go_wp2_with fail
  go_ret
  exact ⟨rfl, rfl⟩
theorem rung_over {g : Int} {x : Nat} (h1 : 4503599627370496 ≤ x) (h2 : 2046 < g + 1075) : rung Ieee.double g x = infW := by
  unfold rung
  rw [lp_double, bin_double, inf_double]
  refine Nat.min_eq_right ?_
  have h3 : 2046 ≤ (g - -1074).toNat := by omega
  have h4 := Nat.mul_le_mul_right 4503599627370496 h3
  refine Nat.le_trans ?_ (Nat.add_le_add h4 h1)
  exact Nat.le_of_ble_eq_true rfl
theorem rung_low {x : Nat} (h : x < 4503599627370496) : rung Ieee.double (-1074) x = x := by
  unfold rung
  rw [lp_double, bin_double, inf_double, show ((-1074 : Int) - -1074).toNat = 0 from rfl, Nat.zero_mul, Nat.zero_add]
  exact Nat.min_eq_left (by omega)
theorem rung_mid {p m x : Nat} (hx : x = 4503599627370496 + m) (hm : m < 4503599627370496) (hp : p ≤ 2045) : rung Ieee.double ((p : Int) - 1074) x = (p + 1) * 4503599627370496 + m := by
  unfold rung
  rw [lp_double, bin_double, inf_double, show ((p : Int) - 1074 - -1074).toNat = p by omega, hx, Nat.add_mul, Nat.one_mul, Nat.add_assoc]
  refine Nat.min_eq_left ?_
  exact Nat.le_trans (Nat.add_le_add (Nat.mul_le_mul_right 4503599627370496 hp) (Nat.add_le_add_left (Nat.le_of_lt hm) 4503599627370496)) (Nat.le_of_ble_eq_true rfl)
theorem or_mid {p m : Nat} (hm : m < 4503599627370496) (hp : p ≤ 2045) : bits .or .u64 (((p : Int) + 1) * 4503599627370496) (m : Int) = (((p + 1) * 4503599627370496 + m : Nat) : Int) := by
  have h4 := Nat.mul_le_mul_right 4503599627370496 (show p + 1 ≤ 2046 by omega)
  have e := Nat.two_pow_add_eq_or_of_lt (i := 52) (b := m) (by simpa using hm) (p + 1)
  rw [show ((p : Int) + 1) * 4503599627370496 = ((2 ^ 52 * (p + 1) : Nat) : Int) by rw [Int.natCast_mul, Int.mul_comm]; rfl, u64_or_nat _ _ (by omega) (by omega), ← e, Nat.mul_comm]
theorem float_end {n x : Nat} {e g : Int} {j : Nat} (hn : 0 < n) (hx : x = n * 2 ^ j) (hg : g = e - j) (hlt : x < 9007199254740992) (hlow : -1074 ≤ g) (hc : 4503599627370496 ≤ x ∨ g = -1074) : Ieee.double.nearest false n e = rung Ieee.double g x := by
  have hs : SameVal n e x g := ⟨j, 0, by rw [hx]; simp, by omega⟩
  rw [nearest_same Ieee.double false hs, nearest_digits Ieee.double false g x (by rw [p53]; omega) (by rw [lp_double]; omega) (by rw [lp_double, p52]; exact hc), word_false]
set_option maxRecDepth 100000 in
set_option maxHeartbeats 1600000 in
theorem float_spec (v : Value) (n : Nat) (e : Int) (w : World) (h : NatRep w v n) (hn : 0 < n) (hn2 : n < 9007199254740992) (he : -1074 ≤ e) (he2 : e ≤ 100000) :
    Calls Tryz.prog 151 #[v, .int .i64 e] w (fun x w' => x = .returned (.float .f64 (Ieee.double.nearest false n e)) ∧ Below w.heap.size w w') := by
  obtain ⟨xs, h1, h2, rfl⟩ := h
  obtain ⟨a, lx, cx, rfl, Hlx, hlcx, hmx, hX, wX⟩ := h1.any
  have hrun := run_ff64
  have hl0 : lx ≠ 0 := fun h0 => by
    have h3 := Hlx.out
    rw [h0] at h3
    rw [List.eq_nil_of_length_eq_zero h3] at hn
    simp [nval] at hn
  have hl2 : lx ≤ 2 := by
    have h3 := len_of_lt h2 (k := 53) (by omega)
    rw [Hlx.out] at h3
    omega
  have hl1 : ((lx : Int) == 0) = false := by simp; omega
  obtain ⟨N, hN⟩ : ∃ N, N = nval xs := ⟨_, rfl⟩
  rw [← hN] at hn hn2 ⊢
  have HN := Lib.hid hN
  clear hN
  go_enter Tryz.func151, Tryz.ntmps151
  go_wp2
  go_loop [5, 6] (fun xv iv => ∃ k y : Nat, k ≤ lx ∧ iv = .int .i64 ((k : Int) - 1) ∧ xv = .int .u64 (y : Int) ∧ y < 9007199254740992 ∧ Hid (y = nval (xs.drop k))) (fun _ iv => (intOf iv + 1).toNat)
  case atStart => exact ⟨lx, 0, Nat.le_refl _, rfl, rfl, by omega, show _ = _ by rw [List.drop_of_length_le (by rw [Hlx.out]; omega)]; rfl⟩
  case round =>
    obtain ⟨k, y, hk, rfl, rfl, hyb, Hy⟩ := hrel
    by_cases hk0 : k = 0
    · subst hk0
      obtain rfl : y = N := by rw [Hy.out, List.drop_zero, HN.out]
      clear Hy
      go_wp2
      go_loop [1, 5] (fun ev xv => ∃ (j x : Nat) (g : Int), ev = .int .i64 g ∧ xv = .int .u64 (x : Int) ∧ x < 9007199254740992 ∧ Hid (x = y * 2 ^ j) ∧ g = e - j ∧ -1074 ≤ g) (fun ev _ => (intOf ev + 1074).toNat)
      case atStart => exact ⟨0, y, e, rfl, rfl, hyb, show _ = _ by simp, by omega, he⟩
      case round =>
        obtain ⟨j, x, g, rfl, rfl, hxb, Hx, hg, hlow⟩ := hrel
        have Hg := Lib.hid hg
        have hg2 : g ≤ 100000 := by omega
        clear hg
        by_cases hx52 : x < 4503599627370496
        · by_cases hge : -1074 < g
          · have d1 : decide ((x : Int) < 4503599627370496) = true := by simp; omega
            have d2 : decide ((-1074 : Int) < g) = true := by simp; omega
            have hx2 : x * 2 < 9007199254740992 := by omega
            clear hx52
            go_wp2
            go_round
            case rel => exact ⟨j + 1, x * 2, g - 1, rfl, int_of (by omega), by omega, show _ = _ by rw [Hx.out, Nat.pow_succ]; ac_rfl, by have := Hg.out; omega, by omega⟩
            case measure => simp [intOf]; omega
          · obtain rfl : g = -1074 := by omega
            have hfin := Lib.hid (float_end hn Hx.out Hg.out hxb (by omega) (.inr rfl))
            have hru := rung_low hx52
            have d1 : decide ((x : Int) < 4503599627370496) = true := by simp; omega
            clear hx52
            have Hru := Lib.hid hru
            clear hru
            go_wp2
            go_ret
            refine ⟨?_, Below.refl _ _⟩
            rw [hfin.out, Hru.out]
            rfl
        · have hfin := Lib.hid (float_end hn Hx.out Hg.out hxb hlow (.inl (by omega)))
          by_cases hbig : 2046 < g + 1075
          · have hru := rung_over (x := x) (g := g) (by omega) hbig
            have d1 : decide ((x : Int) < 4503599627370496) = false := by simp; omega
            have d2 : decide (2046 < g + 1075) = true := by simp; omega
            clear hx52 hbig
            have Hru := Lib.hid hru
            clear hru
            go_wp2_with fail
            refine (inf_spec _).mono ?_
            rintro e w' ⟨rfl, rfl⟩
            go_wp2_with fail
            go_ret
            refine ⟨?_, Below.refl _ _⟩
            rw [hfin.out, Hru.out]
            rfl
          · obtain ⟨p, hp⟩ : ∃ p : Nat, g = (p : Int) - 1074 := ⟨(g + 1074).toNat, by omega⟩
            obtain ⟨m, hm⟩ : ∃ m : Nat, x = 4503599627370496 + m := ⟨x - 4503599627370496, by omega⟩
            have hmb : m < 4503599627370496 := by omega
            have hand : bits .and .u64 (x : Int) 4503599627370495 = (m : Int) := by rw [and_man x (by omega), hm, Nat.add_mod_left, Nat.mod_eq_of_lt hmb]
            have hpb : p ≤ 2045 := by omega
            have hru := rung_mid hm hmb hpb
            rw [← hp] at hru
            have hor := or_mid hmb hpb
            have d1 : decide ((x : Int) < 4503599627370496) = false := by simp; omega
            obtain ⟨r, hr⟩ : ∃ r : Nat, r = (p + 1) * 4503599627370496 + m := ⟨_, rfl⟩
            rw [← hr] at hor hru
            have hrr : r < 18446744073709551616 := by have := Nat.mul_le_mul_right 4503599627370496 (show p + 1 ≤ 2046 by omega); omega
            have Hru := Lib.hid hru
            have eg : g + 1075 = (p : Int) + 1 := by omega
            have d2 : decide ((2046 : Int) < (p : Int) + 1) = false := by simp; omega
            have Hp := Lib.hid hp
            clear hru hm hr hp hx52 hbig
            go_wp2_with fail
            go_ret
            refine ⟨?_, Below.refl _ _⟩
            rw [hfin.out, Hru.out]
            rfl
    · obtain ⟨m, rfl⟩ : ∃ m, k = m + 1 := ⟨k - 1, by omega⟩
      obtain ⟨z, hz⟩ := get_lt Hlx (i := m) (by omega)
      obtain ⟨bz, oz, rfl, hcz⟩ := hX.at hz
      have hzb := wX _ (List.mem_of_getElem? hz)
      have hst := drop_step hz
      have hdl : nval (xs.drop m) ≤ nval xs := by
        have := nval_split hz
        have h3 := nval_drop wX m
        rw [← h3]
        exact Nat.div_le_self _ _
      rw [← Hy.out] at hst
      have hy32 : y < 4294967296 := by have := HN.out; omega
      have hor := or_high y z hy32 hzb
      have ei : (((m + 1 : Nat) : Int) - 1) = (m : Int) := by omega
      rw [ei]
      obtain ⟨V, hV⟩ : ∃ V, V = nval (xs.drop m) := ⟨_, rfl⟩
      rw [← hV] at hst hdl
      have hVi : (y : Int) * 4294967296 + (z : Int) = (V : Int) := by omega
      rw [hVi] at hor
      have hVb : V < 9007199254740992 := by have := HN.out; omega
      have HV := Lib.hid hV
      clear hz hst hdl hV hVi
      go_wp2
      go_round
      case rel => exact ⟨m, V, by omega, rfl, rfl, hVb, HV.out⟩
      case measure => simp [intOf]
end Go.Proofs.YtfkogkcpndaoeaaGreat
