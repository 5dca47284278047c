/- The drawn region of Complex. Conditions: none. Complex and Complex64: the exact values of floats. Conditions: the parts are numbers. Complex64, record.wave. Conditions: the parts are numbers. -/
import Derived.Test.YtfkogkcpndaoeaaGreatMFloat
import Derived.Test.YtfkogkcpndaoeaaGreatMRegion
set_option linter.all false
namespace Go.Proofs.YtfkogkcpndaoeaaGreat
open Go.RowKit
theorem nat_own {w : World} {g : Nat} (o : Own w 28 g [.int .u32 1]) : NatRep w (.slice (some ⟨g, 0, none⟩) 1 1) 1 :=
  ⟨[1], OwnU.us (xs := [1]) ⟨o, by simp [Words]⟩ (by simp) rfl, by simp [Norm], by simp [nval]⟩
theorem mul_pow_small {z : Int} {e k : Nat} (h : z.natAbs < 2 ^ 64) (he : e ≤ k) : (z * (2 ^ e : Nat)).natAbs < 2 ^ (k + 64) := by
  rw [Int.natAbs_mul, Int.natAbs_natCast, Nat.add_comm, Nat.pow_add]
  exact Nat.mul_lt_mul_of_lt_of_le h (Nat.pow_le_pow_right (by omega) he) (Nat.two_pow_pos _)
theorem sgn_cplx (z : Int) (k : Nat) : sgn (decide (z < 0)) (z.natAbs * k) = z * (k : Int) := by
  unfold sgn
  by_cases h : z < 0
  · simp only [h, decide_true, if_true]
    rw [Int.natCast_mul, ← Int.neg_mul]; congr 1; omega
  · simp only [h, decide_false]
    rw [if_neg (by simp), Int.natCast_mul]; congr 1; omega
theorem wholeOf_as (s : Bool) (v : Value) (n : Nat) (z : Int) (w : World) (h : NatRep w v n) (e : sgn s n = z) :
    Calls Tryz.prog 140 #[.bool s, v] w (Ret w fun w' v' => WholeRep w' v' z) := e ▸ wholeOf_spec s v n w h
noncomputable def cregion6 : Code := (Tryz.f103.body.bind (findRegion 6)).getD .skip
set_option maxRecDepth 100000 in
set_option maxHeartbeats 6400000 in
theorem creg6 (w0 W : World) (B p q kk eb ec g1 g5 g6 : Nat) (za zb : Int) (y1 y2 : Option Addr) (z1 e1 z2 e2 : Nat) {R : Act → World → Prop} {u0 u1 u3 u9 u10 u11 u12 u13 u14 u15 u16 u17 u18 u19 u20 u21 u22 u23 u24 u25 u26 u27 u28 u29 u30 u31 u32 u33 u34 u35 u36 u37 u38 u39 u40 u41 u42 u43 u44 u45 u46 u47 u48 u49 u50 u51 u52 u53 u54 u55 u56 u57 u58 : Value}
    (o1 : Own W 40 g1 [.bool false, .slice none 0 0, .bool false, .slice none 0 0, .slice none 0 0]) (o5 : Own W 38 g5 [.bool (decide (za < 0)), .slice y1 z1 e1]) (o6 : Own W 38 g6 [.bool (decide (zb < 0)), .slice y2 z2 e2])
    (hmu1 : NatRep W (.slice y1 z1 e1) za.natAbs) (hmu2 : NatRep W (.slice y2 z2 e2) zb.natAbs) (hz1 : za.natAbs < 2 ^ 64) (hz2 : zb.natAbs < 2 ^ 64)
    (Heb : Hid (eb + 1074 = p + kk)) (Hec : Hid (ec + 1074 = q + kk)) (hp : p ≤ 2100) (hq : q ≤ 2100) (hkb : kk ≤ 1074) (hB : Below B w0 W) (hB1 : B ≤ g1) (hBs : B ≤ W.heap.size) (h15 : g1 ≠ g5) (h16 : g1 ≠ g6)
    (hQ : ∀ (w' : World) (x3 x37 x38 x39 x40 x41 x42 x43 x44 x45 x46 x47 x48 x49 x50 x51 x52 x53 x54 x55 x56 x57 x58 : Value), x3 = .int .i64 0 → NumBox w' g1 (cq (za * (2 ^ eb : Nat)) (zb * (2 ^ ec : Nat)) (2 ^ kk)) → Below B w0 w' → R ⟨List.toArray (u0 :: u1 :: .pointer (some ⟨g1, 0, none⟩) :: x3 :: .pointer (some ⟨g5, 0, none⟩) :: .int .i64 ((p : Int) - 1074) :: .pointer (some ⟨g6, 0, none⟩) :: .int .i64 ((q : Int) - 1074) :: .int .i64 (kk : Int) :: u9 :: u10 :: u11 :: u12 :: u13 :: u14 :: u15 :: u16 :: u17 :: u18 :: u19 :: u20 :: u21 :: u22 :: u23 :: u24 :: u25 :: u26 :: u27 :: u28 :: u29 :: u30 :: u31 :: u32 :: u33 :: u34 :: u35 :: u36 :: x37 :: x38 :: x39 :: x40 :: x41 :: x42 :: x43 :: x44 :: x45 :: x46 :: x47 :: x48 :: x49 :: x50 :: x51 :: x52 :: x53 :: x54 :: x55 :: x56 :: x57 :: x58 :: []), []⟩ w') :
    Code.wp Tryz.prog cregion6 (Only R) ⟨List.toArray (u0 :: u1 :: .pointer (some ⟨g1, 0, none⟩) :: u3 :: .pointer (some ⟨g5, 0, none⟩) :: .int .i64 ((p : Int) - 1074) :: .pointer (some ⟨g6, 0, none⟩) :: .int .i64 ((q : Int) - 1074) :: .int .i64 (kk : Int) :: u9 :: u10 :: u11 :: u12 :: u13 :: u14 :: u15 :: u16 :: u17 :: u18 :: u19 :: u20 :: u21 :: u22 :: u23 :: u24 :: u25 :: u26 :: u27 :: u28 :: u29 :: u30 :: u31 :: u32 :: u33 :: u34 :: u35 :: u36 :: u37 :: u38 :: u39 :: u40 :: u41 :: u42 :: u43 :: u44 :: u45 :: u46 :: u47 :: u48 :: u49 :: u50 :: u51 :: u52 :: u53 :: u54 :: u55 :: u56 :: u57 :: u58 :: []), []⟩ W := by
  conv => arg 2; whnf
  have hs1 : IntKind.i64.wrap ((p : Int) - 1074 + kk) = (eb : Int) := by have := Heb.out; rw [IntWalk.i64_in _ (by omega)]; omega
  have hs2 : IntKind.i64.wrap ((q : Int) - 1074 + kk) = (ec : Int) := by have := Hec.out; rw [IntWalk.i64_in _ (by omega)]; omega
  have hebb : eb ≤ 3200 := by have := Heb.out; omega
  have hecb : ec ≤ 3200 := by have := Hec.out; omega
  have E1 := Lib.hid (sgn_cplx za (2 ^ eb))
  have E2 := Lib.hid (sgn_cplx zb (2 ^ ec))
  obtain ⟨KK, hKK⟩ : ∃ KK : Nat, KK = 3936 := ⟨_, rfl⟩
  have hK1 : 3936 ≤ KK := by omega
  have hK2 : KK ≤ 4000 := by omega
  clear hKK
  have B1 := Lib.hid (mul_pow_small (k := KK) hz1 (show eb ≤ KK by omega))
  have B2 := Lib.hid (mul_pow_small (k := KK) hz2 (show ec ≤ KK by omega))
  have B3 : Hid (1 * 2 ^ kk < 2 ^ (KK + 64)) := show _ < _ by rw [Nat.one_mul]; exact Nat.pow_lt_pow_right (by omega) (by omega)
  have B4 : Hid (0 < 1 * 2 ^ kk) := show 0 < _ by rw [Nat.one_mul]; exact Nat.two_pow_pos _
  have E3 : Hid (cq (za * (2 ^ eb : Nat)) (zb * (2 ^ ec : Nat)) (1 * 2 ^ kk) = cq (za * (2 ^ eb : Nat)) (zb * (2 ^ ec : Nat)) (2 ^ kk)) := show _ = _ by rw [Nat.one_mul]
  generalize hsa : decide (za < 0) = sa at *
  generalize hsb : decide (zb < 0) = sb at *
  clear hsa hsb
  generalize za.natAbs = na at *
  generalize zb.natAbs = nb at *
  have F1 := Lib.hid (fun w h => shl_spec (.slice y1 z1 e1) na eb 64 w h hz1 (by omega) (by omega))
  have F2 := Lib.hid (fun v w h => wholeOf_as sa v (na * 2 ^ eb) _ w h E1.out)
  have F3 := Lib.hid (fun w h => shl_spec (.slice y2 z2 e2) nb ec 64 w h hz2 (by omega) (by omega))
  have F4 := Lib.hid (fun v w h => wholeOf_as sb v (nb * 2 ^ ec) _ w h E2.out)
  have F5 := Lib.hid (fun v w h => shl_spec v 1 kk 1 w h (by omega) (by omega) (by omega))
  have F6 := Lib.hid (fun v2 v4 v5 w h2 h4 h5 => over_spec v2 v4 v5 _ _ (1 * 2 ^ kk) (KK + 64) w h2 h4 h5 B4.out B1.out B2.out B3.out (by omega))
  clear E1 E2 B1 B2 B3 B4 hz1 hz2
  have q50 := o5.cell 0 _ rfl; have q51 := o5.cell 1 _ rfl; have q60 := o6.cell 0 _ rfl; have q61 := o6.cell 1 _ rfl
  have lt5 := o5.lt; have lt6 := o6.lt; have lt1 := o1.lt
  have hmu1a := fun o => NatRep.below hmu1 (((Below.refl W.heap.size W).alloc (Nat.le_refl _) o).drew) (Nat.le_refl _)
  have hone0 := nat_own (w := (W.alloc (.cells #[.int .u32 1] 28)).drew) (own_new W 28 [.int .u32 1])
  have tok1 : True := trivial
  have tok2 : True := trivial
  have tok3 : True := trivial
  have tok4 : True := trivial
  have tok5 : True := trivial
  have tok6 : True := trivial
  have tokA : True := trivial
  have hB := hB.drew
  go_region_held3 (fun w' => w'.cell? ⟨g5, 0, none⟩ = some (.bool sa) ∧ w'.cell? ⟨g5, 1, none⟩ = some (.slice y1 z1 e1) ∧ w'.cell? ⟨g6, 0, none⟩ = some (.bool sb) ∧ w'.cell? ⟨g6, 1, none⟩ = some (.slice y2 z2 e2)) (first | (with_reducible exact ⟨q50, q51, q60, q61⟩) | (simp [go_sem, q50, q51, q60, q61, lt5, lt6, lt1, h15, h16, h15.symm, h16.symm]; done))
  (first
    | (go_at_call 162; have _t := tok1; (with_reducible refine (F1.out W.drew (NatRep.below (w := W) hmu1 ((Below.refl W.heap.size W).drew) (Nat.le_refl _))).mono ?_); rintro e W1 ⟨v1, rfl, hv1, hb⟩; (try (have oN := Own.below (w := W.drew) oN hb oN.lt)); have hs1 : W.drew.heap.size ≤ W1.heap.size := hb.size; have hB := hB.trans (hb.mono hBs); have hBs : B ≤ W1.heap.size := Nat.le_trans hBs hs1; have o1 := Own.below (w := W.drew) o1 hb lt1; have o5 := Own.below (w := W.drew) o5 hb lt5; have o6 := Own.below (w := W.drew) o6 hb lt6; have lt5 := o5.lt; have lt6 := o6.lt; have lt1 := o1.lt; have q50 := o5.cell 0 _ rfl; have q51 := o5.cell 1 _ rfl; have q60 := o6.cell 0 _ rfl; have q61 := o6.cell 1 _ rfl; have hmu1 := NatRep.below (w := W.drew) hmu1 hb (Nat.le_refl _); have hmu2 := NatRep.below (w := W.drew) hmu2 hb (Nat.le_refl _); clear tok1 _t hb)
    | (go_at_call 162; have _t := tok1; have _a := tokA; (with_reducible refine (F1.out ((W.alloc (.cells #[.int .u32 1] 28)).drew) (hmu1a _)).mono ?_); rintro e W1 ⟨v1, rfl, hv1, hc⟩; have oN : Own W1 28 W.heap.size [.int .u32 1] := (Own.below (w := (W.alloc (.cells #[.int .u32 1] 28)).drew) (own_new W 28 [.int .u32 1]) hc (own_new W 28 [.int .u32 1]).lt); have hb : Below W.drew.heap.size W.drew W1 := ext_step ((Below.refl _ _).alloc (Nat.le_refl _) (.cells #[.int .u32 1] 28)) hc; have hs1 : W.drew.heap.size ≤ W1.heap.size := hb.size; have hB := hB.trans (hb.mono hBs); have hBs : B ≤ W1.heap.size := Nat.le_trans hBs hs1; have o1 := Own.below (w := W.drew) o1 hb lt1; have o5 := Own.below (w := W.drew) o5 hb lt5; have o6 := Own.below (w := W.drew) o6 hb lt6; have lt5 := o5.lt; have lt6 := o6.lt; have lt1 := o1.lt; have q50 := o5.cell 0 _ rfl; have q51 := o5.cell 1 _ rfl; have q60 := o6.cell 0 _ rfl; have q61 := o6.cell 1 _ rfl; have hmu1 := NatRep.below (w := W.drew) hmu1 hb (Nat.le_refl _); have hmu2 := NatRep.below (w := W.drew) hmu2 hb (Nat.le_refl _); clear tok1 _t hb hc tokA _a)
    | (go_at_call 140; have _t := tok2; (with_reducible refine (F2.out _ W1 hv1).mono ?_); rintro e W2 ⟨v2, rfl, hv2, hb⟩; (try (have oN := Own.below (w := W1) oN hb oN.lt)); have hs2 : W1.heap.size ≤ W2.heap.size := hb.size; have hB := hB.trans (hb.mono hBs); have hBs : B ≤ W2.heap.size := Nat.le_trans hBs hs2; have o1 := Own.below (w := W1) o1 hb lt1; have o5 := Own.below (w := W1) o5 hb lt5; have o6 := Own.below (w := W1) o6 hb lt6; have lt5 := o5.lt; have lt6 := o6.lt; have lt1 := o1.lt; have q50 := o5.cell 0 _ rfl; have q51 := o5.cell 1 _ rfl; have q60 := o6.cell 0 _ rfl; have q61 := o6.cell 1 _ rfl; have hmu2 := NatRep.below (w := W1) hmu2 hb (Nat.le_refl _); have hv1 := NatRep.below (w := W1) hv1 hb (Nat.le_refl _); clear tok2 _t hb)
    | (go_at_call 140; have _t := tok2; have _a := tokA; (with_reducible refine (F2.out _ ((W1.alloc (.cells #[.int .u32 1] 28))) (NatRep.below (w := W1) hv1 ((Below.refl _ _).alloc (Nat.le_refl _) _) (Nat.le_refl _))).mono ?_); rintro e W2 ⟨v2, rfl, hv2, hc⟩; have oN : Own W2 28 W1.heap.size [.int .u32 1] := (Own.below (w := (W1.alloc (.cells #[.int .u32 1] 28))) (own_new W1 28 [.int .u32 1]) hc (own_new W1 28 [.int .u32 1]).lt); have hb : Below W1.heap.size W1 W2 := ext_step ((Below.refl _ _).alloc (Nat.le_refl _) (.cells #[.int .u32 1] 28)) hc; have hs2 : W1.heap.size ≤ W2.heap.size := hb.size; have hB := hB.trans (hb.mono hBs); have hBs : B ≤ W2.heap.size := Nat.le_trans hBs hs2; have o1 := Own.below (w := W1) o1 hb lt1; have o5 := Own.below (w := W1) o5 hb lt5; have o6 := Own.below (w := W1) o6 hb lt6; have lt5 := o5.lt; have lt6 := o6.lt; have lt1 := o1.lt; have q50 := o5.cell 0 _ rfl; have q51 := o5.cell 1 _ rfl; have q60 := o6.cell 0 _ rfl; have q61 := o6.cell 1 _ rfl; have hmu2 := NatRep.below (w := W1) hmu2 hb (Nat.le_refl _); have hv1 := NatRep.below (w := W1) hv1 hb (Nat.le_refl _); clear tok2 _t hb hc tokA _a)
    | (go_at_call 162; have _t := tok3; (with_reducible refine (F3.out W2 hmu2).mono ?_); rintro e W3 ⟨v3, rfl, hv3, hb⟩; (try (have oN := Own.below (w := W2) oN hb oN.lt)); have hs3 : W2.heap.size ≤ W3.heap.size := hb.size; have hB := hB.trans (hb.mono hBs); have hBs : B ≤ W3.heap.size := Nat.le_trans hBs hs3; have o1 := Own.below (w := W2) o1 hb lt1; have o5 := Own.below (w := W2) o5 hb lt5; have o6 := Own.below (w := W2) o6 hb lt6; have lt5 := o5.lt; have lt6 := o6.lt; have lt1 := o1.lt; have q50 := o5.cell 0 _ rfl; have q51 := o5.cell 1 _ rfl; have q60 := o6.cell 0 _ rfl; have q61 := o6.cell 1 _ rfl; have hmu2 := NatRep.below (w := W2) hmu2 hb (Nat.le_refl _); have hv2 := WholeRep.below (w := W2) hv2 hb (Nat.le_refl _); clear tok3 _t hb)
    | (go_at_call 162; have _t := tok3; have _a := tokA; (with_reducible refine (F3.out ((W2.alloc (.cells #[.int .u32 1] 28))) (NatRep.below (w := W2) hmu2 ((Below.refl _ _).alloc (Nat.le_refl _) _) (Nat.le_refl _))).mono ?_); rintro e W3 ⟨v3, rfl, hv3, hc⟩; have oN : Own W3 28 W2.heap.size [.int .u32 1] := (Own.below (w := (W2.alloc (.cells #[.int .u32 1] 28))) (own_new W2 28 [.int .u32 1]) hc (own_new W2 28 [.int .u32 1]).lt); have hb : Below W2.heap.size W2 W3 := ext_step ((Below.refl _ _).alloc (Nat.le_refl _) (.cells #[.int .u32 1] 28)) hc; have hs3 : W2.heap.size ≤ W3.heap.size := hb.size; have hB := hB.trans (hb.mono hBs); have hBs : B ≤ W3.heap.size := Nat.le_trans hBs hs3; have o1 := Own.below (w := W2) o1 hb lt1; have o5 := Own.below (w := W2) o5 hb lt5; have o6 := Own.below (w := W2) o6 hb lt6; have lt5 := o5.lt; have lt6 := o6.lt; have lt1 := o1.lt; have q50 := o5.cell 0 _ rfl; have q51 := o5.cell 1 _ rfl; have q60 := o6.cell 0 _ rfl; have q61 := o6.cell 1 _ rfl; have hmu2 := NatRep.below (w := W2) hmu2 hb (Nat.le_refl _); have hv2 := WholeRep.below (w := W2) hv2 hb (Nat.le_refl _); clear tok3 _t hb hc tokA _a)
    | (go_at_call 140; have _t := tok4; (with_reducible refine (F4.out _ W3 hv3).mono ?_); rintro e W4 ⟨v4, rfl, hv4, hb⟩; (try (have oN := Own.below (w := W3) oN hb oN.lt)); have hs4 : W3.heap.size ≤ W4.heap.size := hb.size; have hB := hB.trans (hb.mono hBs); have hBs : B ≤ W4.heap.size := Nat.le_trans hBs hs4; have o1 := Own.below (w := W3) o1 hb lt1; have o5 := Own.below (w := W3) o5 hb lt5; have o6 := Own.below (w := W3) o6 hb lt6; have lt5 := o5.lt; have lt6 := o6.lt; have lt1 := o1.lt; have q50 := o5.cell 0 _ rfl; have q51 := o5.cell 1 _ rfl; have q60 := o6.cell 0 _ rfl; have q61 := o6.cell 1 _ rfl; have hv2 := WholeRep.below (w := W3) hv2 hb (Nat.le_refl _); have hv3 := NatRep.below (w := W3) hv3 hb (Nat.le_refl _); clear tok4 _t hb)
    | (go_at_call 140; have _t := tok4; have _a := tokA; (with_reducible refine (F4.out _ ((W3.alloc (.cells #[.int .u32 1] 28))) (NatRep.below (w := W3) hv3 ((Below.refl _ _).alloc (Nat.le_refl _) _) (Nat.le_refl _))).mono ?_); rintro e W4 ⟨v4, rfl, hv4, hc⟩; have oN : Own W4 28 W3.heap.size [.int .u32 1] := (Own.below (w := (W3.alloc (.cells #[.int .u32 1] 28))) (own_new W3 28 [.int .u32 1]) hc (own_new W3 28 [.int .u32 1]).lt); have hb : Below W3.heap.size W3 W4 := ext_step ((Below.refl _ _).alloc (Nat.le_refl _) (.cells #[.int .u32 1] 28)) hc; have hs4 : W3.heap.size ≤ W4.heap.size := hb.size; have hB := hB.trans (hb.mono hBs); have hBs : B ≤ W4.heap.size := Nat.le_trans hBs hs4; have o1 := Own.below (w := W3) o1 hb lt1; have o5 := Own.below (w := W3) o5 hb lt5; have o6 := Own.below (w := W3) o6 hb lt6; have lt5 := o5.lt; have lt6 := o6.lt; have lt1 := o1.lt; have q50 := o5.cell 0 _ rfl; have q51 := o5.cell 1 _ rfl; have q60 := o6.cell 0 _ rfl; have q61 := o6.cell 1 _ rfl; have hv2 := WholeRep.below (w := W3) hv2 hb (Nat.le_refl _); have hv3 := NatRep.below (w := W3) hv3 hb (Nat.le_refl _); clear tok4 _t hb hc tokA _a)
    | (go_at_call 162; have _t := tok5; (with_reducible refine (F5.out _ W4 (nat_own oN)).mono ?_); rintro e W5 ⟨v5, rfl, hv5, hb⟩; (try (have oN := Own.below (w := W4) oN hb oN.lt)); have hs5 : W4.heap.size ≤ W5.heap.size := hb.size; have hB := hB.trans (hb.mono hBs); have hBs : B ≤ W5.heap.size := Nat.le_trans hBs hs5; have o1 := Own.below (w := W4) o1 hb lt1; have o5 := Own.below (w := W4) o5 hb lt5; have o6 := Own.below (w := W4) o6 hb lt6; have lt5 := o5.lt; have lt6 := o6.lt; have lt1 := o1.lt; have q50 := o5.cell 0 _ rfl; have q51 := o5.cell 1 _ rfl; have q60 := o6.cell 0 _ rfl; have q61 := o6.cell 1 _ rfl; have hv2 := WholeRep.below (w := W4) hv2 hb (Nat.le_refl _); have hv4 := WholeRep.below (w := W4) hv4 hb (Nat.le_refl _); clear tok5 _t hb)
    | (go_at_call 162; have _t := tok5; have _a := tokA; (with_reducible refine (F5.out _ ((W4.alloc (.cells #[.int .u32 1] 28))) (nat_own (own_new W4 28 [.int .u32 1]))).mono ?_); rintro e W5 ⟨v5, rfl, hv5, hc⟩; have oN : Own W5 28 W4.heap.size [.int .u32 1] := (Own.below (w := (W4.alloc (.cells #[.int .u32 1] 28))) (own_new W4 28 [.int .u32 1]) hc (own_new W4 28 [.int .u32 1]).lt); have hb : Below W4.heap.size W4 W5 := ext_step ((Below.refl _ _).alloc (Nat.le_refl _) (.cells #[.int .u32 1] 28)) hc; have hs5 : W4.heap.size ≤ W5.heap.size := hb.size; have hB := hB.trans (hb.mono hBs); have hBs : B ≤ W5.heap.size := Nat.le_trans hBs hs5; have o1 := Own.below (w := W4) o1 hb lt1; have o5 := Own.below (w := W4) o5 hb lt5; have o6 := Own.below (w := W4) o6 hb lt6; have lt5 := o5.lt; have lt6 := o6.lt; have lt1 := o1.lt; have q50 := o5.cell 0 _ rfl; have q51 := o5.cell 1 _ rfl; have q60 := o6.cell 0 _ rfl; have q61 := o6.cell 1 _ rfl; have hv2 := WholeRep.below (w := W4) hv2 hb (Nat.le_refl _); have hv4 := WholeRep.below (w := W4) hv4 hb (Nat.le_refl _); clear tok5 _t hb hc tokA _a)
    | (go_at_call 91; have _t := tok6; (with_reducible refine (F6.out _ _ _ W5 hv2 hv4 hv5).mono ?_); rintro e W6 ⟨v6, rfl, hv6, hb⟩; (try (have oN := Own.below (w := W5) oN hb oN.lt)); have hs6 : W5.heap.size ≤ W6.heap.size := hb.size; have hB := hB.trans (hb.mono hBs); have hBs : B ≤ W6.heap.size := Nat.le_trans hBs hs6; have o1 := Own.below (w := W5) o1 hb lt1; have o5 := Own.below (w := W5) o5 hb lt5; have o6 := Own.below (w := W5) o6 hb lt6; have lt5 := o5.lt; have lt6 := o6.lt; have lt1 := o1.lt; have q50 := o5.cell 0 _ rfl; have q51 := o5.cell 1 _ rfl; have q60 := o6.cell 0 _ rfl; have q61 := o6.cell 1 _ rfl; have hv2 := WholeRep.below (w := W5) hv2 hb (Nat.le_refl _); have hv4 := WholeRep.below (w := W5) hv4 hb (Nat.le_refl _); have hv5 := NatRep.below (w := W5) hv5 hb (Nat.le_refl _); obtain ⟨_, _, _, _, _, _, _, _, _, _, _, rfl⟩ := hv6.open; have fo1 := o1.free; have co10 := o1.cell 0 _ rfl; have co11 := o1.cell 1 _ rfl; have co12 := o1.cell 2 _ rfl; have co13 := o1.cell 3 _ rfl; have co14 := o1.cell 4 _ rfl; clear tok6 _t hb))
  all_goals
    show R _ _
    refine hQ _ _ _ _ _ _ _ _ _ _ _ _ _ _ _ _ _ _ _ _ _ _ _ _ rfl (numbox_end hv6 o1 E3.out) ?_
    exact below5 hB hB1
end Go.Proofs.YtfkogkcpndaoeaaGreat
namespace Go.Proofs.YtfkogkcpndaoeaaGreat
open Go.RowKit
structure Fin (b : Nat) : Prop where
  lt : b < 18446744073709551616
  rd : ∃ c : Nat, bits .andNot .u64 (b : Int) 9223372036854775808 = (c : Int) ∧ (FloatKind.f64.format.order c 9218868437227405311 == some .gt) = false
  eq : (FloatKind.f64.format.order b b == some .eq) = true
def fup (b : Nat) : Nat := max (fexp b) 1 - 1
def fz (b : Nat) : Int := sgn (fneg b) (fman b)
def fq (b : Nat) : Rat := ((fz b * (2 ^ fup b : Nat) : Int) : Rat) / (((2 ^ 1074 : Nat) : Int) : Rat)
theorem fup_eq (b : Nat) : (max (fexp b : Int) 1 - 1075) = (fup b : Int) - 1074 ∧ fup b < 2047 := by
  have : fexp b < 2048 := Nat.mod_lt _ (by omega)
  unfold fup; omega
theorem fz_small (b : Nat) : (fz b).natAbs < 2 ^ 64 := by
  unfold fz
  rw [sgn_abs]
  unfold fman
  have : b % 4503599627370496 < 4503599627370496 := Nat.mod_lt _ (by omega)
  split <;> omega
theorem pow_over {z : Int} {u k e m : Nat} (h : e + m = u + k) : ((z * (2 ^ e : Nat) : Int) : Rat) / (((2 ^ k : Nat) : Int) : Rat) = ((z * (2 ^ u : Nat) : Int) : Rat) / (((2 ^ m : Nat) : Int) : Rat) := by
  rw [ratio_eq (Nat.two_pow_pos _) (Nat.two_pow_pos _), Int.mul_assoc, Int.mul_assoc, ← Int.natCast_mul, ← Int.natCast_mul, ← Nat.pow_add, ← Nat.pow_add, h]
theorem fq_over {z : Int} {u k e : Nat} (h : e + 1074 = u + k) : ((z * (2 ^ e : Nat) : Int) : Rat) / (((2 ^ k : Nat) : Int) : Rat) = ((z * (2 ^ u : Nat) : Int) : Rat) / (((2 ^ 1074 : Nat) : Int) : Rat) :=
  pow_over (m := 1074) h
set_option maxRecDepth 100000 in
set_option maxHeartbeats 1600000 in
theorem complex_spec (b c : Nat) (w : World) (hb : Fin b) (hc : Fin c) :
    Calls Tryz.prog 103 #[.complex .f64 b c] w (Ret w fun w' v' => ∃ u, v' = .tuple #[u, .int .i64 0] ∧ NumRep w' u ⟨fq b, fq c⟩) := by
  obtain ⟨cb, hb1, hb2⟩ := hb.rd
  obtain ⟨cc, hc1, hc2⟩ := hc.rd
  go_enter Tryz.func103, Tryz.ntmps103
  go_upto_region 1 with (fail)
  obtain ⟨W, hW, o1, hB, hS⟩ := boxes1 w 40 [.bool false, .slice none 0 0, .bool false, .slice none 0 0, .slice none 0 0]
  rw [← hW]
  clear hW
  go_wp2_with fail
  refine (finite_spec b cb W hb1 hb.eq hb2).mono ?_
  rintro e w' ⟨rfl, rfl⟩
  go_wp2_with fail
  refine (finite_spec c cc W hc1 hc.eq hc2).mono ?_
  rintro e w' ⟨rfl, rfl⟩
  go_wp2_with fail
  refine (split_spec b W hb.lt).mono ?_
  rintro e W1 ⟨_, rfl, ⟨u1, rfl, hu1⟩, hb1⟩
  obtain ⟨x1, y1, z1, e1, rfl, _, _⟩ := hu1.open
  go_wp2_with fail
  obtain ⟨V, hV, o5, hBV, hSV⟩ := boxes1 W1 38 [.bool x1, .slice y1 z1 e1]
  rw [← hV]
  clear hV
  have hsW1 : W.heap.size ≤ W1.heap.size := hb1.size; have hB := hB.trans (hb1.mono hB.size); have o1 := o1.below hb1 o1.lt
  have hsV : W1.heap.size ≤ V.heap.size := hBV.size; have hB := hB.trans (hBV.mono hB.size); have o1 := o1.below hBV o1.lt; have hu1 := hu1.below hBV (Nat.le_refl _)
  refine (split_spec c V hc.lt).mono ?_
  rintro e W2 ⟨_, rfl, ⟨u2, rfl, hu2⟩, hb2⟩
  obtain ⟨x2, y2, z2, e2, rfl, _, _⟩ := hu2.open
  have hsW2 : V.heap.size ≤ W2.heap.size := hb2.size; have hB := hB.trans (hb2.mono hB.size); have o1 := o1.below hb2 o1.lt; have o5 := o5.below hb2 o5.lt; have hu1 := hu1.below hb2 (Nat.le_refl _)
  obtain ⟨hfb, hfb2⟩ := fup_eq b
  obtain ⟨hfc, hfc2⟩ := fup_eq c
  rw [hfb, hfc]
  go_upto_region 5 with (fail)
  obtain ⟨V2, hV, o6, hBV2, hSV2⟩ := boxes1 W2 38 [.bool x2, .slice y2 z2 e2]
  rw [← hV]
  clear hV
  have hsV2 : W2.heap.size ≤ V2.heap.size := hBV2.size; have hB := hB.trans (hBV2.mono hB.size); have o1 := o1.below hBV2 o1.lt; have o5 := o5.below hBV2 o5.lt; have hu1 := hu1.below hBV2 (Nat.le_refl _); have hu2 := hu2.below hBV2 (Nat.le_refl _)
  have F1 : Hid (fz b = sgn (fneg b) (fman b)) := rfl
  have F2 : Hid (fz c = sgn (fneg c) (fman c)) := rfl
  rw [← F1.out] at hu1
  rw [← F2.out] at hu2
  clear hfb hfc F1 F2
  have hfin : ∀ (kk eb ec : Nat), eb + 1074 = fup b + kk → ec + 1074 = fup c + kk → cq (fz b * (2 ^ eb : Nat)) (fz c * (2 ^ ec : Nat)) (2 ^ kk) = ⟨fq b, fq c⟩ := fun kk eb ec h1 h2 => CQ.ext (fq_over h1) (fq_over h2)
  have hz1 := fz_small b
  have hz2 := fz_small c
  generalize fup b = p at *
  generalize fup c = q at *
  generalize fz b = za at *
  generalize fz c = zb at *
  have HFin := Lib.hid hfin
  clear hb1 hb2 hc1 hc2 hfin
  obtain ⟨mu1, er1, hmu1⟩ := hu1
  obtain ⟨mu2, er2, hmu2⟩ := hu2
  simp only [Value.agg.injEq, Array.mk.injEq, List.cons.injEq, and_true, Value.bool.injEq] at er1 er2
  obtain ⟨rfl, rfl⟩ := er1
  obtain ⟨rfl, rfl⟩ := er2
  go_upto_region 6 with (fail)
  obtain ⟨kk, hkk⟩ : ∃ kk : Nat, kk = max (1074 - p) (1074 - q) := ⟨_, rfl⟩
  have hk : (if (if (p : Int) - 1074 < 0 then -((p : Int) - 1074) else 0) < -((q : Int) - 1074) then -((q : Int) - 1074) else if (p : Int) - 1074 < 0 then -((p : Int) - 1074) else 0) = (kk : Int) := by
    split <;> split at * <;> omega
  rw [hk]
  obtain ⟨eb, heb⟩ : ∃ eb : Nat, eb + 1074 = p + kk := ⟨p + kk - 1074, by omega⟩
  obtain ⟨ec, hec⟩ : ∃ ec : Nat, ec + 1074 = q + kk := ⟨q + kk - 1074, by omega⟩
  have Heb := Lib.hid heb
  have Hec := Lib.hid hec
  have hkb : kk ≤ 1074 := by omega
  clear hk hkk heb hec
  have hl1 := o1.lt
  refine only_of (creg6 w V2 w.heap.size p q kk eb ec w.heap.size W1.heap.size W2.heap.size za zb _ _ _ _ _ _ o1 o5 o6 hmu1 hmu2 hz1 hz2 Heb Hec (by omega) (by omega) hkb hB (Nat.le_refl _) hB.size (by omega) (by omega) ?_)
  intro w' x3 x37 x38 x39 x40 x41 x42 x43 x44 x45 x46 x47 x48 x49 x50 x51 x52 x53 x54 x55 x56 x57 x58 hx3 hnb hBw
  subst hx3
  obtain ⟨t0, t2, b1, b3, b4, m1, n1, m3, n3, m4, n4, o, hn⟩ := hnb
  rw [HFin.out kk eb ec Heb.out Hec.out] at hn
  try simp only [Exit.then]
  have fo := o.free; have co0 := o.cell 0 _ rfl; have co1 := o.cell 1 _ rfl; have co2 := o.cell 2 _ rfl; have co3 := o.cell 3 _ rfl; have co4 := o.cell 4 _ rfl
  go_wp2_with fail
  exact bodyPost_ret (by simp [results, Tryz.results103, go_sem, co0, co1, co2, co3, co4]) rfl ⟨_, rfl, ⟨_, rfl, hn⟩, hBw⟩
end Go.Proofs.YtfkogkcpndaoeaaGreat
namespace Go.Proofs.YtfkogkcpndaoeaaGreat
open Go.RowKit
def Widens (s t S T : Nat) : Prop := ∀ w, (convert 105 186 (.complex .f32 s t)).run Tryz.prog w = .ok (.complex .f64 S T) w
set_option maxRecDepth 100000 in
set_option maxHeartbeats 1600000 in
theorem complex64_spec (s t S T : Nat) (w : World) (hw : Widens s t S T) (hS : Fin S) (hT : Fin T) :
    Calls Tryz.prog 50 #[.complex .f32 s t] w (Ret w fun w' v' => ∃ u, v' = .tuple #[u, .int .i64 0] ∧ NumRep w' u ⟨fq S, fq T⟩) := by
  unfold Widens at hw
  have hc := fun w => complex_spec S T w hS hT
  generalize fq S = qS at *
  generalize fq T = qT at *
  have HC := Lib.hid hc
  clear hc hS hT
  go_enter Tryz.func50, Tryz.ntmps50
  go_upto_region 1 with (fail)
  obtain ⟨W, hW, o1, hB, hS⟩ := boxes1 w 40 [.bool false, .slice none 0 0, .bool false, .slice none 0 0, .slice none 0 0]
  rw [← hW]
  clear hW
  go_wp2_with fail
  refine (HC.out W).mono ?_
  rintro e W1 ⟨_, rfl, ⟨u, rfl, hu⟩, hb1⟩
  obtain ⟨_, _, _, _, _, _, _, _, _, _, _, rfl⟩ := hu.open
  have hsW1 : W.heap.size ≤ W1.heap.size := hb1.size; have hB := hB.trans (hb1.mono hB.size); have o1 := o1.below hb1 o1.lt; have fo1 := o1.free; have co10 := o1.cell 0 _ rfl; have co11 := o1.cell 1 _ rfl; have co12 := o1.cell 2 _ rfl; have co13 := o1.cell 3 _ rfl; have co14 := o1.cell 4 _ rfl
  go_wp2_with fail
  exact bodyPost_ret (by simp [results, Tryz.results50, go_sem, co10, co11, co12, co13, co14]) rfl (num_pair hu o1 hB (Nat.le_refl _) rfl)
set_option maxRecDepth 100000 in
set_option maxHeartbeats 1600000 in
theorem wave_spec (v : Value) (x : CQ) (a b : Int) (k : Nat) (w : World) (h : NumRep w v x) (hs : Small k x) (hk : k ≤ 1000000) (hk2 : 16 ≤ k) (ha : -32768 ≤ a ∧ a ≤ 32767) (hb : -32768 ≤ b ∧ b ≤ 32767) :
    Calls Tryz.prog 72 #[v, .agg #[.int .i16 a, .int .i16 b]] w (Ret w fun w' v' => NumRep w' v' (x.mul (cq a b 1))) := by
  obtain ⟨s0, s2, a1, a3, a4, l1, c1, l3, c3, l4, c4, rfl⟩ := h.open
  obtain ⟨ha1, ha2⟩ := ha
  obtain ⟨hb1, hb2⟩ := hb
  have hp : 2 ^ 16 ≤ 2 ^ k := Nat.pow_le_pow_right (by omega) hk2
  have HS := Lib.hid hs
  have HZ := Lib.hid (small_mk (a := a) (b := b) (d := 1) (k := k) (by omega) (by omega) (by omega) (by omega))
  clear hp hs
  go_enter Tryz.func72, Tryz.ntmps72
  go_upto_region 1 with (fail)
  obtain ⟨W, hW, o1, o2, o3, hB, hS⟩ := boxes3 w 40 143 40 [.bool s0, .slice a1 l1 c1, .bool s2, .slice a3 l3 c3, .slice a4 l4 c4] [.int .i16 a, .int .i16 b] [.bool false, .slice none 0 0, .bool false, .slice none 0 0, .slice none 0 0]
  rw [← hW]
  clear hW
  have h := h.below hB (Nat.le_refl _)
  have fo2 := o2.free; have co20 := o2.cell 0 _ rfl; have co21 := o2.cell 1 _ rfl
  go_wp2_with fail
  refine (new_spec a b 1 W (by omega) (by omega) (by omega) (by omega) (by omega) (by omega)).mono ?_
  rintro e W1 ⟨_, rfl, ⟨u, rfl, hu⟩, hbb⟩
  obtain ⟨t0, t2, b1, b3, b4, m1, n1, m3, n3, m4, n4, rfl⟩ := hu.open
  clear co20 co21 fo2
  have hsW1 : W.heap.size ≤ W1.heap.size := hbb.size; have hB := hB.trans (hbb.mono hB.size); have o1 := o1.below hbb o1.lt; have o3 := o3.below hbb o3.lt; have h := h.below hbb (Nat.le_refl _)
  go_upto_region 2 with (fail)
  obtain ⟨V, hV, o5, hBV, hSV⟩ := boxes1 W1 40 [.bool t0, .slice b1 m1 n1, .bool t2, .slice b3 m3 n3, .slice b4 m4 n4]
  rw [← hV]
  clear hV
  have hsV : W1.heap.size ≤ V.heap.size := hBV.size; have hB := hB.trans (hBV.mono hB.size); have o1 := o1.below hBV o1.lt; have o3 := o3.below hBV o3.lt; have h := h.below hBV (Nat.le_refl _); have hu := hu.below hBV (Nat.le_refl _)
  generalize W1.heap.size = g5 at *
  have fo1 := o1.free; have co10 := o1.cell 0 _ rfl; have co11 := o1.cell 1 _ rfl; have co12 := o1.cell 2 _ rfl; have co13 := o1.cell 3 _ rfl; have co14 := o1.cell 4 _ rfl; have fo5 := o5.free; have co50 := o5.cell 0 _ rfl; have co51 := o5.cell 1 _ rfl; have co52 := o5.cell 2 _ rfl; have co53 := o5.cell 3 _ rfl; have co54 := o5.cell 4 _ rfl
  go_wp2_with fail
  refine (nmul_spec _ _ x (cq a b 1) k V h hu HS.out HZ.out (by omega)).mono ?_
  rintro e W2 ⟨u2, rfl, hu2, hb2⟩
  obtain ⟨_, _, _, _, _, _, _, _, _, _, _, rfl⟩ := hu2.open
  clear co10 co11 co12 co13 co14 fo1 co50 co51 co52 co53 co54 fo5
  have hsW2 : V.heap.size ≤ W2.heap.size := hb2.size; have hB := hB.trans (hb2.mono hB.size); have o3 := o3.below hb2 o3.lt; have fo3 := o3.free; have co30 := o3.cell 0 _ rfl; have co31 := o3.cell 1 _ rfl; have co32 := o3.cell 2 _ rfl; have co33 := o3.cell 3 _ rfl; have co34 := o3.cell 4 _ rfl
  go_wp2_with fail
  exact bodyPost_ret (by simp [results, Tryz.results72, go_sem, co30, co31, co32, co33, co34]) rfl (num_end hu2 o3 hB (by omega) rfl)
end Go.Proofs.YtfkogkcpndaoeaaGreat
