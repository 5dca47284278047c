/- Clear, Norm of a number, quotients. Conditions: bits. The square of the absolute value, plain. Conditions: none. The square of the absolute value of a number. Conditions: bits. Quotients are small, plain; which power is above a limit first. Conditions: none. -/
import Derived.Test.YtfkogkcpndaoeaaGreatMNumD
import Derived.Test.YtfkogkcpndaoeaaGreatMOne
set_option linter.all false
namespace Go.Proofs.YtfkogkcpndaoeaaGreat
open Go.RowKit
theorem NatRep.short {w : World} {a : Option Addr} {l c n k : Nat} (h : NatRep w (.slice a l c) n) (hn : n < 2 ^ k) (hk : k ≤ 17592186044416) : l ≤ 549755813889 := by
  obtain ⟨xs, h1, h2, rfl⟩ := h
  obtain ⟨a', lx, cx, e, Hlx, -, -, -, -⟩ := h1.any
  injection e with _ e _
  subst e
  exact len_small Hlx h2 hn hk
theorem WholeRep.mag {w : World} {s : Bool} {m : Value} {z : Int} (h : WholeRep w (.agg #[.bool s, m]) z) : NatRep w m z.natAbs := by
  obtain ⟨k1, e1, r1⟩ := h
  simp only [Value.agg.injEq, Array.mk.injEq, List.cons.injEq, and_true, Value.bool.injEq] at e1
  obtain ⟨rfl, rfl⟩ := e1
  exact r1
def cqClear (x : CQ) : Bool := !(decide (x.re = 0) && decide (x.im = 0))
set_option maxRecDepth 100000 in
set_option maxHeartbeats 400000 in
theorem clear_spec (v : Value) (x : CQ) (k : Nat) (w : World) (h : NumRep w v x) (hs : Small k x) (hk : k ≤ 1099511627776) :
    Calls Tryz.prog 21 #[v] w (Ret w fun _ v' => v' = .bool (cqClear x)) := by
  obtain ⟨a, b, d, s1, s2, a1, a2, a3, l1, c1, l2, c2, l3, c3, rfl, wa, wb, -, low, rfl, la, lb, -, -⟩ := h.all
  obtain ⟨hs1, hs2, -⟩ := hs.low low
  have n1 := wa.mag.short hs1 (by omega)
  have n2 := wb.mag.short hs2 (by omega)
  have hw : IntKind.i64.wrap ((l1 : Int) + (l2 : Int)) = ((l1 + l2 : Nat) : Int) := by rw [IntKind.wrap_i64]; omega
  have HR := Lib.hid (show decide (0 < l1 + l2) = cqClear (cq a b d) by
    unfold cqClear
    rw [Bool.eq_iff_iff, decide_eq_true_iff]
    simp only [Bool.not_eq_true', Bool.and_eq_false_iff, decide_eq_false_iff_not, re_zero low.1, im_zero low.1, ← la, ← lb]
    omega)
  generalize cqClear (cq a b d) = r at *
  clear h hs wa wb la lb low hs1 hs2 n1 n2
  go_enter Tryz.func21, Tryz.ntmps21
  generalize l1 + l2 = l at *
  by_cases hl : 0 < l
  · have hl2 : (0 : Int) < (l : Int) := by omega
    have HR2 := Lib.hid (HR.out.symm.trans (decide_eq_true hl))
    clear HR
    go_wp2
    go_ret
    exact ⟨_, rfl, congrArg Value.bool HR2.out.symm, (Below.refl _ _).alloc (Nat.le_refl _) _⟩
  · obtain rfl : l = 0 := by omega
    have HR2 := Lib.hid (HR.out.symm.trans (decide_eq_false hl))
    clear HR
    go_wp2
    go_ret
    exact ⟨_, rfl, congrArg Value.bool HR2.out.symm, (Below.refl _ _).alloc (Nat.le_refl _) _⟩
def CQ.div (x y : CQ) : CQ := ⟨(x.re * y.re + x.im * y.im) / (y.re * y.re + y.im * y.im), (x.im * y.re - x.re * y.im) / (y.re * y.re + y.im * y.im)⟩
theorem rat_sq_pos {x y : Rat} (h : ¬ (x = 0 ∧ y = 0)) : x * x + y * y ≠ 0 := by
  have h1 : 0 ≤ x * x := by
    rcases Rat.le_total (a := 0) (b := x) with h | h
    · exact Rat.mul_nonneg h h
    · have := Rat.mul_nonneg (show 0 ≤ -x by grind) (show 0 ≤ -x by grind)
      grind
  have h2 : 0 ≤ y * y := by
    rcases Rat.le_total (a := 0) (b := y) with h | h
    · exact Rat.mul_nonneg h h
    · have := Rat.mul_nonneg (show 0 ≤ -y by grind) (show 0 ≤ -y by grind)
      grind
  intro e
  have e1 : x * x = 0 := by grind
  have e2 : y * y = 0 := by grind
  exact h ⟨by rcases Rat.mul_eq_zero.1 e1 with h | h <;> exact h, by rcases Rat.mul_eq_zero.1 e2 with h | h <;> exact h⟩
theorem cq_div_eq {A B a b : Int} {D d N : Nat} (hD : 0 < D) (hd : 0 < d) (hN : 0 < N) (hNe : (N : Int) = a * a + b * b) {x : CQ} (hz : x.mul (cq a (-b) 1) = cq A B D) :
    cq (A * d) (B * d) (D * N) = x.div (cq a b d) := by
  have h1 := rat_ne hD
  have h2 := rat_ne hd
  have h3 := rat_ne hN
  have e1 : x.re * ((a : Rat) / ((1 : Nat) : Int)) - x.im * (((-b : Int) : Rat) / ((1 : Nat) : Int)) = (A : Rat) / ((D : Int) : Rat) := congrArg CQ.re hz
  have e2 : x.re * (((-b : Int) : Rat) / ((1 : Nat) : Int)) + x.im * ((a : Rat) / ((1 : Nat) : Int)) = (B : Rat) / ((D : Int) : Rat) := congrArg CQ.im hz
  have e3 : ((N : Int) : Rat) = a * a + b * b := by rw [hNe, Rat.intCast_add, Rat.intCast_mul, Rat.intCast_mul]
  have hone : (((1 : Nat) : Int) : Rat) = 1 := rfl
  rw [hone, Rat.intCast_neg] at e1 e2
  unfold cq CQ.div
  simp only [Int.natCast_mul, Rat.intCast_mul]
  generalize (a : Rat) = p at *
  generalize (b : Rat) = q at *
  generalize ((d : Int) : Rat) = r at *
  generalize ((D : Int) : Rat) = s at *
  generalize ((N : Int) : Rat) = n at *
  generalize (A : Rat) = P at *
  generalize (B : Rat) = T at *
  have e4 : P = (x.re * p + x.im * q) * s := by
    have : P / s * s = P := Rat.div_mul_cancel h1
    rw [← this, ← e1]
    rw [show p / 1 = p by grind, show -q / 1 = -q by grind]
    grind
  have e5 : T = (x.im * p - x.re * q) * s := by
    have : T / s * s = T := Rat.div_mul_cancel h1
    rw [← this, ← e2]
    rw [show p / 1 = p by grind, show -q / 1 = -q by grind]
    grind
  have key : ∀ U : Rat, U * s * r / (s * n) = U / r / (n / (r * r)) := by
    intro U
    clear e1 e2 e3 e4 e5 hone hz hNe
    grind
  have hpq : p / r * (p / r) + q / r * (q / r) = n / (r * r) := by
    rw [e3]
    clear e1 e2 e3 e4 e5 key hone hz hNe
    grind
  have k1 : x.re * (p / r) + x.im * (q / r) = (x.re * p + x.im * q) / r := by
    clear e1 e2 e3 e4 e5 key hone hz hNe hpq
    grind
  have k2 : x.im * (p / r) - x.re * (q / r) = (x.im * p - x.re * q) / r := by
    clear e1 e2 e3 e4 e5 key hone hz hNe hpq
    grind
  refine CQ.ext ?_ ?_
  · simp only
    rw [hpq, k1, e4, key]
  · simp only
    rw [hpq, k2, e5, key]
end Go.Proofs.YtfkogkcpndaoeaaGreat
namespace Go.Proofs.YtfkogkcpndaoeaaGreat
def CQ.norm (x : CQ) : CQ := ⟨x.re * x.re + x.im * x.im, 0⟩
theorem cq_norm {a b : Int} {d : Nat} (h : 0 < d) : (cq a b d).norm = cq (a * a + b * b) 0 (d * d) := by
  have h1 := rat_ne h
  unfold cq CQ.norm
  simp only [Int.natCast_mul, Rat.intCast_add, Rat.intCast_mul]
  refine CQ.ext ?_ ?_
  · simp only
    grind
  · simp only
    rw [Rat.div_def]
    simp
theorem norm_conj (x : CQ) : x.mul x.conj = x.norm := by
  unfold CQ.mul CQ.conj CQ.norm
  refine CQ.ext ?_ ?_
  · simp only
    grind
  · simp only
    grind
theorem Small.norm {k : Nat} {x : CQ} (h : Small k x) : Small (2 * k + 1) x.norm := by
  obtain ⟨a, b, d, h0, h1, h2, h3, rfl⟩ := h
  rw [cq_norm h0]
  exact small_mk (Nat.mul_pos h0 h0) (add_small (mul_small h1 h1) (mul_small h2 h2)) (Nat.two_pow_pos _) (pow_step (nmul_small h3 h3) (by omega))
theorem cq_div_ref {A B : Int} {D N M : Nat} {x y : CQ} (hD : 0 < D) (hN : 0 < N) (hM : 0 < M) (hz : x.mul y.conj = cq A B D) (hn : y.norm = cq (N : Int) 0 M) : cq (A * M) (B * M) (D * N) = x.div y := by
  have h1 := rat_ne hD
  have h2 := rat_ne hN
  have h3 := rat_ne hM
  have e1 : x.re * y.re - x.im * -y.im = (A : Rat) / ((D : Int) : Rat) := congrArg CQ.re hz
  have e2 : x.re * -y.im + x.im * y.re = (B : Rat) / ((D : Int) : Rat) := congrArg CQ.im hz
  have e3 : y.re * y.re + y.im * y.im = ((N : Int) : Rat) / ((M : Int) : Rat) := congrArg CQ.re hn
  have k1 : x.re * y.re + x.im * y.im = (A : Rat) / ((D : Int) : Rat) := by rw [← e1]; grind
  have k2 : x.im * y.re - x.re * y.im = (B : Rat) / ((D : Int) : Rat) := by rw [← e2]; grind
  unfold cq CQ.div
  rw [k1, k2, e3]
  simp only [Int.natCast_mul, Rat.intCast_mul]
  clear e1 e2 e3 k1 k2 hz hn
  generalize ((D : Int) : Rat) = s at *
  generalize ((N : Int) : Rat) = n at *
  generalize ((M : Int) : Rat) = m at *
  generalize (A : Rat) = P at *
  generalize (B : Rat) = T at *
  refine CQ.ext ?_ ?_
  · simp only
    grind
  · simp only
    grind
end Go.Proofs.YtfkogkcpndaoeaaGreat
namespace Go.Proofs.YtfkogkcpndaoeaaGreat
open Go.RowKit
set_option maxRecDepth 100000 in
set_option maxHeartbeats 1600000 in
theorem nnorm_spec (v : Value) (x : CQ) (k : Nat) (w : World) (h : NumRep w v x) (hs : Small k x) (hk : k ≤ 1099511627776) :
    Calls Tryz.prog 86 #[v] w (Ret w fun w' v' => NumRep w' v' x.norm) := by
  obtain ⟨a, b, d, s1, s2, a1, a2, a3, l1, c1, l2, c2, l3, c3, rfl, wa, wb, tri, low, rfl, -, -, -, -⟩ := h.all
  obtain ⟨hs1, hs2, hs3⟩ := hs.low low
  clear h hs
  have B1 := Lib.hid (mul_small hs1 hs1)
  have B2 := Lib.hid (mul_small hs2 hs2)
  have B5 := Lib.hid (nmul_small hs3 hs3)
  go_enter Tryz.func86, Tryz.ntmps86
  go_upto_region 1 with (fail)
  obtain ⟨W, hW, o1, o3, hB, hS⟩ := boxes2 w 40 40 [.bool s1, .slice a1 l1 c1, .bool s2, .slice a2 l2 c2, .slice a3 l3 c3] [.bool false, .slice none 0 0, .bool false, .slice none 0 0, .slice none 0 0]
  rw [← hW]
  clear hW
  have qo10 := o1.cell 0 _ rfl; have qo11 := o1.cell 1 _ rfl; have qo12 := o1.cell 2 _ rfl; have qo13 := o1.cell 3 _ rfl; have qo14 := o1.cell 4 _ rfl
  have o1 : Own W.drew _ _ _ := o1; have o3 : Own W.drew _ _ _ := o3; have lto1 : _ < W.heap.size := o1.lt; have lto3 : _ < W.heap.size := o3.lt; have hB := hB.drew
  have wa := wa.below hB (Nat.le_refl _); have wb := wb.below hB (Nat.le_refl _); have tri := tri.below hB (Nat.le_refl _)
  have tok1 : True := trivial
  have tok2 : True := trivial
  have tok3 : True := trivial
  have tok4 : True := trivial
  have tok5 : True := trivial
  have tok6 : True := trivial
  have tok7 : True := trivial
  go_region_held3 (fun w' => w'.cell? ⟨w.heap.size, 0, none⟩ = some (.bool s1) ∧ w'.cell? ⟨w.heap.size, 1, none⟩ = some (.slice a1 l1 c1) ∧ w'.cell? ⟨w.heap.size, 2, none⟩ = some (.bool s2) ∧ w'.cell? ⟨w.heap.size, 3, none⟩ = some (.slice a2 l2 c2) ∧ w'.cell? ⟨w.heap.size, 4, none⟩ = some (.slice a3 l3 c3)) (first | (with_reducible exact ⟨o1.cell 0 _ rfl, o1.cell 1 _ rfl, o1.cell 2 _ rfl, o1.cell 3 _ rfl, o1.cell 4 _ rfl⟩) | (simp [go_sem, qo10, qo11, qo12, qo13, qo14, lto1]; done))
    (first
      | (go_at_call 136; have _t := tok1; refine (times_spec _ _ a a k _ wa wa hs1 hs1 (by omega)).mono ?_; rintro e W1 ⟨u1, rfl, hu1, hb1⟩; have hsW1 : W.heap.size ≤ W1.heap.size := hb1.size; have hB := hB.trans (hb1.mono hB.size); have o1 := o1.below hb1 o1.lt; have o3 := o3.below hb1 o3.lt; have lto1 := o1.lt; have lto3 := o3.lt; have qo10 := o1.cell 0 _ rfl; have qo11 := o1.cell 1 _ rfl; have qo12 := o1.cell 2 _ rfl; have qo13 := o1.cell 3 _ rfl; have qo14 := o1.cell 4 _ rfl; have wa := wa.below hb1 (Nat.le_refl _); have wb := wb.below hb1 (Nat.le_refl _); have tri := tri.below hb1 (Nat.le_refl _); clear tok1 _t)
      | (go_at_call 136; have _t := tok2; refine (times_spec _ _ b b k _ wb wb hs2 hs2 (by omega)).mono ?_; rintro e W2 ⟨u2, rfl, hu2, hb2⟩; have hsW2 : W1.heap.size ≤ W2.heap.size := hb2.size; have hB := hB.trans (hb2.mono hB.size); have o1 := o1.below hb2 o1.lt; have o3 := o3.below hb2 o3.lt; have lto1 := o1.lt; have lto3 := o3.lt; have qo10 := o1.cell 0 _ rfl; have qo11 := o1.cell 1 _ rfl; have qo12 := o1.cell 2 _ rfl; have qo13 := o1.cell 3 _ rfl; have qo14 := o1.cell 4 _ rfl; have wa := wa.below hb2 (Nat.le_refl _); have wb := wb.below hb2 (Nat.le_refl _); have tri := tri.below hb2 (Nat.le_refl _); have hu1 := hu1.below hb2 (Nat.le_refl _); clear tok2 _t)
      | (go_at_call 137; have _t := tok3; refine (plus_spec _ _ (a * a) (b * b) (2 * k) _ hu1 hu2 B1.out B2.out (by omega)).mono ?_; rintro e W3 ⟨u3, rfl, hu3, hb3⟩; have hsW3 : W2.heap.size ≤ W3.heap.size := hb3.size; have hB := hB.trans (hb3.mono hB.size); have o1 := o1.below hb3 o1.lt; have o3 := o3.below hb3 o3.lt; have lto1 := o1.lt; have lto3 := o3.lt; have qo10 := o1.cell 0 _ rfl; have qo11 := o1.cell 1 _ rfl; have qo12 := o1.cell 2 _ rfl; have qo13 := o1.cell 3 _ rfl; have qo14 := o1.cell 4 _ rfl; have wa := wa.below hb3 (Nat.le_refl _); have wb := wb.below hb3 (Nat.le_refl _); have tri := tri.below hb3 (Nat.le_refl _); have hu1 := hu1.below hb3 (Nat.le_refl _); have hu2 := hu2.below hb3 (Nat.le_refl _); clear tok3 _t)
      | (go_at_call 75; have _t := tok4; refine (den_spec _ a b d _ tri).mono ?_; rintro e W4 ⟨d1, rfl, hd1, hb4⟩; have hsW4 : W3.heap.size ≤ W4.heap.size := hb4.size; have hB := hB.trans (hb4.mono hB.size); have o1 := o1.below hb4 o1.lt; have o3 := o3.below hb4 o3.lt; have lto1 := o1.lt; have lto3 := o3.lt; have qo10 := o1.cell 0 _ rfl; have qo11 := o1.cell 1 _ rfl; have qo12 := o1.cell 2 _ rfl; have qo13 := o1.cell 3 _ rfl; have qo14 := o1.cell 4 _ rfl; have wa := wa.below hb4 (Nat.le_refl _); have wb := wb.below hb4 (Nat.le_refl _); have tri := tri.below hb4 (Nat.le_refl _); have hu1 := hu1.below hb4 (Nat.le_refl _); have hu2 := hu2.below hb4 (Nat.le_refl _); have hu3 := hu3.below hb4 (Nat.le_refl _); clear tok4 _t)
      | (go_at_call 75; have _t := tok5; refine (den_spec _ a b d _ tri).mono ?_; rintro e W5 ⟨d2, rfl, hd2, hb5⟩; have hsW5 : W4.heap.size ≤ W5.heap.size := hb5.size; have hB := hB.trans (hb5.mono hB.size); have o1 := o1.below hb5 o1.lt; have o3 := o3.below hb5 o3.lt; have lto1 := o1.lt; have lto3 := o3.lt; have qo10 := o1.cell 0 _ rfl; have qo11 := o1.cell 1 _ rfl; have qo12 := o1.cell 2 _ rfl; have qo13 := o1.cell 3 _ rfl; have qo14 := o1.cell 4 _ rfl; have wa := wa.below hb5 (Nat.le_refl _); have wb := wb.below hb5 (Nat.le_refl _); have tri := tri.below hb5 (Nat.le_refl _); have hu1 := hu1.below hb5 (Nat.le_refl _); have hu2 := hu2.below hb5 (Nat.le_refl _); have hu3 := hu3.below hb5 (Nat.le_refl _); have hd1 := hd1.below hb5 (Nat.le_refl _); clear tok5 _t)
      | (go_at_call 138; have _t := tok6; refine (mul_spec _ _ d d k _ hd1 hd2 hs3 hs3 (by omega)).mono ?_; rintro e W6 ⟨u7, rfl, hu7, hb6⟩; have hsW6 : W5.heap.size ≤ W6.heap.size := hb6.size; have hB := hB.trans (hb6.mono hB.size); have o1 := o1.below hb6 o1.lt; have o3 := o3.below hb6 o3.lt; have lto1 := o1.lt; have lto3 := o3.lt; have qo10 := o1.cell 0 _ rfl; have qo11 := o1.cell 1 _ rfl; have qo12 := o1.cell 2 _ rfl; have qo13 := o1.cell 3 _ rfl; have qo14 := o1.cell 4 _ rfl; have wa := wa.below hb6 (Nat.le_refl _); have wb := wb.below hb6 (Nat.le_refl _); have tri := tri.below hb6 (Nat.le_refl _); have hu1 := hu1.below hb6 (Nat.le_refl _); have hu2 := hu2.below hb6 (Nat.le_refl _); have hu3 := hu3.below hb6 (Nat.le_refl _); have hd1 := hd1.below hb6 (Nat.le_refl _); have hd2 := hd2.below hb6 (Nat.le_refl _); clear tok6 _t)
      | (go_at_call 91; have _t := tok7; refine (over_spec _ _ _ (a * a + b * b) 0 (d * d) (2 * k + 1) _ hu3 whole_zero hu7 (Nat.mul_pos low.1 low.1) (add_small B1.out B2.out) (Nat.two_pow_pos _) (pow_step B5.out (by omega)) (by omega)).mono ?_; rintro e W7 ⟨u8, rfl, hu8, hb7⟩; have hsW7 : W6.heap.size ≤ W7.heap.size := hb7.size; have hB := hB.trans (hb7.mono hB.size); have o1 := o1.below hb7 o1.lt; have o3 := o3.below hb7 o3.lt; have lto1 := o1.lt; have lto3 := o3.lt; have qo10 := o1.cell 0 _ rfl; have qo11 := o1.cell 1 _ rfl; have qo12 := o1.cell 2 _ rfl; have qo13 := o1.cell 3 _ rfl; have qo14 := o1.cell 4 _ rfl; have wa := wa.below hb7 (Nat.le_refl _); have wb := wb.below hb7 (Nat.le_refl _); have tri := tri.below hb7 (Nat.le_refl _); have hu1 := hu1.below hb7 (Nat.le_refl _); have hu2 := hu2.below hb7 (Nat.le_refl _); have hu3 := hu3.below hb7 (Nat.le_refl _); have hd1 := hd1.below hb7 (Nat.le_refl _); have hd2 := hd2.below hb7 (Nat.le_refl _); have hu7 := hu7.below hb7 (Nat.le_refl _); obtain ⟨_, _, _, _, _, _, _, _, _, _, _, rfl⟩ := hu8.open; have fo3 := o3.free; have co30 := o3.cell 0 _ rfl; have co31 := o3.cell 1 _ rfl; have co32 := o3.cell 2 _ rfl; have co33 := o3.cell 3 _ rfl; have co34 := o3.cell 4 _ rfl; clear tok7 _t))
  go_wp2_with fail
  exact bodyPost_ret (by simp [results, Tryz.results86, go_sem, co30, co31, co32, co33, co34]) rfl (num_end hu8 o3 hB (by omega) (cq_norm low.1).symm)
end Go.Proofs.YtfkogkcpndaoeaaGreat
namespace Go.Proofs.YtfkogkcpndaoeaaGreat
theorem Small.div {k : Nat} {x y : CQ} (hx : Small k x) (hy : Small k y) (h0 : ¬ (y.re = 0 ∧ y.im = 0)) : Small (3 * k + 1) (x.div y) := by
  obtain ⟨a, b, d, d0, h1, h2, h3, rfl⟩ := hx
  obtain ⟨a', b', d', d0', h1', h2', h3', rfl⟩ := hy
  have hab : ¬ (a' = 0 ∧ b' = 0) := fun e => h0 ⟨(re_zero d0').2 e.1, (im_zero d0').2 e.2⟩
  have hq1 : 0 ≤ a' * a' := by rcases Int.le_total 0 a' with h | h; (exact Int.mul_nonneg h h); (exact Int.mul_nonneg_of_nonpos_of_nonpos h h)
  have hq2 : 0 ≤ b' * b' := by rcases Int.le_total 0 b' with h | h; (exact Int.mul_nonneg h h); (exact Int.mul_nonneg_of_nonpos_of_nonpos h h)
  obtain ⟨N, hN⟩ : ∃ N : Nat, (N : Int) = a' * a' + b' * b' := ⟨(a' * a' + b' * b').natAbs, by omega⟩
  have hN0 : 0 < N := by
    rcases Nat.eq_zero_or_pos N with e | e
    · exfalso
      subst e
      have h3 : a' * a' = 0 := by omega
      have h4 : b' * b' = 0 := by omega
      exact hab ⟨by rcases Int.mul_eq_zero.1 h3 with h | h <;> exact h, by rcases Int.mul_eq_zero.1 h4 with h | h <;> exact h⟩
    · exact e
  have hm : (cq a b d).mul (cq a' (-b') 1) = cq (a * a' + -(b * -b')) (a * -b' + b * a') (d * 1) := cq_mul d0 (by omega)
  rw [Nat.mul_one] at hm
  rw [← cq_div_eq d0 d0' hN0 hN hm]
  have n2' : (-b').natAbs < 2 ^ k := by rw [Int.natAbs_neg]; exact h2'
  have B1 := mul_small h1 h1'
  have B2 := mul_small h2 n2'
  have B3 := mul_small h1 n2'
  have B4 := mul_small h2 h1'
  have E1 := add_small B1 (show (-(b * -b')).natAbs < _ by rw [Int.natAbs_neg]; exact B2)
  have E2 := add_small B3 B4
  have hNs : N < 2 ^ (2 * k + 1) := by
    have := add_small (mul_small h1' h1') (mul_small h2' h2')
    omega
  have pw : (2 : Nat) ^ (2 * k + 1) * 2 ^ k = 2 ^ (3 * k + 1) := by rw [← Nat.pow_add]; congr 1; omega
  refine small_mk (Nat.mul_pos d0 hN0) ?_ ?_ ?_
  · rw [Int.natAbs_mul, Int.natAbs_natCast, ← pw]
    exact Nat.mul_lt_mul'' E1 h3'
  · rw [Int.natAbs_mul, Int.natAbs_natCast, ← pw]
    exact Nat.mul_lt_mul'' E2 h3'
  · rw [← pw, Nat.mul_comm]
    exact Nat.mul_lt_mul'' hNs h3
def Hot (m : List (List (List CQ))) (z l : CQ) (k s : Nat) : Prop := ∃ r c y, m[k]? = some r ∧ r[s]? = some c ∧ c[s]? = some y ∧ 0 < qcmp (y.norm.div z) l
def IsHot (m : List (List (List CQ))) (z l : CQ) (k s : Nat) (o : Bool) : Prop :=
  (o = true ∧ ∃ t, s = t + 1 ∧ Hot m z l k t ∧ ∀ k' s', (k' < k ∨ k' = k ∧ s' < t) → ¬ Hot m z l k' s') ∨ (o = false ∧ k = 0 ∧ s = 0 ∧ ∀ k' s', ¬ Hot m z l k' s')
theorem IsHot.unique {m : List (List (List CQ))} {z l : CQ} {k s k' s' : Nat} {o o' : Bool} (h : IsHot m z l k s o) (h' : IsHot m z l k' s' o') : k = k' ∧ s = s' ∧ o = o' := by
  rcases h with ⟨rfl, t, rfl, h1, h2⟩ | ⟨rfl, rfl, rfl, h1⟩
  · rcases h' with ⟨rfl, t', rfl, h1', h2'⟩ | ⟨rfl, rfl, rfl, h1'⟩
    · have a1 : ¬ (k < k' ∨ k = k' ∧ t < t') := fun hh => h2' _ _ hh h1
      have a2 : ¬ (k' < k ∨ k' = k ∧ t' < t) := fun hh => h2 _ _ hh h1'
      exact ⟨by omega, by omega, rfl⟩
    · exact absurd h1 (h1' _ _)
  · rcases h' with ⟨rfl, t', rfl, h1', h2'⟩ | ⟨rfl, rfl, rfl, h1'⟩
    · exact absurd h1' (h1 _ _)
    · exact ⟨rfl, rfl, rfl⟩
end Go.Proofs.YtfkogkcpndaoeaaGreat
