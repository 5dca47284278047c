/- Floats as numbers: split. Conditions: none. A box that holds a number. Conditions: none. -/
import Derived.Test.YtfkogkcpndaoeaaGreatMDec
import Derived.Test.YtfkogkcpndaoeaaGreatMNumD
import Derived.Laws.Externs
set_option linter.all false
namespace Go.Proofs.YtfkogkcpndaoeaaGreat
open Go.RowKit
def fexp (b : Nat) : Nat := b / 4503599627370496 % 2048
def fman (b : Nat) : Nat := if fexp b = 0 then b % 4503599627370496 else b % 4503599627370496 + 4503599627370496
def fneg (b : Nat) : Bool := decide (b / 9223372036854775808 = 1)
theorem and_man (b : Nat) (h : b < 18446744073709551616) : bits .and .u64 (b : Int) 4503599627370495 = (b % 4503599627370496 : Nat) := by
  have e := u64_and_nat b 4503599627370495 h (by omega)
  have e2 : b &&& 4503599627370495 = b % 4503599627370496 := Nat.and_two_pow_sub_one_eq_mod b 52
  rw [e2] at e
  exact e
theorem and_exp (b : Nat) (h : b < 18446744073709551616) : bits .and .u64 (b : Int) 2047 = (b % 2048 : Nat) := by
  have e := u64_and_nat b 2047 h (by omega)
  have e2 : b &&& 2047 = b % 2048 := Nat.and_two_pow_sub_one_eq_mod b 11
  rw [e2] at e
  exact e
theorem or_man (m : Nat) (h : m < 4503599627370496) : bits .or .u64 (m : Int) 4503599627370496 = (m + 4503599627370496 : Nat) := by
  have e := u64_or_nat m 4503599627370496 (by omega) (by omega)
  have e2 := Nat.two_pow_add_eq_or_of_lt (i := 52) h 1
  rw [Nat.or_comm, show (4503599627370496 : Nat) = 2 ^ 52 * 1 from rfl, ← e2] at e
  rw [Nat.add_comm]
  exact e
theorem run_fb64 (b : Nat) (w : World) : (callFunc 192 #[.float .f64 b]).run Tryz.prog w = .ok (.value (.int .u64 (b : Int))) w := by
  rw [run_callFunc_extern (fn := Tryz.f192) (e := Extern.MathFloatBits.float64bits) (by kernel_rfl) (by kernel_rfl) (by kernel_rfl) (by kernel_rfl) (by kernel_rfl)]
  rfl
set_option maxRecDepth 100000 in
set_option maxHeartbeats 800000 in
theorem split_spec (b : Nat) (w : World) (hb : b < 18446744073709551616) :
    Calls Tryz.prog 161 #[.float .f64 b] w (Ret w fun w' v' => ∃ u, v' = .tuple #[u, .int .i64 (max (fexp b : Int) 1 - 1075)] ∧ WholeRep w' u (sgn (fneg b) (fman b))) := by
  have h1 := and_man b hb
  have h2 := and_exp (b / 4503599627370496) (by omega)
  have hd : (b : Int) / 4503599627370496 = (b / 4503599627370496 : Nat) := by omega
  have hm0 : b % 4503599627370496 < 4503599627370496 := Nat.mod_lt _ (by omega)
  have h3 := or_man _ hm0
  have hn : ((b : Int) / 9223372036854775808 == 1) = fneg b := by
    unfold fneg; rw [Bool.eq_iff_iff, beq_iff_eq, decide_eq_true_iff]; omega
  have he : fexp b < 2048 := Nat.mod_lt _ (by omega)
  have hfm : Hid (fman b = if fexp b = 0 then b % 4503599627370496 else b % 4503599627370496 + 4503599627370496) := rfl
  rw [show b / 4503599627370496 % 2048 = fexp b from rfl] at h2
  generalize fexp b = ex at *
  generalize b % 4503599627370496 = m0 at *
  generalize b / 4503599627370496 = b1 at *
  generalize fneg b = sg at *
  have hrun := run_fb64
  obtain ⟨M, hM⟩ : ∃ M, M = m0 + 4503599627370496 := ⟨_, rfl⟩
  rw [← hM] at h3 hfm
  have hMb : M < 18446744073709551616 := by omega
  have HM := Lib.hid hM
  clear hM
  rcases Nat.eq_zero_or_pos ex with h0 | h0
  · have h0' : decide (0 < ex) = false := by simp; omega
    rw [if_pos h0] at hfm
    have hmx : max (ex : Int) 1 = 1 := by omega
    have H0 := Lib.hid h0
    clear h0
    go_enter Tryz.func161, Tryz.ntmps161
    go_wp2_with fail
    obtain ⟨W, hW, o1, hB, hS⟩ := boxes1 w 38 [.bool false, .slice none 0 0]
    rw [← hW]
    clear hW
    refine (natOf_spec m0 W (by omega)).mono ?_
    rintro e W1 ⟨v1, rfl, hv1, hb1⟩
    have hsW1 : W.heap.size ≤ W1.heap.size := hb1.size; have hB := hB.trans (hb1.mono hB.size); have o1 := o1.below hb1 o1.lt
    go_wp2_with fail
    refine (wholeOf_spec sg v1 m0 W1 hv1).mono ?_
    rintro e W2 ⟨_, rfl, hw2, hb2⟩
    have hw2' := hw2
    obtain ⟨m', e2, hm'⟩ := hw2
    subst e2
    obtain ⟨a', l', c', rfl, _, _, _⟩ := hm'.any
    have hsW2 : W1.heap.size ≤ W2.heap.size := hb2.size; have hB := hB.trans (hb2.mono hB.size); have o1 := o1.below hb2 o1.lt; have fo1 := o1.free; have co10 := o1.cell 0 _ rfl; have co11 := o1.cell 1 _ rfl
    go_wp2_with fail
    refine bodyPost_ret (v := .tuple #[.agg #[.bool (decide (sgn sg m0 < 0)), .slice a' l' c'], .int .i64 (-1074)]) (by simp [results, Tryz.results161, go_sem, co10, co11]) rfl ⟨_, rfl, ⟨_, by rw [hmx]; rfl, ?_⟩, (hB.setCell (Nat.le_refl _) _).setCell (Nat.le_refl _) _⟩
    rw [hfm.out]
    exact whole_ret hm' o1 rfl
  · have h0' : decide (0 < ex) = true := by simp; omega
    rw [if_neg (by omega)] at hfm
    have hmx : max (ex : Int) 1 = ex := by omega
    go_enter Tryz.func161, Tryz.ntmps161
    go_wp2_with fail
    obtain ⟨W, hW, o1, hB, hS⟩ := boxes1 w 38 [.bool false, .slice none 0 0]
    rw [← hW]
    clear hW
    refine (natOf_spec M W (by omega)).mono ?_
    rintro e W1 ⟨v1, rfl, hv1, hb1⟩
    have hsW1 : W.heap.size ≤ W1.heap.size := hb1.size; have hB := hB.trans (hb1.mono hB.size); have o1 := o1.below hb1 o1.lt
    go_wp2_with fail
    refine (wholeOf_spec sg v1 M W1 hv1).mono ?_
    rintro e W2 ⟨_, rfl, hw2, hb2⟩
    have hw2' := hw2
    obtain ⟨m', e2, hm'⟩ := hw2
    subst e2
    obtain ⟨a', l', c', rfl, _, _, _⟩ := hm'.any
    have hsW2 : W1.heap.size ≤ W2.heap.size := hb2.size; have hB := hB.trans (hb2.mono hB.size); have o1 := o1.below hb2 o1.lt; have fo1 := o1.free; have co10 := o1.cell 0 _ rfl; have co11 := o1.cell 1 _ rfl
    go_wp2_with fail
    refine bodyPost_ret (v := .tuple #[.agg #[.bool (decide (sgn sg M < 0)), .slice a' l' c'], .int .i64 (ex - 1075)]) (by simp [results, Tryz.results161, go_sem, co10, co11]) rfl ⟨_, rfl, ⟨_, by rw [hmx], ?_⟩, (hB.setCell (Nat.le_refl _) _).setCell (Nat.le_refl _) _⟩
    rw [hfm.out]
    exact whole_ret hm' o1 rfl
theorem run_ff64 (n : Nat) (w : World) : (callFunc 187 #[.int .u64 (n : Int)]).run Tryz.prog w = .ok (.value (.float .f64 n)) w := by
  rw [run_callFunc_extern (fn := Tryz.f187) (e := Extern.MathFloatBits.float64frombits) (by kernel_rfl) (by kernel_rfl) (by kernel_rfl) (by kernel_rfl) (by kernel_rfl)]
  rfl
set_option maxRecDepth 100000 in
set_option maxHeartbeats 800000 in
theorem finite_spec (b c : Nat) (w : World) (hc : bits .andNot .u64 (b : Int) 9223372036854775808 = (c : Int)) (h1 : (FloatKind.f64.format.order b b == some .eq) = true) (h2 : (FloatKind.f64.format.order c 9218868437227405311 == some .gt) = false) :
    Calls Tryz.prog 160 #[.float .f64 b] w (fun e w' => e = .returned (.bool true) ∧ w = w') := by
  have hrun := run_fb64
  have hrun2 := run_ff64
  have h1' : (FloatKind.f64.format.order b b != some .eq) = false := by rw [bne, h1]; rfl
  go_enter Tryz.func160, Tryz.ntmps160
  go_wp2
  go_ret
  exact ⟨rfl, rfl⟩
end Go.Proofs.YtfkogkcpndaoeaaGreat
namespace Go.Proofs.YtfkogkcpndaoeaaGreat
open Go.RowKit
def NumBox (w : World) (g : Nat) (x : CQ) : Prop := ∃ (s0 s2 : Bool) (a1 a3 a4 : Option Addr) (l1 c1 l3 c3 l4 c4 : Nat),
  Own w 40 g [.bool s0, .slice a1 l1 c1, .bool s2, .slice a3 l3 c3, .slice a4 l4 c4] ∧ NumRep w (.agg #[.bool s0, .slice a1 l1 c1, .bool s2, .slice a3 l3 c3, .slice a4 l4 c4]) x
theorem numbox_end {W : World} {g : Nat} {x y : CQ} {s0 s2 b0 b2 : Bool} {a1 a3 a4 x1 x3 x4 : Option Addr} {l1 c1 l3 c3 l4 c4 y1 z1 y3 z3 y4 z4 : Nat}
    (h : NumRep W (.agg #[.bool s0, .slice a1 l1 c1, .bool s2, .slice a3 l3 c3, .slice a4 l4 c4]) x) (o : Own W 40 g [.bool b0, .slice x1 y1 z1, .bool b2, .slice x3 y3 z3, .slice x4 y4 z4]) (e : x = y) :
    NumBox (((((W.setCell ⟨g, 0, none⟩ (.bool s0)).setCell ⟨g, 1, none⟩ (.slice a1 l1 c1)).setCell ⟨g, 2, none⟩ (.bool s2)).setCell ⟨g, 3, none⟩ (.slice a3 l3 c3)).setCell ⟨g, 4, none⟩ (.slice a4 l4 c4)) g y := by
  subst e
  exact ⟨_, _, _, _, _, _, _, _, _, _, _, ((((o.set 0 _).set 1 _).set 2 _).set 3 _).set 4 _, num_ret h o⟩
end Go.Proofs.YtfkogkcpndaoeaaGreat
