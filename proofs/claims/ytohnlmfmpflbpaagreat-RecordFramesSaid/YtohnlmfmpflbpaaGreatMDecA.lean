/- record.whole. Conditions: none. record.Decode's word, head.ports, head.fill. Conditions: none. record.Decode: the errors of the form and of the check sum. Conditions: none. Appends of one element to a slice of the call's own, as steps of a region that draws its order. Conditions: none. -/
import Derived.Test.YtohnlmfmpflbpaaGreatMRefA
import Derived.Lib.SlBytesConst
import Derived.Laws.Cover3
import Derived.Deep.AppendLies
set_option linter.unusedSimpArgs false
set_option linter.unusedVariables false
set_option linter.all false
namespace Go.Proofs.YtohnlmfmpflbpaaGreat
open Go.RowKit

/-- The byte at i as a number; 0 where there is none. -/
def byteAt (l : List UInt8) (i : Nat) : Nat := (l.getD i 0).toNat
theorem byteAt_lt (l : List UInt8) (i : Nat) : byteAt l i < 256 := UInt8.toNat_lt _
theorem byteAt_get {l : List UInt8} {i : Nat} {x : UInt8} (h : l[i]? = some x) : x.toNat = byteAt l i := by unfold byteAt; rw [List.getD_eq_getElem?_getD, h]; rfl

/-- Where the bytes are no beginning of a frame. -/
def formErr (l : List UInt8) : Bool := decide ((0 < l.length ∧ byteAt l 0 ≠ 87) ∨ (1 < l.length ∧ byteAt l 1 ≠ 86) ∨ (2 < l.length ∧ (byteAt l 2 < 1 ∨ 8 < byteAt l 2)))
def headLen (l : List UInt8) : Nat := 18 + 10 * byteAt l 2
/-- The first error of the form: 2 no frame, 30 torn, 0 none. -/
def headErr (l : List UInt8) : Nat := if formErr l = true then 2 else if l.length < 3 ∨ l.length < headLen l then 30 else 0

theorem BytesA.cell {w : World} {a : Option Addr} {l : List UInt8} (h : BytesA w a l) {i : Nat} (hi : i < l.length) : ∃ b o, a = some ⟨b, o, none⟩ ∧ w.cell? ⟨b, o + i, none⟩ = some (.int .u8 (byteAt l i : Int)) := by
  obtain ⟨b, o, e, hc⟩ := h i _ (List.getElem?_eq_getElem hi)
  exact ⟨b, o, e, by rw [hc, byteAt_get (List.getElem?_eq_getElem hi)]⟩
theorem BytesA.below {B : Nat} {w w' : World} {a : Option Addr} {l : List UInt8} (h : BytesA w a l) (hb : Below B w w') (hB : w.heap.size ≤ B) : BytesA w' a l := fun i x hx => by
  obtain ⟨b, o, e, hc⟩ := h i x hx
  exact ⟨b, o, e, (hb.cell (Nat.lt_of_lt_of_le (World.block_lt_of_cell? w _ hc) hB)).trans hc⟩

/-- What 'whole' gives. -/
def WholePost (l : List UInt8) (v : Value) : Prop := v = .tuple #[.int .i64 (if headErr l = 0 then (headLen l : Int) else 0), .int .i64 (headErr l : Int)]

theorem whole_form {l : List UInt8} (h : formErr l = true) : WholePost l (.tuple #[.int .i64 0, .int .i64 2]) := by
  have e : headErr l = 2 := by unfold headErr; rw [if_pos h]
  unfold WholePost; rw [e]; rfl
theorem whole_torn {l : List UInt8} (h : formErr l = false) (h2 : l.length < 3 ∨ l.length < headLen l) : WholePost l (.tuple #[.int .i64 0, .int .i64 30]) := by
  have e : headErr l = 30 := by unfold headErr; rw [if_neg (by rw [h]; decide), if_pos h2]
  unfold WholePost; rw [e]; rfl
theorem whole_ok {l : List UInt8} (h : formErr l = false) (h2 : ¬ (l.length < 3 ∨ l.length < headLen l)) : WholePost l (.tuple #[.int .i64 (headLen l : Int), .int .i64 0]) := by
  have e : headErr l = 0 := by unfold headErr; rw [if_neg (by rw [h]; decide), if_neg h2]
  unfold WholePost; rw [e]; rfl

set_option maxRecDepth 100000 in
set_option maxHeartbeats 1600000 in
theorem whole_spec (a : Option Addr) (l : List UInt8) (n cap : Nat) (w : World) (hA : BytesA w a l) (Hn : Hid (l.length = n)) (hcap : n ≤ cap) (hmax : cap ≤ 9223372036854775807) :
    Calls Tryz.prog 75 #[.slice a n cap] w (Ret w fun _ v' => WholePost l v') := by
  have hc0 : 0 < n → ∃ b o, a = some ⟨b, o, none⟩ ∧ w.cell? ⟨b, o + 0, none⟩ = some (.int .u8 (byteAt l 0 : Int)) := fun h => hA.cell (by rw [Hn.out]; exact h)
  have hc1 : 1 < n → ∃ b o, a = some ⟨b, o, none⟩ ∧ w.cell? ⟨b, o + 1, none⟩ = some (.int .u8 (byteAt l 1 : Int)) := fun h => hA.cell (by rw [Hn.out]; exact h)
  have hc2 : 2 < n → ∃ b o, a = some ⟨b, o, none⟩ ∧ w.cell? ⟨b, o + 2, none⟩ = some (.int .u8 (byteAt l 2 : Int)) := fun h => hA.cell (by rw [Hn.out]; exact h)
  have e1 : formErr l = decide ((0 < n ∧ byteAt l 0 ≠ 87) ∨ (1 < n ∧ byteAt l 1 ≠ 86) ∨ (2 < n ∧ (byteAt l 2 < 1 ∨ 8 < byteAt l 2))) := by unfold formErr; rw [Hn.out]
  have e2 : (l.length < 3 ∨ l.length < headLen l) ↔ (n < 3 ∨ n < 18 + 10 * byteAt l 2) := by unfold headLen; rw [Hn.out]
  have e3 : headLen l = 18 + 10 * byteAt l 2 := rfl
  have p1 := @whole_form l
  have p2 := @whole_torn l
  have p3 := @whole_ok l
  rw [e1, e2] at *
  rw [e3] at p3
  have b0 := byteAt_lt l 0
  have b1 := byteAt_lt l 1
  have b2 := byteAt_lt l 2
  generalize byteAt l 0 = x0 at *
  generalize byteAt l 1 = x1 at *
  generalize byteAt l 2 = x2 at *
  clear e1 e2 e3 hA
  have P1 := Lib.hid p1
  have P2 := Lib.hid p2
  have P3 := Lib.hid p3
  have C0 := Lib.hid hc0
  have C1 := Lib.hid hc1
  have C2 := Lib.hid hc2
  clear p1 p2 p3 hc0 hc1 hc2
  have kc := fun (w : World) (C : Array Value) (n c : Nat) => Lib.run_convert_bytes_const (P := Tryz.prog) w 31 5 C n c Tryz.underlying31 Tryz.underlying5
  go_enter Tryz.func75, Tryz.ntmps75
  go_wp2_with fail
  obtain ⟨V, hV⟩ : ∃ V, V = w.alloc (.cells #[.int .u8 87, .int .u8 86] 5 (2, 3)) := ⟨_, rfl⟩
  have hB : Below w.heap.size w V := by rw [hV]; exact (Below.refl _ _).alloc (Nat.le_refl _) _
  have hh : V.heap[w.heap.size]? = some (.cells #[.int .u8 87, .int .u8 86] 5 (2, 3)) := by rw [hV]; show (w.heap.push _)[w.heap.size]? = _; simp
  have g0 : V.cell? ⟨w.heap.size, 0 + 0, none⟩ = some (.int .u8 87) := by simp only [World.cell?, hh]; rfl
  have g1 : V.cell? ⟨w.heap.size, 0 + 1, none⟩ = some (.int .u8 86) := by simp only [World.cell?, hh]; rfl
  rw [← hV]
  clear hV kc hh
  simp only [Nat.zero_add] at g0 g1
  go_loop [10] (fun iv => ∃ k : Nat, k ≤ 2 ∧ iv = .int .i64 (k : Int) ∧ (0 < k → n ≤ 0 ∨ x0 = 87) ∧ (1 < k → n ≤ 1 ∨ x1 = 86)) (fun i => 2 - (intOf i).toNat)
  case atStart => exact ⟨0, Nat.zero_le _, rfl, by omega, by omega⟩
  case round =>
    obtain ⟨k, hk, rfl, r0, r1⟩ := hrel
    rcases (show k = 0 ∨ k = 1 ∨ k = 2 by omega) with rfl | rfl | rfl
    · clear r0 r1
      by_cases hn : 0 < n
      · obtain ⟨b, o, rfl, hc⟩ := C0.out hn
        replace hc := (hB.cell (p := ⟨b, o + 0, none⟩) (World.block_lt_of_cell? w _ hc)).trans hc
        simp only [Nat.add_zero] at hc
        by_cases hx : x0 = 87
        · subst hx
          go_wp2_with fail
          go_round
          case rel => exact ⟨1, by omega, by go_num, fun _ => by simp, by omega⟩
          case measure => simp [intOf]
        · have hx' : ((x0 : Int) != 87) = true := by simp; omega
          have P := P1.out (by simp; omega)
          clear hx
          go_wp2_with fail
          go_ret2
          exact ⟨_, rfl, P, hB⟩
      · have hn' : decide ((0 : Int) < (n : Int)) = false := by simp; omega
        go_wp2_with fail
        go_round
        case rel => exact ⟨1, by omega, by go_num, fun _ => .inl (by omega), by omega⟩
        case measure => simp [intOf]
    · have r0 := Lib.hid (r0 (by omega))
      clear r1
      by_cases hn : 1 < n
      · obtain ⟨b, o, rfl, hc⟩ := C1.out hn
        replace hc := (hB.cell (p := ⟨b, o + 1, none⟩) (World.block_lt_of_cell? w _ hc)).trans hc
        by_cases hx : x1 = 86
        · subst hx
          go_wp2_with fail
          go_round
          case rel => exact ⟨2, by omega, by go_num, fun _ => r0.out, fun _ => by simp⟩
          case measure => simp [intOf]
        · have hx' : ((x1 : Int) != 86) = true := by simp; omega
          have P := P1.out (by simp; omega)
          clear hx
          go_wp2_with fail
          go_ret2
          exact ⟨_, rfl, P, hB⟩
      · have hn' : decide ((1 : Int) < (n : Int)) = false := by simp; omega
        go_wp2_with fail
        go_round
        case rel => exact ⟨2, by omega, by go_num, fun _ => r0.out, fun _ => .inl (by omega)⟩
        case measure => simp [intOf]
    · have r0 := Lib.hid (r0 (by omega))
      have r1 := Lib.hid (r1 (by omega))
      by_cases hn : 2 < n
      · obtain ⟨b, o, rfl, hc⟩ := C2.out hn
        replace hc := (hB.cell (p := ⟨b, o + 2, none⟩) (World.block_lt_of_cell? w _ hc)).trans hc
        by_cases hx : 1 ≤ x2 ∧ x2 ≤ 8
        · obtain ⟨hx1, hx2⟩ := hx
          have hR : inR (x2 : Int) 1 8 = true := by simp [inR]; omega
          by_cases hl : n < 18 + 10 * x2
          · have P := P2.out (by have := r0.out; have := r1.out; simp; omega) (by omega)
            go_wp2_with (refine (inRange_spec _ _ _ _).mono ?_; rintro e w' ⟨rfl, rfl⟩)
            go_ret2
            exact ⟨_, rfl, P, hB⟩
          · have P := P3.out (by have := r0.out; have := r1.out; simp; omega) (by omega)
            have e18 : 16 + 10 * (x2 : Int) + 2 = ((18 + 10 * x2 : Nat) : Int) := by omega
            rw [← e18] at P
            clear e18
            go_wp2_with (refine (inRange_spec _ _ _ _).mono ?_; rintro e w' ⟨rfl, rfl⟩)
            go_ret2
            exact ⟨_, rfl, P, hB⟩
        · have hR : inR (x2 : Int) 1 8 = false := by simp [inR]; omega
          have P := P1.out (by simp; omega)
          clear hx
          go_wp2_with (refine (inRange_spec _ _ _ _).mono ?_; rintro e w' ⟨rfl, rfl⟩)
          go_ret2
          exact ⟨_, rfl, P, hB⟩
      · have hn' : decide ((2 : Int) < (n : Int)) = false := by simp; omega
        have hn3 : decide ((n : Int) < 3) = true := by simp; omega
        have P := P2.out (by have := r0.out; have := r1.out; simp; omega) (by omega)
        go_wp2_with fail
        go_ret2
        exact ⟨_, rfl, P, hB⟩
end Go.Proofs.YtohnlmfmpflbpaaGreat

namespace Go.Proofs.YtohnlmfmpflbpaaGreat
open Go.RowKit

/-- The number that two bytes mean. -/
def wordAt (l : List UInt8) (i : Nat) : Nat := 256 * byteAt l i + byteAt l (i + 1)
theorem wordAt_lt (l : List UInt8) (i : Nat) : wordAt l i < 65536 := by have := byteAt_lt l i; have := byteAt_lt l (i + 1); unfold wordAt; omega

theorem or_shift (x y k : Nat) (h : y < 2 ^ k) : (x * 2 ^ k) ||| y = 2 ^ k * x + y := by rw [Nat.two_pow_add_eq_or_of_lt h x, Nat.mul_comm]
theorem or16 (x y : Nat) (hx : x < 256) (hy : y < 256) : bits .or .u16 ((x : Int) * 256) (y : Int) = ((256 * x + y : Nat) : Int) := by
  have h := u16_or_nat (x * 256) y (by omega) (by omega)
  rw [show x * 256 ||| y = 256 * x + y from or_shift x y 8 hy] at h
  rw [← h]; rfl
theorem i64_or_nat (a b : Nat) (ha : a < 9223372036854775808) (hb : b < 9223372036854775808) : bits .or .i64 (a : Int) (b : Int) = ((a ||| b : Nat) : Int) := by
  have hx : a ||| b < 2 ^ 63 := Nat.or_lt_two_pow (by omega) (by omega)
  show IntKind.i64.wrap ((BitVec.ofInt 64 (a : Int) ||| BitVec.ofInt 64 (b : Int)).toNat : Int) = _
  rw [BitVec.toNat_or, BitVec.ofInt_natCast, BitVec.ofInt_natCast, BitVec.toNat_ofNat, BitVec.toNat_ofNat, Nat.mod_eq_of_lt (by omega), Nat.mod_eq_of_lt (by omega)]
  exact IntWalk.i64_in _ (by omega)
theorem or64 (x y : Nat) (hx : x < 4294967296) (hy : y < 256) : bits .or .i64 ((x : Int) * 256) (y : Int) = ((256 * x + y : Nat) : Int) := by
  have h := i64_or_nat (x * 256) y (by omega) (by omega)
  rw [show x * 256 ||| y = 256 * x + y from or_shift x y 8 hy] at h
  rw [← h]; rfl
/-- The number that four bytes mean, put together as the program does. -/
theorem or32 (x y z u : Nat) (hx : x < 256) (hy : y < 256) (hz : z < 256) (hu : u < 256) : ∃ A B : Nat, bits .or .u32 ((x : Int) * 16777216) ((y : Int) * 65536) = (A : Int) ∧ bits .or .u32 (A : Int) ((z : Int) * 256) = (B : Int) ∧ bits .or .u32 (B : Int) (u : Int) = ((65536 * (256 * x + y) + (256 * z + u) : Nat) : Int) := by
  refine ⟨16777216 * x + 65536 * y, 16777216 * x + 65536 * y + 256 * z, ?_, ?_, ?_⟩
  · have h := u32_or_nat (x * 16777216) (y * 65536) (by omega) (by omega)
    rw [show x * 16777216 ||| y * 65536 = 16777216 * x + y * 65536 from or_shift x (y * 65536) 24 (by omega)] at h
    rw [show 16777216 * x + 65536 * y = 16777216 * x + y * 65536 by omega, ← h]; rfl
  · have h := u32_or_nat ((256 * x + y) * 65536) (z * 256) (by omega) (by omega)
    rw [show (256 * x + y) * 65536 ||| z * 256 = 65536 * (256 * x + y) + z * 256 from or_shift (256 * x + y) (z * 256) 16 (by omega)] at h
    rw [show 16777216 * x + 65536 * y + 256 * z = 65536 * (256 * x + y) + z * 256 by omega, show 16777216 * x + 65536 * y = (256 * x + y) * 65536 by omega, ← h]; rfl
  · have h := u32_or_nat ((65536 * x + 256 * y + z) * 256) u (by omega) (by omega)
    rw [show (65536 * x + 256 * y + z) * 256 ||| u = 256 * (65536 * x + 256 * y + z) + u from or_shift (65536 * x + 256 * y + z) u 8 hu] at h
    rw [show 16777216 * x + 65536 * y + 256 * z = (65536 * x + 256 * y + z) * 256 by omega, show 65536 * (256 * x + y) + (256 * z + u) = 256 * (65536 * x + 256 * y + z) + u by omega, ← h]

set_option maxHeartbeats 800000 in
theorem word_spec (g : Nat) (a : Option Addr) (l : List UInt8) (n cap i : Nat) (w : World) (hg : w.cell? ⟨g, 0, none⟩ = some (.slice a n cap)) (hA : BytesA w a l) (Hn : Hid (l.length = n)) (hi : i + 1 < n) (hn : n ≤ 9223372036854775807) :
    Calls Tryz.prog 76 #[.int .i64 (i : Int), .pointer (some ⟨g, 0, none⟩)] w (fun e w' => e = .returned (.int .u16 (wordAt l i : Int)) ∧ ∃ k, w' = w.drewN k) := by
  obtain ⟨b, o, rfl, h1⟩ := hA.cell (i := i) (by rw [Hn.out]; omega)
  obtain ⟨_, _, e, h2⟩ := hA.cell (i := i + 1) (by rw [Hn.out]; omega)
  injection e with e
  injection e with e1 e2
  subst e1 e2
  have hw : Hid (wordAt l i = 256 * byteAt l i + byteAt l (i + 1)) := rfl
  have b0 := byteAt_lt l i
  have b1 := byteAt_lt l (i + 1)
  generalize byteAt l i = x at *
  generalize byteAt l (i + 1) = y at *
  clear hA
  have s1 : IntKind.i64.wrap ((i : Int) + 1) = (i : Int) + 1 := IntWalk.i64_in _ (by omega)
  have s2 : (0 : Int) ≤ (i : Int) + 1 := by omega
  have s3 : ((i : Int) + 1).toNat = i + 1 := by omega
  have s4 : (i : Int) < (n : Int) := by omega
  have s5 : (i : Int) + 1 < (n : Int) := by omega
  go_enter Tryz.func76, Tryz.ntmps76
  go_wp2_with fail
  go_quiet (fail)
  go_wp2_with fail
  go_ret
  exact ⟨by rw [hw.out, ← or16 x y b0 b1]; rfl, _, rfl⟩

theorem word_spec' (g : Nat) (a : Option Addr) (l : List UInt8) (n cap i : Nat) (z : Int) (w : World) (hz : z = (i : Int)) (hg : w.cell? ⟨g, 0, none⟩ = some (.slice a n cap)) (hA : BytesA w a l) (Hn : Hid (l.length = n)) (hi : i + 1 < n) (hn : n ≤ 9223372036854775807) :
    Calls Tryz.prog 76 #[.int .i64 z, .pointer (some ⟨g, 0, none⟩)] w (fun e w' => e = .returned (.int .u16 (wordAt l i : Int)) ∧ ∃ k, w' = w.drewN k) := by
  subst hz
  exact word_spec g a l n cap i w hg hA Hn hi hn

theorem run_ff32 (n : Nat) (w : World) : (callFunc 73 #[.int .u32 (n : Int)]).run Tryz.prog w = .ok (.value (.float .f32 n)) w := by
  rw [run_callFunc_extern (fn := Tryz.f73) (e := Extern.MathFloatBits.float32frombits) (by kernel_rfl) (by kernel_rfl) (by kernel_rfl) (by kernel_rfl) (by kernel_rfl)]
  rfl

/-- The number that four bytes mean. -/
def longAt (l : List UInt8) (i : Nat) : Nat := 65536 * wordAt l i + wordAt l (i + 2)
theorem longAt_lt (l : List UInt8) (i : Nat) : longAt l i < 4294967296 := by have := wordAt_lt l i; have := wordAt_lt l (i + 2); unfold longAt; omega

/-- The head's cells. -/
def headCells (l : List UInt8) : List Value := [.int .u8 (byteAt l 0 : Int), .int .u8 (byteAt l 1 : Int), .int .u8 (byteAt l 2 : Int), .int .u8 (byteAt l 3 : Int), .int .u8 (byteAt l 4 : Int), .int .u8 (byteAt l 5 : Int), .int .u8 (byteAt l 6 : Int), .int .u8 (byteAt l 7 : Int), .int .u8 (byteAt l 8 : Int), .int .u8 (byteAt l 9 : Int), .int .u8 (byteAt l 10 : Int), .int .u8 (byteAt l 11 : Int), .int .u8 (byteAt l 12 : Int), .int .u8 (byteAt l 13 : Int), .int .u8 (byteAt l 14 : Int), .int .u8 (byteAt l 15 : Int)]

set_option maxHeartbeats 400000 in
theorem ports_spec (l : List UInt8) (w : World) :
    Calls Tryz.prog 78 #[.agg #[.int .u8 (byteAt l 0 : Int), .int .u8 (byteAt l 1 : Int), .int .u8 (byteAt l 2 : Int), .int .u8 (byteAt l 3 : Int), .int .u8 (byteAt l 4 : Int), .int .u8 (byteAt l 5 : Int), .int .u8 (byteAt l 6 : Int), .int .u8 (byteAt l 7 : Int), .int .u8 (byteAt l 8 : Int), .int .u8 (byteAt l 9 : Int), .int .u8 (byteAt l 10 : Int), .int .u8 (byteAt l 11 : Int), .int .u8 (byteAt l 12 : Int), .int .u8 (byteAt l 13 : Int), .int .u8 (byteAt l 14 : Int), .int .u8 (byteAt l 15 : Int)]] w (Ret w fun _ v' => v' = .int .i64 (byteAt l 2 : Int)) := by
  have b2 := byteAt_lt l 2
  go_enter Tryz.func78, Tryz.ntmps78
  go_upto_region 1 with (fail)
  obtain ⟨W, hW, o1, hB, hS⟩ := boxes1 w 154 (headCells l)
  unfold headCells at hW
  rw [← hW]
  clear hW
  have c2 := o1.cell 2 _ rfl
  go_wp2_with fail
  go_ret
  exact ⟨_, rfl, rfl, hB⟩

theorem run_store_float (a : Addr) (k : FloatKind) (b : Nat) (m : Mode) (w : World) : (store a (.float k b) m).run Tryz.prog w = stored Tryz.prog w a (.float k b) m := run_store Tryz.prog w a _ m rfl

set_option maxRecDepth 100000 in
set_option maxHeartbeats 1600000 in
theorem fill_spec (l : List UInt8) (g : Nat) (w : World) (ho : Own w 27 g [.int .u32 0, .int .i64 0, .int .i64 0, .int .i64 0, .float .f32 0, .slice none 0 0, .slice none 0 0]) :
    Calls Tryz.prog 77 #[.agg #[.int .u8 (byteAt l 0 : Int), .int .u8 (byteAt l 1 : Int), .int .u8 (byteAt l 2 : Int), .int .u8 (byteAt l 3 : Int), .int .u8 (byteAt l 4 : Int), .int .u8 (byteAt l 5 : Int), .int .u8 (byteAt l 6 : Int), .int .u8 (byteAt l 7 : Int), .int .u8 (byteAt l 8 : Int), .int .u8 (byteAt l 9 : Int), .int .u8 (byteAt l 10 : Int), .int .u8 (byteAt l 11 : Int), .int .u8 (byteAt l 12 : Int), .int .u8 (byteAt l 13 : Int), .int .u8 (byteAt l 14 : Int), .int .u8 (byteAt l 15 : Int)], .pointer (some ⟨g, 0, none⟩)] w (fun e w' => e = .returned (.tuple #[]) ∧ Own w' 27 g [.int .u32 (longAt l 4 : Int), .int .i64 (wordAt l 8 : Int), .int .i64 (byteAt l 3 : Int), .int .i64 (byteAt l 10 : Int), .float .f32 (longAt l 12), .slice none 0 0, .slice none 0 0] ∧ w.grownBy w' (some g)) := by
  have hb := byteAt_lt l
  obtain ⟨A, B, q1, q2, q3⟩ := or32 _ _ _ _ (hb 4) (hb 5) (hb 6) (hb 7)
  obtain ⟨C, D, q4, q5, q6⟩ := or32 _ _ _ _ (hb 12) (hb 13) (hb 14) (hb 15)
  have q7 := or64 (byteAt l 8) (byteAt l 9) (by have := hb 8; omega) (hb 9)
  have e4 : 65536 * (256 * byteAt l 4 + byteAt l 5) + (256 * byteAt l 6 + byteAt l 7) = longAt l 4 := rfl
  have e12 : 65536 * (256 * byteAt l 12 + byteAt l 13) + (256 * byteAt l 14 + byteAt l 15) = longAt l 12 := rfl
  have e8 : 256 * byteAt l 8 + byteAt l 9 = wordAt l 8 := rfl
  rw [e4] at q3
  rw [e12] at q6
  rw [e8] at q7
  have h3 := hb 3; have h4 := hb 4; have h5 := hb 5; have h6 := hb 6; have h7 := hb 7; have h8 := hb 8; have h9 := hb 9; have h10 := hb 10; have h12 := hb 12; have h13 := hb 13; have h14 := hb 14; have h15 := hb 15
  clear e4 e12 e8 hb
  have hrun := run_ff32
  have hst := run_store_float
  go_enter Tryz.func77, Tryz.ntmps77
  go_upto_region 1 with (fail)
  obtain ⟨W, hW, o1, hB, hS⟩ := boxes1 w 154 (headCells l)
  unfold headCells at hW
  rw [← hW]
  clear hW
  have og := ho.below hB ho.lt
  have hgr : w.grownBy W (some g) := grown_of_below hB _
  have hne : w.heap.size ≠ g := by have := ho.lt; omega
  generalize w.heap.size = gh at *
  unfold headCells at o1
  have fo1 := o1.free; have co10 := o1.cell 0 _ rfl; have co11 := o1.cell 1 _ rfl; have co12 := o1.cell 2 _ rfl; have co13 := o1.cell 3 _ rfl; have co14 := o1.cell 4 _ rfl; have co15 := o1.cell 5 _ rfl; have co16 := o1.cell 6 _ rfl; have co17 := o1.cell 7 _ rfl; have co18 := o1.cell 8 _ rfl; have co19 := o1.cell 9 _ rfl; have co110 := o1.cell 10 _ rfl; have co111 := o1.cell 11 _ rfl; have co112 := o1.cell 12 _ rfl; have co113 := o1.cell 13 _ rfl; have co114 := o1.cell 14 _ rfl; have co115 := o1.cell 15 _ rfl
  have fog := og.free; have cog0 := og.cell 0 _ rfl; have cog1 := og.cell 1 _ rfl; have cog2 := og.cell 2 _ rfl; have cog3 := og.cell 3 _ rfl; have cog4 := og.cell 4 _ rfl; have cog5 := og.cell 5 _ rfl; have cog6 := og.cell 6 _ rfl
  go_wp2_with fail
  go_end0
  refine ⟨rfl, ?_, ?_⟩
  · exact ((((og.set 2 _).set 0 _).set 1 _).set 3 _).set 4 _
  · exact grown_set (grown_set (grown_set (grown_set (grown_set hgr _ _) _ _) _ _) _ _) _ _
end Go.Proofs.YtohnlmfmpflbpaaGreat

namespace Go.Proofs.YtohnlmfmpflbpaaGreat
open Go.RowKit

def s16 (x : Nat) : Int := if x < 32768 then (x : Int) else (x : Int) - 65536
theorem s16_ok {x : Nat} (h : x < 65536) : I16 (s16 x) := by unfold s16 I16; split <;> omega
theorem s16_wrap {x : Nat} (h : x < 65536) : IntKind.i16.wrap (x : Int) = s16 x := by
  rw [show IntKind.i16.wrap (x : Int) = ((x : Int) + 32768) % 65536 - 32768 from by simp [IntKind.wrap, IntKind.bits, IntKind.signed, Int.bmod_def]; try (split <;> omega)]
  unfold s16; split <;> omega
def prAt (l : List UInt8) (at' : Nat) : Pr := ⟨s16 (wordAt l (at' + 2)), s16 (wordAt l (at' + 4)), s16 (wordAt l (at' + 6)), s16 (wordAt l (at' + 8))⟩
/-- The frame that bytes mean. -/
def decFr (l : List UInt8) : Fr :=
  { seq := longAt l 4, point := wordAt l 8, source := byteAt l 3, turn := byteAt l 10, scale := longAt l 12,
    mates := (List.range (byteAt l 2)).map fun i => (wordAt l (16 + 10 * i) : Int), pairs := (List.range (byteAt l 2)).map fun i => prAt l (16 + 10 * i) }
def zeroFr : Fr := ⟨0, 0, 0, 0, 0, [], []⟩
/-- The result of Decode: 0 is no error. -/
def decErr (l : List UInt8) : Nat :=
  if headErr l ≠ 0 then headErr l else if crc (l.take (headLen l - 2)) ≠ wordAt l (headLen l - 2) then 31
  else if byteAt l 11 ≠ 0 ∨ (decFr l).valid = false then 1 else 0
def DecPost (l : List UInt8) (w' : World) (v' : Value) : Prop :=
  ∃ u, v' = .tuple #[u, .int .i64 (if decErr l = 0 then (headLen l : Int) else 0), .int .i64 (decErr l : Int)] ∧ FrRep w' u (if decErr l = 0 then decFr l else zeroFr)

theorem below7 {B : Nat} {a w : World} {g : Nat} {v0 v1 v2 v3 v4 v5 v6 : Value} (h : Below B a w) (hg : B ≤ g) : Below B a (((((((w.setCell ⟨g, 0, none⟩ v0).setCell ⟨g, 1, none⟩ v1).setCell ⟨g, 2, none⟩ v2).setCell ⟨g, 3, none⟩ v3).setCell ⟨g, 4, none⟩ v4).setCell ⟨g, 5, none⟩ v5).setCell ⟨g, 6, none⟩ v6) :=
  ((((((h.setCell hg _).setCell hg _).setCell hg _).setCell hg _).setCell hg _).setCell hg _).setCell hg _
theorem zeroFr_rep (w : World) : FrRep w (.agg #[.int .u32 0, .int .i64 0, .int .i64 0, .int .i64 0, .float .f32 0, .slice none 0 0, .slice none 0 0]) zeroFr :=
  ⟨_, _, rfl, .inl ⟨rfl, rfl⟩, .inl ⟨rfl, rfl⟩, by constructor <;> simp [zeroFr, I64]⟩

theorem dec_bad {l : List UInt8} {e : Nat} {w : World} (h : decErr l = e) (h0 : e ≠ 0) : DecPost l w (.tuple #[.agg #[.int .u32 0, .int .i64 0, .int .i64 0, .int .i64 0, .float .f32 0, .slice none 0 0, .slice none 0 0], .int .i64 0, .int .i64 (e : Int)]) := by
  unfold DecPost
  rw [if_neg (show ¬ decErr l = 0 by rw [h]; exact h0), if_neg (show ¬ decErr l = 0 by rw [h]; exact h0), h]
  exact ⟨_, rfl, zeroFr_rep w⟩

set_option maxRecDepth 100000 in
set_option maxHeartbeats 1600000 in
theorem decode_head (a : Option Addr) (l : List UInt8) (n cap : Nat) (w : World) (hA : BytesA w a l) (Hn : Hid (l.length = n)) (hcap : n ≤ cap) (hmax : cap ≤ 9223372036854775807) (he : headErr l ≠ 0) :
    Calls Tryz.prog 49 #[.slice a n cap] w (Ret w fun w' v' => DecPost l w' v') := by
  have h1 : decErr l = headErr l := by unfold decErr; rw [if_pos he]
  have hw := whole_spec a l n cap
  unfold WholePost at hw
  rw [if_neg he] at hw
  have hd := fun w => dec_bad (w := w) h1 he
  have hne : ((headErr l : Int) != 0) = true := by simp; omega
  have HW := Lib.hid hw
  have HD := Lib.hid hd
  clear hw hd he h1
  generalize headErr l = e at *
  go_enter Tryz.func49, Tryz.ntmps49
  go_upto_region 1 with (fail)
  obtain ⟨W, hW, o1, o2, hB, hS⟩ := boxes2 w 31 27 [.slice a n cap] [.int .u32 0, .int .i64 0, .int .i64 0, .int .i64 0, .float .f32 0, .slice none 0 0, .slice none 0 0]
  rw [← hW]
  clear hW
  have c10 := o1.cell 0 _ rfl
  go_wp2_with fail
  refine (HW.out W (hA.below hB (Nat.le_refl _)) Hn hcap hmax).mono ?_
  rintro e1 W1 ⟨_, rfl, rfl, hb1⟩
  have hsW1 : W.heap.size ≤ W1.heap.size := hb1.size; have hB := hB.trans (hb1.mono hB.size); have o1 := o1.below hb1 o1.lt; have o2 := o2.below hb1 o2.lt; have fo2 := o2.free; have co20 := o2.cell 0 _ rfl; have co21 := o2.cell 1 _ rfl; have co22 := o2.cell 2 _ rfl; have co23 := o2.cell 3 _ rfl; have co24 := o2.cell 4 _ rfl; have co25 := o2.cell 5 _ rfl; have co26 := o2.cell 6 _ rfl
  have hst := run_store_float
  go_wp2_with fail
  exact bodyPost_ret (by simp [results, Tryz.results49, go_sem, co20, co21, co22, co23, co24, co25, co26, fo2]) rfl ⟨_, rfl, HD.out _, below7 hB (by omega)⟩

theorem BytesA.take {w : World} {a : Option Addr} {l : List UInt8} (h : BytesA w a l) (k : Nat) : BytesA w a (l.take k) := fun i x hx => by
  rcases Nat.lt_or_ge i k with hi | hi
  · rw [List.getElem?_take_of_lt hi] at hx; exact h i x hx
  · rw [List.getElem?_eq_none (by rw [List.length_take]; omega)] at hx; cases hx

theorem BytesA.take' {w : World} {a : Option Addr} {l l' : List UInt8} (h : BytesA w a l) {k : Nat} (e : l.take k = l') : BytesA w a l' := e ▸ h.take k

set_option maxRecDepth 100000 in
set_option maxHeartbeats 1600000 in
theorem decode_sum (a : Option Addr) (l : List UInt8) (n cap : Nat) (w : World) (hA : BytesA w a l) (Hn : Hid (l.length = n)) (hcap : n ≤ cap) (hmax : cap ≤ 9223372036854775807) (he : headErr l = 0) (hc : crc (l.take (headLen l - 2)) ≠ wordAt l (headLen l - 2)) :
    Calls Tryz.prog 49 #[.slice a n cap] w (Ret w fun w' v' => DecPost l w' v') := by
  have h1 : decErr l = 31 := by unfold decErr; rw [if_neg (by omega), if_pos hc]
  have hw := whole_spec a l n cap
  unfold WholePost at hw
  rw [if_pos he, he] at hw
  have hd := fun w => dec_bad (w := w) h1 (by omega)
  have hN : headLen l ≤ n := by
    unfold headErr at he
    rw [← Hn.out]
    split at he
    · omega
    · split at he <;> omega
  have hN2 : 18 ≤ headLen l := by unfold headLen; omega
  have hne : ((crc (l.take (headLen l - 2)) : Int) != (wordAt l (headLen l - 2) : Int)) = true := by simp only [bne_iff_ne, ne_eq]; omega
  have hT := hA.take (headLen l - 2)
  have hTn : Hid ((l.take (headLen l - 2)).length = headLen l - 2) := by show _ = _; rw [List.length_take, Hn.out]; omega
  obtain ⟨b, o, rfl, -⟩ := hA.cell (i := 0) (by rw [Hn.out]; omega)
  have hs := fun w' (h : BytesA w' (some ⟨b, o, none⟩) (l.take (headLen l - 2))) => sum_spec (some ⟨b, o, none⟩) (l.take (headLen l - 2)) (headLen l - 2) cap w' h hTn (by omega) hmax
  have hwd := fun (g : Nat) w' (h0 : w'.cell? ⟨g, 0, none⟩ = some (.slice (some ⟨b, o, none⟩) n cap)) (h : BytesA w' (some ⟨b, o, none⟩) l) => word_spec g (some ⟨b, o, none⟩) l n cap (headLen l - 2) w' h0 h Hn (by omega) (by omega)
  have HW := Lib.hid hw
  have HD := Lib.hid hd
  have HS := Lib.hid hs
  have HWD := Lib.hid hwd
  clear hw hd hs hwd he h1 hc
  generalize crc (l.take (headLen l - 2)) = C at *
  generalize wordAt l (headLen l - 2) = D at *
  generalize hlt : l.take (headLen l - 2) = lt at *
  have HLT := Lib.hid hlt
  clear hlt hT
  generalize headLen l = N at *
  have s4 : (N : Int) - 2 = ((N - 2 : Nat) : Int) := by omega
  have S4 := Lib.hid s4
  clear s4
  have s1 : IntKind.i64.wrap ((N : Int) - 2) = (N : Int) - 2 := IntWalk.i64_in _ (by omega)
  have s2 : ((N : Int) - 2).toNat = N - 2 := by omega
  have s3 : (0 : Int) ≤ (N : Int) - 2 := by omega
  go_enter Tryz.func49, Tryz.ntmps49
  go_upto_region 1 with (fail)
  obtain ⟨W, hW, o1, o2, hB, hS⟩ := boxes2 w 31 27 [.slice (some ⟨b, o, none⟩) n cap] [.int .u32 0, .int .i64 0, .int .i64 0, .int .i64 0, .float .f32 0, .slice none 0 0, .slice none 0 0]
  rw [← hW]
  clear hW
  have c10 := o1.cell 0 _ rfl
  go_wp2_with fail
  refine (HW.out W (hA.below hB (Nat.le_refl _)) Hn hcap hmax).mono ?_
  rintro e1 W1 ⟨_, rfl, rfl, hb1⟩
  clear c10
  have hsW1 : W.heap.size ≤ W1.heap.size := hb1.size; have hB := hB.trans (hb1.mono hB.size); have o1 := o1.below hb1 o1.lt; have o2 := o2.below hb1 o2.lt; have fo2 := o2.free; have co20 := o2.cell 0 _ rfl; have co21 := o2.cell 1 _ rfl; have co22 := o2.cell 2 _ rfl; have co23 := o2.cell 3 _ rfl; have co24 := o2.cell 4 _ rfl; have co25 := o2.cell 5 _ rfl; have co26 := o2.cell 6 _ rfl
  have c10 := o1.cell 0 _ rfl
  have hst := run_store_float
  go_wp2_with fail
  refine (HS.out W1 ((hA.below hB (Nat.le_refl _)).take' HLT.out)).mono ?_
  rintro e1 w' ⟨rfl, rfl⟩
  go_wp2_with fail
  rw [S4.out]
  refine (HWD.out w.heap.size W1 c10 (hA.below hB (Nat.le_refl _))).mono ?_
  rintro e1 w' ⟨rfl, k, rfl⟩
  go_wp2_with fail
  exact bodyPost_ret (by simp [results, Tryz.results49, go_sem, co20, co21, co22, co23, co24, co25, co26, fo2]) rfl ⟨_, rfl, HD.out _, below7 (below_drewN hB k) (by omega)⟩
end Go.Proofs.YtohnlmfmpflbpaaGreat

namespace Go.Proofs.YtohnlmfmpflbpaaGreat
open Go.RowKit

theorem info_int : (Tryz.prog.info? 3).map (fun i => (i.zero, i.size, i.bytes)) = some (some (.int .i64 0), 1, 8) := by kernel_rfl
theorem info_pair : (Tryz.prog.info? 90).map (fun i => (i.zero, i.size, i.bytes)) = some (some (.agg #[.int .i16 0, .int .i16 0, .int .i16 0, .int .i16 0]), 4, 8) := by kernel_rfl

theorem Own.grown {w w' : World} {E : TypeId} {g g' : Nat} {cs : List Value} (h : Own w E g cs) (hg : w.grownBy w' (some g')) (hne : g ≠ g') : Own w' E g cs := by
  have hl := h.lt
  unfold Own at *
  rw [hg.block g hl (fun e => hne (Option.some.inj e))]; exact h
/-- A block that lies below the base of a row is kept where the row is appended to. -/
theorem Own.keptRow {w w' : World} {E : TypeId} {g base n size : Nat} {T : TypeId} {cs xs : List Value} {v : Value} (h : Own w E g cs) (hr : w.ownsRow base T size v n xs) (hg : w.grownBy w' v.ownBlock) (hb : g < base) : Own w' E g cs := by
  have hl := h.lt
  unfold Own at *
  rw [hg.block g hl (fun e => by have := (hr.lt g e.symm).1; omega)]; exact h
theorem below_row {w w' : World} {B base n size : Nat} {T : TypeId} {xs : List Value} {v : Value} {a : World} (h : Below B a w) (hr : w.ownsRow base T size v n xs) (hg : w.grownBy w' v.ownBlock) (hb : B ≤ base) (hw : B ≤ w.heap.size) : Below B a w' :=
  h.grown hg hw (fun j hj => Nat.le_trans hb (hr.lt j hj).1)
/-- Two rows of different types do not meet. -/
theorem row_ne {w : World} {b1 b2 s1 s2 n1 n2 : Nat} {T1 T2 : TypeId} {v1 v2 : Value} {x1 x2 : List Value} (h1 : w.ownsRow b1 T1 s1 v1 n1 x1) (h2 : w.ownsRow b2 T2 s2 v2 n2 x2) (h : T1 ≠ T2) : v1.ownBlock = none ∨ v1.ownBlock ≠ v2.ownBlock := by
  rcases h1.2 with ⟨rfl, _⟩ | ⟨g, cap, cur, rfl, _, hg, _⟩
  · exact .inl rfl
  · refine .inr fun e => ?_
    rcases h2.2 with ⟨rfl, _⟩ | ⟨g', cap', cur', rfl, _, hg', _⟩
    · simp [Value.ownBlock] at e
    · have : g = g' := by simpa [Value.ownBlock] using e
      subst this
      rw [hg] at hg'
      simp only [Option.some.injEq, Obj.cells.injEq] at hg'
      exact h hg'.2.1

/-- append(out, x) of one int, at a step of a region that draws. -/
theorem step_app_int {ops : Array Oper} {o : Oper} {a : Act} {K : Act → World → Prop} {Q : Exit → Act → World → Prop} {E : Prop} (W : World) (hgd : o.guard = none) (s x : Operand)
    (ho : o.op = .call { callee := .builtin .append, args := #[s, x], argTypes := #[24, 24] })
    (base : Nat) (v : Value) (n : Nat) (xs : List Value) (hs : a.eval s = v) (hown : W.ownsRow base 3 1 v n xs) (gs : Nat) (z : Int) (hx : a.eval x = .slice (some ⟨gs, 0, none⟩) 1 1) (hc : W.cell? ⟨gs, 0, none⟩ = some (.int .i64 z))
    (hn : n < 1099511627776) (hbase : base ≤ W.heap.size)
    (h : ∀ g cap w', w'.ownsRow base 3 1 (.slice (some ⟨g, 0, none⟩) (n + 1) cap) (n + 1) (xs ++ [.int .i64 z]) → W.grownBy w' v.ownBlock → K (a.put o.dst (.slice (some ⟨g, 0, none⟩) (n + 1) cap)) w') :
    if Region.wanted o (yielded ops a.tmps) = true then Oper.wp Tryz.prog o a W K Q else E := by
  obtain ⟨i0, hi, hz0, hz1, hz2⟩ := info_parts info_int
  exact step_append_lies W hgd s x 24 ho base 3 i0 (.int .i64 0) 1 8 Tryz.underlying24 hi hz0 hz1 hz2 rfl (by omega) v n xs hs hown ⟨gs, 0, none⟩ 1 1 [.int .i64 z] hx rfl
    (fun j u hj => by
      have hj0 : j = 0 := by
        rcases Nat.eq_zero_or_pos j with h | h
        · exact h
        · rw [List.getElem?_eq_none (by simp; omega)] at hj; cases hj
      subst hj0
      simp only [List.getElem?_cons_zero, Option.some.injEq] at hj
      subst hj
      exact hc) (fun u hu => by simp only [List.mem_singleton] at hu; subst hu; rfl) (by omega) (by unfold maxLen; omega) (by omega) hbase _ rfl (fun g cap w' h1 h2 _ _ => h g cap w' h1 h2)

/-- append(out, x) of one pair. -/
theorem step_app_pair {ops : Array Oper} {o : Oper} {a : Act} {K : Act → World → Prop} {Q : Exit → Act → World → Prop} {E : Prop} (W : World) (hgd : o.guard = none) (s x : Operand)
    (ho : o.op = .call { callee := .builtin .append, args := #[s, x], argTypes := #[25, 25] })
    (base : Nat) (v : Value) (n : Nat) (xs : List Value) (hs : a.eval s = v) (hown : W.ownsRow base 90 4 v n xs) (gs : Nat) (p : Pr) (hx : a.eval x = .slice (some ⟨gs, 0, none⟩) 1 1) (hc : Own W 90 gs p.cells)
    (hn : n < 1099511627776) (hbase : base ≤ W.heap.size)
    (h : ∀ g cap w', w'.ownsRow base 90 4 (.slice (some ⟨g, 0, none⟩) (n + 1) cap) (n + 1) (xs ++ p.cells) → W.grownBy w' v.ownBlock → K (a.put o.dst (.slice (some ⟨g, 0, none⟩) (n + 1) cap)) w') :
    if Region.wanted o (yielded ops a.tmps) = true then Oper.wp Tryz.prog o a W K Q else E := by
  obtain ⟨i0, hi, hz0, hz1, hz2⟩ := info_parts info_pair
  exact step_append_lies W hgd s x 25 ho base 90 i0 _ 4 8 Tryz.underlying25 hi hz0 hz1 hz2 rfl (by omega) v n xs hs hown ⟨gs, 0, none⟩ 1 1 p.cells hx rfl
    (fun j u hj => by rw [Addr.add_lit, Nat.zero_add]; exact hc.cell j u hj) (fun u hu => by
      simp only [Pr.cells, i16v, List.mem_cons, List.not_mem_nil, or_false] at hu
      rcases hu with rfl | rfl | rfl | rfl <;> rfl) (by omega) (by unfold maxLen; omega) (by omega) hbase _ rfl (fun g cap w' h1 h2 _ _ => h g cap w' h1 h2)

/-- What has been collected. -/
def mts (l : List UInt8) (k : Nat) : List Value := (List.range k).map fun i => .int .i64 (wordAt l (16 + 10 * i) : Int)
def prs (l : List UInt8) (k : Nat) : List Value := (List.range k).flatMap fun i => (prAt l (16 + 10 * i)).cells
theorem mts_succ (l : List UInt8) (k : Nat) : mts l (k + 1) = mts l k ++ [.int .i64 (wordAt l (16 + 10 * k) : Int)] := by unfold mts; rw [List.range_succ]; simp
theorem prs_succ (l : List UInt8) (k : Nat) : prs l (k + 1) = prs l k ++ (prAt l (16 + 10 * k)).cells := by unfold prs; rw [List.range_succ]; simp

/-- The boxes of Decode. -/
structure DecBox (w0 wr : World) (l : List UInt8) (a : Option Addr) (n cap g1 g3 : Nat) (vm vp : Value) : Prop where
  o1 : Own wr 31 g1 [.slice a n cap]
  o2 : Own wr 27 (g1 + 1) [.int .u32 0, .int .i64 0, .int .i64 0, .int .i64 0, .float .f32 0, .slice none 0 0, .slice none 0 0]
  o3 : Own wr 154 g3 (headCells l)
  o4 : Own wr 27 (g3 + 1) [.int .u32 (longAt l 4 : Int), .int .i64 (wordAt l 8 : Int), .int .i64 (byteAt l 3 : Int), .int .i64 (byteAt l 10 : Int), .float .f32 (longAt l 12), vm, vp]
  hB : Below g1 w0 wr

/-- What holds at the head of a round: k ports have been read. -/
def DecInv (w0 : World) (l : List UInt8) (a : Option Addr) (n cap g1 g3 base i j : Nat) (wr : World) : Prop :=
  ∃ vm vp, DecBox w0 wr l a n cap g1 g3 vm vp ∧ wr.ownsRow base 3 1 vm i (mts l i) ∧ wr.ownsRow base 90 4 vp j (prs l j) ∧ base ≤ wr.heap.size
theorem Own.far {w : World} {E : TypeId} {g g' i : Nat} {cs : List Value} {u : Value} (h : Own w E g cs) (hne : g' ≠ g) : Own (w.setCell ⟨g', i, none⟩ u) E g cs := h.other (a := ⟨g', i, none⟩) hne u
theorem row_far {w : World} {base n size g i : Nat} {T : TypeId} {xs : List Value} {v u : Value} (h : w.ownsRow base T size v n xs) (hg : g < base) : (w.setCell ⟨g, i, none⟩ u).ownsRow base T size v n xs :=
  World.ownsRow.kept h (grown_set (grown_refl w (some g)) i u) (by
    cases e : v.ownBlock with
    | none => exact .inl rfl
    | some k => refine .inr fun e2 => ?_; have := (h.lt k e).1; have := Option.some.inj e2; omega)

theorem inv14 {w0 w wa : World} {l : List UInt8} {a : Option Addr} {n cap g1 g3 base k : Nat} {vm vp vm' : Value} (hb : DecBox w0 w l a n cap g1 g3 vm vp) (hm : w.ownsRow base 3 1 vm k (mts l k)) (hp : w.ownsRow base 90 4 vp k (prs l k))
    (hbs : base ≤ w.heap.size) (h13 : g1 + 1 < g3) (h3 : g3 + 1 < base) (hg : w.grownBy wa vm.ownBlock) (hma : wa.ownsRow base 3 1 vm' (k + 1) (mts l (k + 1))) : DecInv w0 l a n cap g1 g3 base (k + 1) k (wa.setCell ⟨g3 + 1, 5, none⟩ vm') := by
  refine ⟨vm', vp, ⟨?_, ?_, ?_, ?_, ?_⟩, row_far hma h3, row_far (hp.kept hg (row_ne hp hm (by decide))) h3, ?_⟩
  · exact (hb.o1.keptRow hm hg (by omega)).far (by omega)
  · exact (hb.o2.keptRow hm hg (by omega)).far (by omega)
  · exact (hb.o3.keptRow hm hg (by omega)).far (by omega)
  · exact (hb.o4.keptRow hm hg (by omega)).set 5 vm'
  · exact (below_row hb.hB hm hg (by omega) (by omega)).setCell (p := ⟨g3 + 1, 5, none⟩) (show g1 ≤ g3 + 1 by omega) _
  · have := hg.size; simp [World.setCell]; omega
theorem inv15 {w0 w wa : World} {l : List UInt8} {a : Option Addr} {n cap g1 g3 base k : Nat} {vm vp vp' : Value} (hb : DecBox w0 w l a n cap g1 g3 vm vp) (hm : w.ownsRow base 3 1 vm (k + 1) (mts l (k + 1))) (hp : w.ownsRow base 90 4 vp k (prs l k))
    (hbs : base ≤ w.heap.size) (h13 : g1 + 1 < g3) (h3 : g3 + 1 < base) (hg : w.grownBy wa vp.ownBlock) (hma : wa.ownsRow base 90 4 vp' (k + 1) (prs l (k + 1))) : DecInv w0 l a n cap g1 g3 base (k + 1) (k + 1) (wa.setCell ⟨g3 + 1, 6, none⟩ vp') := by
  refine ⟨vm, vp', ⟨?_, ?_, ?_, ?_, ?_⟩, row_far (hm.kept hg (row_ne hm hp (by decide))) h3, row_far hma h3, ?_⟩
  · exact (hb.o1.keptRow hp hg (by omega)).far (by omega)
  · exact (hb.o2.keptRow hp hg (by omega)).far (by omega)
  · exact (hb.o3.keptRow hp hg (by omega)).far (by omega)
  · exact (hb.o4.keptRow hp hg (by omega)).set 6 vp'
  · exact (below_row hb.hB hp hg (by omega) (by omega)).setCell (p := ⟨g3 + 1, 6, none⟩) (show g1 ≤ g3 + 1 by omega) _
  · have := hg.size; simp [World.setCell]; omega
theorem DecInv.below {w0 wr : World} {l : List UInt8} {a : Option Addr} {n cap g1 g3 base i j : Nat} (h : DecInv w0 l a n cap g1 g3 base i j wr) : Below g1 w0 wr := by
  obtain ⟨_, _, hb, _⟩ := h
  exact hb.hB
end Go.Proofs.YtohnlmfmpflbpaaGreat
