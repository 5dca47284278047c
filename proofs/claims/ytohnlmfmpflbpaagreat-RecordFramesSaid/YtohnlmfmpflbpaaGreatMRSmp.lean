/- The drawn region of the reference's Samples. Conditions: none. The drawn region of the program's Samples. Conditions: none. The closure of the program's Samples. Conditions: the scale is a number above 0. The reference's wave. Conditions: the scale widens to a finite float. The drawn regions of the reference's Values: a slice of numbers grows by one. Conditions: none. Values of the reference; Values of the program of a frame that is not valid. Conditions: the scale widens to a finite float. Samples of the reference. Conditions: none. Encode, Values and Samples of any frame, of the program and of the reference alike. Conditions: none. -/
import Derived.Test.YtohnlmfmpflbpaaGreatMAwake
import Derived.Test.YtohnlmfmpflbpaaGreatMFloatR
import Derived.Test.YtohnlmfmpflbpaaGreatMREnc
import Derived.Test.YtohnlmfmpflbpaaGreatMRNear
import Derived.Test.YtohnlmfmpflbpaaGreatMRQC
import Derived.Test.YtohnlmfmpflbpaaGreatMRefA
import Derived.Test.YtohnlmfmpflbpaaGreatMRegion
import Derived.Test.YtohnlmfmpflbpaaGreatMRowL
import Derived.Test.YtohnlmfmpflbpaaGreatMVals
import Derived.Deep.RegionLaw
set_option linter.unusedSimpArgs false
set_option linter.unusedVariables false
set_option linter.all false
namespace Go.Proofs.YtohnlmfmpflbpaaGreat
open Go.RowKit

/-- Two complex64s: the words of their parts. -/
structure Smp where
  a0 : Nat
  a1 : Nat
  b0 : Nat
  b1 : Nat
def Smp.cells (x : Smp) : List Value := [.complex .f32 x.a0 x.a1, .complex .f32 x.b0 x.b1]
def SmpC (_ : World) (u : List Value) (x : Smp) : Prop := u = x.cells
theorem smp_stable : Stable SmpC [] := ⟨fun h _ _ => h, fun h _ _ _ => h⟩
def smpOf (s : Nat) (p : Pr) : Smp := ⟨mulW p.a0 s, mulW p.a1 s, mulW p.b0 s, mulW p.b1 s⟩
theorem info_smp : (Tryz.prog.info? 50).map (fun i => (i.zero, i.size, i.bytes)) = some (some (.agg #[.complex .f32 0 0, .complex .f32 0 0]), 2, 16) := by kernel_rfl
theorem oneC {a b c d : Nat} : ∀ u ∈ ([.complex .f32 a b, .complex .f32 c d] : List Value), u.oneCell' = true := by
  intro u hu
  simp only [List.mem_cons, List.not_mem_nil, or_false] at hu
  rcases hu with rfl | rfl <;> rfl

noncomputable def rsregion8 : Code := (Tryz.f17.body.bind (findRegion 8)).getD .skip

set_option maxRecDepth 100000 in
set_option maxHeartbeats 6400000 in
theorem rsreg8 (w : World) (base k b1 o1 n1 c1 b2 o2 n2 c2 : Nat) (vo : Value) (l : List Smp) (x : Smp) (s0 s2 t0 t2 : Bool) (a1 a3 a4 d1 d3 d4 : Option Addr) (l1 m1 l3 m3 l4 m4 p1 r1 p3 r3 p4 r4 : Nat) {R : Act → World → Prop} {u0 u1 u2 u3 u6 u9 u10 u11 u12 u13 u14 u15 u16 u17 u18 u19 u20 u21 u22 u23 u24 u25 u26 u27 u28 u29 u30 u31 u32 u33 u34 u35 u36 u37 u38 : Value}
    (hrow : RowOf SmpC 50 2 w base vo l) (hl : l.length = k) (hbs : base ≤ w.heap.size) (hk1 : k < n1) (hk2 : k < n2) (hk : k < 1000) (hlt1 : b1 < base) (hlt2 : b2 < base)
    (ha0 : w.cell? ⟨b1, o1 + k * 5, none⟩ = some (.bool s0)) (ha1 : w.cell? ⟨b1, o1 + k * 5 + 1, none⟩ = some (.slice a1 l1 m1)) (ha2 : w.cell? ⟨b1, o1 + k * 5 + 2, none⟩ = some (.bool s2)) (ha3 : w.cell? ⟨b1, o1 + k * 5 + 3, none⟩ = some (.slice a3 l3 m3)) (ha4 : w.cell? ⟨b1, o1 + k * 5 + 4, none⟩ = some (.slice a4 l4 m4)) (hb0 : w.cell? ⟨b2, o2 + k * 5, none⟩ = some (.bool t0)) (hb1 : w.cell? ⟨b2, o2 + k * 5 + 1, none⟩ = some (.slice d1 p1 r1)) (hb2 : w.cell? ⟨b2, o2 + k * 5 + 2, none⟩ = some (.bool t2)) (hb3 : w.cell? ⟨b2, o2 + k * 5 + 3, none⟩ = some (.slice d3 p3 r3)) (hb4 : w.cell? ⟨b2, o2 + k * 5 + 4, none⟩ = some (.slice d4 p4 r4))
    (HA : ∀ W, Below w.heap.size w W → Calls Tryz.prog 45 #[.agg #[.bool s0, .slice a1 l1 m1, .bool s2, .slice a3 l3 m3, .slice a4 l4 m4]] W (Ret W fun _ v' => v' = .complex .f32 x.a0 x.a1))
    (HB : ∀ W, Below w.heap.size w W → Calls Tryz.prog 45 #[.agg #[.bool t0, .slice d1 p1 r1, .bool t2, .slice d3 p3 r3, .slice d4 p4 r4]] W (Ret W fun _ v' => v' = .complex .f32 x.b0 x.b1))
    (hQ : ∀ (w' : World) (ya x24 x25 x26 x27 x28 x29 x30 x31 x32 x33 x34 x35 x36 x37 : Value), Below base w w' → RowOf SmpC 50 2 w' base ya (l ++ [x]) → base ≤ w'.heap.size → R ⟨List.toArray (u0 :: u1 :: u2 :: u3 :: .slice (some ⟨b1, o1, none⟩) n1 c1 :: .slice (some ⟨b2, o2, none⟩) n2 c2 :: u6 :: ya :: .int .i64 (k : Int) :: u9 :: u10 :: u11 :: u12 :: u13 :: u14 :: u15 :: u16 :: u17 :: u18 :: u19 :: u20 :: u21 :: u22 :: u23 :: x24 :: x25 :: x26 :: x27 :: x28 :: x29 :: x30 :: x31 :: x32 :: x33 :: x34 :: x35 :: x36 :: x37 :: u38 :: []), []⟩ w') :
    Code.wp Tryz.prog rsregion8 (Only R) ⟨List.toArray (u0 :: u1 :: u2 :: u3 :: .slice (some ⟨b1, o1, none⟩) n1 c1 :: .slice (some ⟨b2, o2, none⟩) n2 c2 :: u6 :: vo :: .int .i64 (k : Int) :: u9 :: u10 :: u11 :: u12 :: u13 :: u14 :: u15 :: u16 :: u17 :: u18 :: u19 :: u20 :: u21 :: u22 :: u23 :: u24 :: u25 :: u26 :: u27 :: u28 :: u29 :: u30 :: u31 :: u32 :: u33 :: u34 :: u35 :: u36 :: u37 :: u38 :: []), []⟩ w := by
  conv => arg 2; whnf
  obtain ⟨us, hul, hr, hus⟩ := hrow
  rw [hl] at hr hul
  have HR := Lib.hid hr
  have HU := Lib.hid hus
  have HL := Lib.hid hl
  have HAA := Lib.hid HA
  have HBB := Lib.hid HB
  clear hr hus hl HA HB
  have lta := World.block_lt_of_cell? w _ ha0
  have ltb := World.block_lt_of_cell? w _ hb0
  have Gha0 := Lib.hid ha0; have Gha1 := Lib.hid ha1; have Gha2 := Lib.hid ha2; have Gha3 := Lib.hid ha3; have Gha4 := Lib.hid ha4; have Ghb0 := Lib.hid hb0; have Ghb1 := Lib.hid hb1; have Ghb2 := Lib.hid hb2; have Ghb3 := Lib.hid hb3; have Ghb4 := Lib.hid hb4
  have tok1 : True := trivial
  have tok2 : True := trivial
  have hkw : Below w.heap.size w w.drew := (Below.refl _ _).drew
  go_region_held3 (fun w' => w'.cell? ⟨b1, o1 + k * 5, none⟩ = some (.bool s0) ∧ w'.cell? ⟨b1, o1 + k * 5 + 1, none⟩ = some (.slice a1 l1 m1) ∧ w'.cell? ⟨b1, o1 + k * 5 + 2, none⟩ = some (.bool s2) ∧ w'.cell? ⟨b1, o1 + k * 5 + 3, none⟩ = some (.slice a3 l3 m3) ∧ w'.cell? ⟨b1, o1 + k * 5 + 4, none⟩ = some (.slice a4 l4 m4) ∧ w'.cell? ⟨b2, o2 + k * 5, none⟩ = some (.bool t0) ∧ w'.cell? ⟨b2, o2 + k * 5 + 1, none⟩ = some (.slice d1 p1 r1) ∧ w'.cell? ⟨b2, o2 + k * 5 + 2, none⟩ = some (.bool t2) ∧ w'.cell? ⟨b2, o2 + k * 5 + 3, none⟩ = some (.slice d3 p3 r3) ∧ w'.cell? ⟨b2, o2 + k * 5 + 4, none⟩ = some (.slice d4 p4 r4)) (first | (with_reducible exact ⟨ha0, ha1, ha2, ha3, ha4, hb0, hb1, hb2, hb3, hb4⟩) | (simp [go_sem, ha0, ha1, ha2, ha3, ha4, hb0, hb1, hb2, hb3, hb4, lta, ltb]; done)) (first
    | (go_simp; go_at_call 45; have _t := tok1; (with_reducible refine (HAA.out w.drew hkw).mono ?_); rintro e1 W1 ⟨_, rfl, rfl, hbx1⟩; have hbb1 : Below w.heap.size w W1 := hkw.trans hbx1; have ha0 := (hbb1.cell (World.block_lt_of_cell? w _ Gha0.out)).trans Gha0.out; have ha1 := (hbb1.cell (World.block_lt_of_cell? w _ Gha1.out)).trans Gha1.out; have ha2 := (hbb1.cell (World.block_lt_of_cell? w _ Gha2.out)).trans Gha2.out; have ha3 := (hbb1.cell (World.block_lt_of_cell? w _ Gha3.out)).trans Gha3.out; have ha4 := (hbb1.cell (World.block_lt_of_cell? w _ Gha4.out)).trans Gha4.out; have hb0 := (hbb1.cell (World.block_lt_of_cell? w _ Ghb0.out)).trans Ghb0.out; have hb1 := (hbb1.cell (World.block_lt_of_cell? w _ Ghb1.out)).trans Ghb1.out; have hb2 := (hbb1.cell (World.block_lt_of_cell? w _ Ghb2.out)).trans Ghb2.out; have hb3 := (hbb1.cell (World.block_lt_of_cell? w _ Ghb3.out)).trans Ghb3.out; have hb4 := (hbb1.cell (World.block_lt_of_cell? w _ Ghb4.out)).trans Ghb4.out; have lta := World.block_lt_of_cell? W1 _ ha0; have ltb := World.block_lt_of_cell? W1 _ hb0; clear tok1 _t)
    | (go_simp; go_at_call 45; have _t := tok2; (with_reducible refine (HBB.out W1 hbb1).mono ?_); rintro e1 W2 ⟨_, rfl, rfl, hbx2⟩; have hbb2 : Below w.heap.size w W2 := hbb1.trans (hbx2.mono hbb1.size); have ha0 := (hbb2.cell (World.block_lt_of_cell? w _ Gha0.out)).trans Gha0.out; have ha1 := (hbb2.cell (World.block_lt_of_cell? w _ Gha1.out)).trans Gha1.out; have ha2 := (hbb2.cell (World.block_lt_of_cell? w _ Gha2.out)).trans Gha2.out; have ha3 := (hbb2.cell (World.block_lt_of_cell? w _ Gha3.out)).trans Gha3.out; have ha4 := (hbb2.cell (World.block_lt_of_cell? w _ Gha4.out)).trans Gha4.out; have hb0 := (hbb2.cell (World.block_lt_of_cell? w _ Ghb0.out)).trans Ghb0.out; have hb1 := (hbb2.cell (World.block_lt_of_cell? w _ Ghb1.out)).trans Ghb1.out; have hb2 := (hbb2.cell (World.block_lt_of_cell? w _ Ghb2.out)).trans Ghb2.out; have hb3 := (hbb2.cell (World.block_lt_of_cell? w _ Ghb3.out)).trans Ghb3.out; have hb4 := (hbb2.cell (World.block_lt_of_cell? w _ Ghb4.out)).trans Ghb4.out; have lta := World.block_lt_of_cell? W2 _ ha0; have ltb := World.block_lt_of_cell? W2 _ hb0; have hr2 := row_below HR.out hbb2; clear tok2 _t)
    | (refine step_app (s := .tmp 24) (x := .tmp 36) (t := 44) (e := 50) (z := .agg #[.complex .f32 0 0, .complex .f32 0 0]) (size := 2) (bytes := 16) (base := base) (v := vo) (n := k) (xs := us.flatten) (gs := W2.heap.size) (cs := [.complex .f32 x.a0 x.a1, .complex .f32 x.b0 x.b1]) _ ?_ ?_ Tryz.underlying44 info_smp ?_ ?_ ?_ ?_ ?_ ?_ ?_ ?_ ?_ ?_ ?_ ?_; exact rfl; exact rfl; exact rfl; omega; omega; exact rfl; exact World.ownsRow.alloc hr2 _; exact rfl; exact own_new W2 50 [.complex .f32 x.a0 x.a1, .complex .f32 x.b0 x.b1]; exact rfl; exact oneC; omega; (have := hbb2.size; simp; omega); intro ga ca wa hma hga hgx
       obtain ⟨hbR, hnew, hbs2⟩ := row_push (T := 50) (size := 2) (R := SmpC) (ts := []) (u := [.complex .f32 x.a0 x.a1, .complex .f32 x.b0 x.b1]) (x := x) smp_stable List.not_mem_nil HL.out hul HR.out HU.out hbs hbb2 rfl rfl hma hga
       have ha0 := (Below.cell hbR (p := ⟨b1, o1 + k * 5, none⟩) hlt1).trans Gha0.out; have ha1 := (Below.cell hbR (p := ⟨b1, o1 + k * 5 + 1, none⟩) hlt1).trans Gha1.out; have ha2 := (Below.cell hbR (p := ⟨b1, o1 + k * 5 + 2, none⟩) hlt1).trans Gha2.out; have ha3 := (Below.cell hbR (p := ⟨b1, o1 + k * 5 + 3, none⟩) hlt1).trans Gha3.out; have ha4 := (Below.cell hbR (p := ⟨b1, o1 + k * 5 + 4, none⟩) hlt1).trans Gha4.out; have hb0 := (Below.cell hbR (p := ⟨b2, o2 + k * 5, none⟩) hlt2).trans Ghb0.out; have hb1 := (Below.cell hbR (p := ⟨b2, o2 + k * 5 + 1, none⟩) hlt2).trans Ghb1.out; have hb2 := (Below.cell hbR (p := ⟨b2, o2 + k * 5 + 2, none⟩) hlt2).trans Ghb2.out; have hb3 := (Below.cell hbR (p := ⟨b2, o2 + k * 5 + 3, none⟩) hlt2).trans Ghb3.out; have hb4 := (Below.cell hbR (p := ⟨b2, o2 + k * 5 + 4, none⟩) hlt2).trans Ghb4.out
       have lta := World.block_lt_of_cell? wa _ ha0
       have ltb := World.block_lt_of_cell? wa _ hb0))
  all_goals
    show R _ _
    exact hQ _ _ _ _ _ _ _ _ _ _ _ _ _ _ _ _ hbR hnew hbs2
end Go.Proofs.YtohnlmfmpflbpaaGreat

namespace Go.Proofs.YtohnlmfmpflbpaaGreat
open Go.RowKit

noncomputable def smregion8 : Code := (Tryz.f16.body.bind (findRegion 8)).getD .skip

set_option maxRecDepth 100000 in
set_option maxHeartbeats 6400000 in
theorem smreg8 (w : World) (base k b g : Nat) (vo : Value) (l : List Smp) (x : Smp) (p : Pr) {R : Act → World → Prop} {u0 u1 u2 u3 u6 u8 u9 u10 u11 u12 u13 u14 u15 u16 u17 u18 u19 u20 u21 u22 u23 u24 u25 u26 u27 u28 u29 u30 u31 u32 : Value}
    (hrow : RowOf SmpC 50 2 w base vo l) (hl : l.length = k) (hbs : base ≤ w.heap.size) (hk : k < 1000) (hne : vo.ownBlock ≠ some b)
    (ha0 : w.cell? ⟨b, 0, none⟩ = some (.int .i16 p.a0)) (ha1 : w.cell? ⟨b, 1, none⟩ = some (.int .i16 p.a1)) (ha2 : w.cell? ⟨b, 2, none⟩ = some (.int .i16 p.b0)) (ha3 : w.cell? ⟨b, 3, none⟩ = some (.int .i16 p.b1))
    (HA : ∀ W, Below w.heap.size w W → Calls Tryz.prog 44 #[.agg #[.int .i16 p.a0, .int .i16 p.a1], .pointer (some ⟨g, 0, none⟩)] W (Ret W fun _ v' => v' = .complex .f32 x.a0 x.a1))
    (HB : ∀ W, Below w.heap.size w W → Calls Tryz.prog 44 #[.agg #[.int .i16 p.b0, .int .i16 p.b1], .pointer (some ⟨g, 0, none⟩)] W (Ret W fun _ v' => v' = .complex .f32 x.b0 x.b1))
    (hQ : ∀ (w' : World) (ya x19 x20 x21 x22 x23 x24 x25 x26 x27 x28 x29 x30 : Value), Below base w w' → RowOf SmpC 50 2 w' base ya (l ++ [x]) → base ≤ w'.heap.size → R ⟨List.toArray (u0 :: u1 :: u2 :: u3 :: ya :: .func (.func 44) #[] #[.pointer (some ⟨g, 0, none⟩)] :: u6 :: .pointer (some ⟨b, 0, none⟩) :: u8 :: u9 :: u10 :: u11 :: u12 :: u13 :: u14 :: u15 :: u16 :: u17 :: u18 :: x19 :: x20 :: x21 :: x22 :: x23 :: x24 :: x25 :: x26 :: x27 :: x28 :: x29 :: x30 :: u31 :: u32 :: []), []⟩ w') :
    Code.wp Tryz.prog smregion8 (Only R) ⟨List.toArray (u0 :: u1 :: u2 :: u3 :: vo :: .func (.func 44) #[] #[.pointer (some ⟨g, 0, none⟩)] :: u6 :: .pointer (some ⟨b, 0, none⟩) :: u8 :: u9 :: u10 :: u11 :: u12 :: u13 :: u14 :: u15 :: u16 :: u17 :: u18 :: u19 :: u20 :: u21 :: u22 :: u23 :: u24 :: u25 :: u26 :: u27 :: u28 :: u29 :: u30 :: u31 :: u32 :: []), []⟩ w := by
  conv => arg 2; whnf
  obtain ⟨us, hul, hr, hus⟩ := hrow
  rw [hl] at hr hul
  have HR := Lib.hid hr
  have HU := Lib.hid hus
  have HL := Lib.hid hl
  have HAA := Lib.hid HA
  have HBB := Lib.hid HB
  clear hr hus hl HA HB
  have lta := World.block_lt_of_cell? w _ ha0
  have Gha0 := Lib.hid ha0; have Gha1 := Lib.hid ha1; have Gha2 := Lib.hid ha2; have Gha3 := Lib.hid ha3
  have tok1 : True := trivial
  have tok2 : True := trivial
  have hkw : Below w.heap.size w w.drew := (Below.refl _ _).drew
  go_region_held3 (fun w' => w'.cell? ⟨b, 0, none⟩ = some (.int .i16 p.a0) ∧ w'.cell? ⟨b, 1, none⟩ = some (.int .i16 p.a1) ∧ w'.cell? ⟨b, 2, none⟩ = some (.int .i16 p.b0) ∧ w'.cell? ⟨b, 3, none⟩ = some (.int .i16 p.b1)) (first | (with_reducible exact ⟨ha0, ha1, ha2, ha3⟩) | (simp [go_sem, ha0, ha1, ha2, ha3, lta]; done)) (first
    | (go_simp; go_at_call 44; have _t := tok1; (with_reducible refine (HAA.out w.drew hkw).mono ?_); rintro e1 W1 ⟨_, rfl, rfl, hbx1⟩; have hbb1 : Below w.heap.size w W1 := hkw.trans hbx1; have ha0 := (hbb1.cell (World.block_lt_of_cell? w _ Gha0.out)).trans Gha0.out; have ha1 := (hbb1.cell (World.block_lt_of_cell? w _ Gha1.out)).trans Gha1.out; have ha2 := (hbb1.cell (World.block_lt_of_cell? w _ Gha2.out)).trans Gha2.out; have ha3 := (hbb1.cell (World.block_lt_of_cell? w _ Gha3.out)).trans Gha3.out; have lta := World.block_lt_of_cell? W1 _ ha0; clear tok1 _t)
    | (go_simp; go_at_call 44; have _t := tok2; (with_reducible refine (HBB.out W1 hbb1).mono ?_); rintro e1 W2 ⟨_, rfl, rfl, hbx2⟩; have hbb2 : Below w.heap.size w W2 := hbb1.trans (hbx2.mono hbb1.size); have ha0 := (hbb2.cell (World.block_lt_of_cell? w _ Gha0.out)).trans Gha0.out; have ha1 := (hbb2.cell (World.block_lt_of_cell? w _ Gha1.out)).trans Gha1.out; have ha2 := (hbb2.cell (World.block_lt_of_cell? w _ Gha2.out)).trans Gha2.out; have ha3 := (hbb2.cell (World.block_lt_of_cell? w _ Gha3.out)).trans Gha3.out; have lta := World.block_lt_of_cell? W2 _ ha0; have hr2 := row_below HR.out hbb2; clear tok2 _t)
    | (refine step_app (s := .tmp 19) (x := .tmp 29) (t := 44) (e := 50) (z := .agg #[.complex .f32 0 0, .complex .f32 0 0]) (size := 2) (bytes := 16) (base := base) (v := vo) (n := k) (xs := us.flatten) (gs := W2.heap.size) (cs := [.complex .f32 x.a0 x.a1, .complex .f32 x.b0 x.b1]) _ ?_ ?_ Tryz.underlying44 info_smp ?_ ?_ ?_ ?_ ?_ ?_ ?_ ?_ ?_ ?_ ?_ ?_; exact rfl; exact rfl; exact rfl; omega; omega; exact rfl; exact World.ownsRow.alloc hr2 _; exact rfl; exact own_new W2 50 [.complex .f32 x.a0 x.a1, .complex .f32 x.b0 x.b1]; exact rfl; exact oneC; omega; (have := hbb2.size; simp; omega); intro ga ca wa hma hga hgx
       obtain ⟨hbR, hnew, hbs2⟩ := row_push (T := 50) (size := 2) (R := SmpC) (ts := []) (u := [.complex .f32 x.a0 x.a1, .complex .f32 x.b0 x.b1]) (x := x) smp_stable List.not_mem_nil HL.out hul HR.out HU.out hbs hbb2 rfl rfl hma hga
       have hbA := hbb2.alloc hbb2.size (.cells (#[.complex .f32 x.a0 x.a1, .complex .f32 x.b0 x.b1] : Array Value) 50)
       have ha0 := World.grownBy.cell hga ((hbA.cell (World.block_lt_of_cell? w _ Gha0.out)).trans Gha0.out) (fun e => hne e.symm); have ha1 := World.grownBy.cell hga ((hbA.cell (World.block_lt_of_cell? w _ Gha1.out)).trans Gha1.out) (fun e => hne e.symm); have ha2 := World.grownBy.cell hga ((hbA.cell (World.block_lt_of_cell? w _ Gha2.out)).trans Gha2.out) (fun e => hne e.symm); have ha3 := World.grownBy.cell hga ((hbA.cell (World.block_lt_of_cell? w _ Gha3.out)).trans Gha3.out) (fun e => hne e.symm)
       have lta := World.block_lt_of_cell? wa _ ha0))
  all_goals
    show R _ _
    exact hQ _ _ _ _ _ _ _ _ _ _ _ _ _ _ hbR hnew hbs2
end Go.Proofs.YtohnlmfmpflbpaaGreat

namespace Go.Proofs.YtohnlmfmpflbpaaGreat
open Go.RowKit

theorem RowOf.fresh {α : Type} {R : World → List Value → α → Prop} {T : TypeId} {size : Nat} {w : World} {base : Nat} {v : Value} {l : List α} (h : RowOf R T size w base v l) : v.ownBlock ≠ some w.heap.size := by
  obtain ⟨us, -, hr, -⟩ := h
  intro e
  have := (hr.lt _ e).2
  omega

set_option maxRecDepth 100000 in
set_option maxHeartbeats 1600000 in
theorem samples1_spec (x y : Int) (s g : Nat) (w : World) (hs : scaleOK s = true) (hg : w.cell? ⟨g, 4, none⟩ = some (.float .f32 s)) (h1 : -32768 ≤ x ∧ x ≤ 32767) (h2 : -32768 ≤ y ∧ y ≤ 32767) :
    Calls Tryz.prog 44 #[.agg #[.int .i16 x, .int .i16 y], .pointer (some ⟨g, 0, none⟩)] w (Ret w fun _ v' => v' = .complex .f32 (mulW x s) (mulW y s)) := by
  have hm1 : ∀ t w, (binOp .mul t (.float .f32 (floatOfInt .f32 x)) (.float .f32 s)).run Tryz.prog w = .ok (.float .f32 (mulW x s)) w := fun t w => run_float_arith w .mul t .f32 _ _ _ (mulW_eq hs h1.1 h1.2)
  have hm2 : ∀ t w, (binOp .mul t (.float .f32 (floatOfInt .f32 y)) (.float .f32 s)).run Tryz.prog w = .ok (.float .f32 (mulW y s)) w := fun t w => run_float_arith w .mul t .f32 _ _ _ (mulW_eq hs h2.1 h2.2)
  have hc1 : ∀ w, (convert 87 23 (.int .i16 x)).run Tryz.prog w = .ok (.float .f32 (floatOfInt .f32 x)) w := fun w => run_convert_int_float w _ _ _ _ _ (by rw [Tryz.underlying87]; rfl) Tryz.underlying23
  have hc2 : ∀ w, (convert 87 23 (.int .i16 y)).run Tryz.prog w = .ok (.float .f32 (floatOfInt .f32 y)) w := fun w => run_convert_int_float w _ _ _ _ _ (by rw [Tryz.underlying87]; rfl) Tryz.underlying23
  generalize floatOfInt .f32 x = fx at *
  generalize floatOfInt .f32 y = fy at *
  clear h1 h2 hs
  go_enter Tryz.func44, Tryz.ntmps44
  go_upto_region 1 with (fail)
  obtain ⟨W, hW, o2, hB, hS⟩ := boxes1 w 88 [.int .i16 x, .int .i16 y]
  rw [← hW]
  clear hW
  have hg' := (hB.cell (World.block_lt_of_cell? w _ hg)).trans hg
  have fo2 := o2.free; have co20 := o2.cell 0 _ rfl; have co21 := o2.cell 1 _ rfl
  have lt2 := o2.lt
  have ltg := World.block_lt_of_cell? W _ hg'
  clear hg
  go_quiet (fail)
  go_wp2_with fail
  go_ret
  exact ⟨_, rfl, rfl, below_drewN hB _⟩

set_option maxRecDepth 100000 in
theorem samples_no (v : Value) (f : Fr) (w : World) (h : FrRep w v f) (hv : f.valid = false) :
    Calls Tryz.prog 16 #[v] w (Ret w fun _ v' => v' = .tuple #[.slice none 0 0, .int .i64 1]) := by
  have H := Lib.hid hv
  clear hv
  obtain ⟨vm, vp, rfl, hm, hp, hok⟩ := h
  have hf : FrRep w _ f := ⟨vm, vp, rfl, hm, hp, hok⟩
  go_enter Tryz.func16, Tryz.ntmps16
  go_upto_region 1 with (fail)
  obtain ⟨W, hW, o1, hB, hS⟩ := boxes1 w 27 [.int .u32 (f.seq : Int), .int .i64 f.point, .int .i64 f.source, .int .i64 f.turn, .float .f32 f.scale, vm, vp]
  rw [← hW]
  clear hW
  have hfW := hf.below hB (Nat.le_refl _)
  have fo1 := o1.free; have co10 := o1.cell 0 _ rfl; have co11 := o1.cell 1 _ rfl; have co12 := o1.cell 2 _ rfl; have co13 := o1.cell 3 _ rfl; have co14 := o1.cell 4 _ rfl; have co15 := o1.cell 5 _ rfl; have co16 := o1.cell 6 _ rfl
  go_wp2_with fail
  refine (valid_spec _ f W hfW).mono ?_
  rintro e W1 ⟨_, rfl, rfl, hb1⟩
  rw [H.out]
  go_wp2_with fail
  exact bodyPost_ret (by simp [results, Tryz.results16, go_sem]) rfl ⟨_, rfl, rfl, hB.trans (hb1.mono hB.size)⟩

set_option maxRecDepth 100000 in
set_option maxHeartbeats 1600000 in
theorem samples_yes (v : Value) (f : Fr) (w : World) (h : FrRep w v f) (hv : f.valid = true) :
    Calls Tryz.prog 16 #[v] w (Ret w fun w' v' => ∃ vo, v' = .tuple #[vo, .int .i64 0] ∧ RowOf SmpC 50 2 w' w.heap.size vo (f.pairs.map (smpOf f.scale))) := by
  obtain ⟨⟨hn1, hn2⟩, hml, -, -, -, hsc, -⟩ := Fr.valid_iff.1 hv
  have HV := fun v w h => valid_spec v f w h
  have HN := fun x y g w hg h1 h2 => samples1_spec x y f.scale g w hsc hg h1 h2
  rw [hv] at HV
  have HVAL := Lib.hid HV
  have HONE := Lib.hid HN
  clear hv hml hsc HV HN
  obtain ⟨vm, vp, rfl, hm, hp, hok⟩ := h
  have hf : FrRep w _ f := ⟨_, _, rfl, hm, hp, hok⟩
  obtain ⟨am, lm, cm, rfl, Hlm, hcm, hmm, -⟩ := hm.any
  obtain ⟨ap, lp, cp, rfl, Hlp, hcp, hmp, -⟩ := hp.any
  have Hok := Lib.hid hok
  have hlp8 : lp ≤ 8 := by have := Hlp.out; omega
  clear hok hn1 hn2
  go_enter Tryz.func16, Tryz.ntmps16
  go_upto_region 1 with (fail)
  obtain ⟨W, hW, o1, hB, hS⟩ := boxes1 w 27 [.int .u32 (f.seq : Int), .int .i64 f.point, .int .i64 f.source, .int .i64 f.turn, .float .f32 f.scale, .slice am lm cm, .slice ap lp cp]
  rw [← hW]
  clear hW
  have hfW := hf.below hB (Nat.le_refl _)
  have fo1 := o1.free; have co10 := o1.cell 0 _ rfl; have co11 := o1.cell 1 _ rfl; have co12 := o1.cell 2 _ rfl; have co13 := o1.cell 3 _ rfl; have co14 := o1.cell 4 _ rfl; have co15 := o1.cell 5 _ rfl; have co16 := o1.cell 6 _ rfl
  go_wp2_with fail
  refine (HVAL.out _ W hfW).mono ?_
  rintro e0 W1 ⟨_, rfl, rfl, hb1⟩
  clear co10 co11 co12 co13 co14 co15 co16 fo1 hfW
  have hsW1 : W.heap.size ≤ W1.heap.size := hb1.size; have hB := hB.trans (hb1.mono hB.size); have o1 := o1.below hb1 o1.lt; have fo1 := o1.free; have co10 := o1.cell 0 _ rfl; have co11 := o1.cell 1 _ rfl; have co12 := o1.cell 2 _ rfl; have co13 := o1.cell 3 _ rfl; have co14 := o1.cell 4 _ rfl; have co15 := o1.cell 5 _ rfl; have co16 := o1.cell 6 _ rfl
  have hl0 : w.heap.size ≤ W1.heap.size := hB.size
  have hI : RowOf SmpC 50 2 W1 W1.heap.size (.slice none 0 0) ((f.pairs.map (smpOf f.scale)).take 0) := RowOf.nil _ _ _ _ _
  have HG := Lib.hid (o1.cell 4 _ rfl)
  have ltg := o1.lt
  have hpW := hp.below hB (Nat.le_refl _)
  go_wp2_with fail
  clear co10 co11 co12 co13 co14 co15 co16 fo1 o1
  go_loopw [4, 15] (fun so iv wr => ∃ k : Nat, k ≤ lp ∧ iv = .int .i64 (k : Int) ∧ RowOf SmpC 50 2 wr W1.heap.size so ((f.pairs.map (smpOf f.scale)).take k) ∧ Below W1.heap.size W1 wr) (fun _ i _ => lp - (intOf i).toNat)
  case atStart => exact ⟨0, Nat.zero_le _, rfl, hI, Below.refl _ _⟩
  case round =>
    clear hI
    obtain ⟨k, hk, rfl, hI, hB2⟩ := hrel
    by_cases hlt : k < lp
    · obtain ⟨p, hpk⟩ : ∃ p, f.pairs[k]? = some p := ⟨_, List.getElem?_eq_getElem (by have := Hlp.out; omega)⟩
      obtain ⟨hpo1, hpo2, hpo3, hpo4⟩ := Hok.out.pairs p (List.mem_of_getElem? hpk)
      obtain ⟨bp, op, rfl, q0, q1, q2, q3⟩ := (hpW.below hB2 (Nat.le_refl _)).at hpk
      have HPO := Lib.hid (And.intro hpo1 (And.intro hpo2 (And.intro hpo3 hpo4)))
      have HSN : Hid ((f.pairs.map (smpOf f.scale)).take (k + 1) = (f.pairs.map (smpOf f.scale)).take k ++ [smpOf f.scale p]) := show _ = _ by
        rw [List.take_add_one, show (f.pairs.map (smpOf f.scale))[k]? = some (smpOf f.scale p) by simp [hpk]]; rfl
      have hlen : ((f.pairs.map (smpOf f.scale)).take k).length = k := by rw [List.length_take, List.length_map, Hlp.out]; omega
      clear hpk hpo1 hpo2 hpo3 hpo4
      go_upto_region 8 with (fail)
      obtain ⟨V2, hV2, ob, hBV2, hSV2⟩ := boxes1 wr 90 [.int .i16 p.a0, .int .i16 p.a1, .int .i16 p.b0, .int .i16 p.b1]
      rw [← hV2]
      clear hV2 q0 q1 q2 q3
      have hne := hI.fresh
      have hB3 : Below W1.heap.size W1 V2 := hB2.trans (hBV2.mono hB2.size)
      replace hI := hI.below smp_stable hBV2
      have hG : ∀ W', Below V2.heap.size V2 W' → W'.cell? ⟨w.heap.size, 4, none⟩ = some (.float .f32 f.scale) := fun W' hb => ((hB3.trans (hb.mono hB3.size)).cell ltg).trans HG.out
      refine only_of (smreg8 V2 W1.heap.size k wr.heap.size w.heap.size _ _ (smpOf f.scale p) p hI hlen hB3.size (by omega) hne (ob.cell 0 _ rfl) (ob.cell 1 _ rfl) (ob.cell 2 _ rfl) (ob.cell 3 _ rfl)
        (fun W' hb => HONE.out _ _ _ W' (hG W' hb) HPO.out.1 HPO.out.2.1) (fun W' hb => HONE.out _ _ _ W' (hG W' hb) HPO.out.2.2.1 HPO.out.2.2.2) ?_)
      intro w' ya x19 x20 x21 x22 x23 x24 x25 x26 x27 x28 x29 x30 hbn hIn hsz
      rw [← HSN.out] at hIn
      have hB4 := hB3.trans hbn
      clear hI hbn hB2 hB3 hG ob
      try simp only [Exit.then]
      go_wp2_with fail
      go_roundw
      case rel => first | exact ⟨k + 1, by omega, by go_num, hIn, hB4⟩ | ((repeat apply Exists.intro); exact ⟨⟨k + 1, by omega, by go_num, hIn, hB4⟩, rfl⟩)
      case measure => simp [intOf]; omega
    · obtain rfl : k = lp := by omega
      rw [List.take_of_length_le (by rw [List.length_map, Hlp.out]; omega)] at hI
      go_wp2_with fail
      exact bodyPost_ret (by simp [results, Tryz.results16, go_sem]) rfl ⟨_, rfl, ⟨_, rfl, hI.base hl0⟩, hB.trans (hB2.mono hl0)⟩
end Go.Proofs.YtohnlmfmpflbpaaGreat

namespace Go.Proofs.YtohnlmfmpflbpaaGreat
open Go.RowKit

theorem cqz_one (a b : Int) : cqz a b 1 = cq a b 1 := by unfold cqz; rfl

set_option maxRecDepth 100000 in
set_option maxHeartbeats 1600000 in
theorem rwave_spec (a b : Int) (s S k : Nat) (w : World) (hw : Widens1 s S) (hw0 : Widens1 0 0) (hb : S < 18446744073709551616) (hfb : fexp S ≠ 2047) (hs : Small k ⟨fq S, fq 0⟩) (hk : k ≤ 1000000) (hk2 : 16 ≤ k) (ha : -32768 ≤ a ∧ a ≤ 32767) (hb2 : -32768 ≤ b ∧ b ≤ 32767) :
    Calls Tryz.prog 42 #[.agg #[.int .i16 a, .int .i16 b], .float .f32 s] w (Ret w fun w' v' => QRep w' v' (CQ.mul ⟨fq S, fq 0⟩ (cq a b 1))) := by
  have hcp := fun w => rcomplex64_spec s 0 S 0 w hw hw0 hb (by omega) hfb (by decide)
  generalize (⟨fq S, fq 0⟩ : CQ) = X at *
  have HC := Lib.hid hcp
  obtain ⟨ha1, ha2⟩ := ha
  obtain ⟨hb1, hb2⟩ := hb2
  have hp : 2 ^ 16 ≤ 2 ^ k := Nat.pow_le_pow_right (by omega) hk2
  have HS := Lib.hid hs
  have HZ := Lib.hid (small_mk (a := a) (b := b) (d := 1) (k := k) (by omega) (by omega) (by omega) (by omega))
  clear hp hs hcp hfb hw hw0 hb
  go_enter Tryz.func42, Tryz.ntmps42
  go_upto_region 1 with (fail)
  obtain ⟨W, hW, o2, o4, hB, hS⟩ := boxes2 w 88 105 [.int .i16 a, .int .i16 b] [.bool false, .slice none 0 0, .bool false, .slice none 0 0, .slice none 0 0]
  rw [← hW]
  clear hW
  have hgo : w.heap.size < W.heap.size := o2.lt
  go_wp2_with fail
  refine (HC.out W).mono ?_
  rintro e W1 ⟨_, rfl, ⟨u, rfl, hu⟩, hb1⟩
  obtain ⟨t0, t2, b1, b3, b4, m1, n1, m3, n3, m4, n4, rfl⟩ := hu.open
  have hsW1 : W.heap.size ≤ W1.heap.size := hb1.size; have hB := hB.trans (hb1.mono hB.size); have o2 := o2.below hb1 o2.lt; have o4 := o4.below hb1 o4.lt
  go_upto_region 2 with (fail)
  obtain ⟨V, hV, o5, hBV, hSV⟩ := boxes1 W1 105 [.bool t0, .slice b1 m1 n1, .bool t2, .slice b3 m3 n3, .slice b4 m4 n4]
  rw [← hV]
  clear hV
  have hsV : W1.heap.size ≤ V.heap.size := hBV.size; have hB := hB.trans (hBV.mono hB.size); have o2 := o2.below hBV o2.lt; have o4 := o4.below hBV o4.lt; have hu := hu.below hBV (Nat.le_refl _)
  generalize W1.heap.size = g5 at *
  have fo2 := o2.free; have co20 := o2.cell 0 _ rfl; have co21 := o2.cell 1 _ rfl
  go_wp2_with fail
  refine (qnew_spec a b 1 V (by omega) (by omega) (by omega) (by omega) (by omega) (by omega) (by omega)).mono ?_
  rintro e W2 ⟨_, rfl, ⟨u2, rfl, hu2⟩, hb2⟩
  obtain ⟨r0, r2, d1, d3, d4, q1, p1, q3, p3, q4, p4, rfl⟩ := hu2.open
  rw [cqz_one] at hu2
  clear co20 co21 fo2
  have hsW2 : V.heap.size ≤ W2.heap.size := hb2.size; have hB := hB.trans (hb2.mono hB.size); have o4 := o4.below hb2 o4.lt; have o5 := o5.below hb2 o5.lt; have hu := hu.below hb2 (Nat.le_refl _)
  go_upto_region 3 with (fail)
  obtain ⟨V2, hV2, o7, hBV2, hSV2⟩ := boxes1 W2 105 [.bool r0, .slice d1 q1 p1, .bool r2, .slice d3 q3 p3, .slice d4 q4 p4]
  rw [← hV2]
  clear hV2
  have hsV2 : W2.heap.size ≤ V2.heap.size := hBV2.size; have hB := hB.trans (hBV2.mono hB.size); have o4 := o4.below hBV2 o4.lt; have o5 := o5.below hBV2 o5.lt; have hu := hu.below hBV2 (Nat.le_refl _); have hu2 := hu2.below hBV2 (Nat.le_refl _)
  generalize W2.heap.size = g7 at *
  have fo5 := o5.free; have co50 := o5.cell 0 _ rfl; have co51 := o5.cell 1 _ rfl; have co52 := o5.cell 2 _ rfl; have co53 := o5.cell 3 _ rfl; have co54 := o5.cell 4 _ rfl; have fo7 := o7.free; have co70 := o7.cell 0 _ rfl; have co71 := o7.cell 1 _ rfl; have co72 := o7.cell 2 _ rfl; have co73 := o7.cell 3 _ rfl; have co74 := o7.cell 4 _ rfl
  go_wp2_with fail
  refine (qmul_spec _ _ X (cq a b 1) k V2 hu hu2 HS.out HZ.out (by omega)).mono ?_
  rintro e W3 ⟨u3, rfl, hu3, hb3⟩
  obtain ⟨_, _, _, _, _, _, _, _, _, _, _, rfl⟩ := hu3.open
  clear co50 co51 co52 co53 co54 fo5 co70 co71 co72 co73 co74 fo7
  have hsW3 : V2.heap.size ≤ W3.heap.size := hb3.size; have hB := hB.trans (hb3.mono hB.size); have o4 := o4.below hb3 o4.lt; have fo4 := o4.free; have co40 := o4.cell 0 _ rfl; have co41 := o4.cell 1 _ rfl; have co42 := o4.cell 2 _ rfl; have co43 := o4.cell 3 _ rfl; have co44 := o4.cell 4 _ rfl
  go_wp2_with fail
  have hfin := q_end (w := w) hu3 o4 hB (by omega) rfl
  exact bodyPost_ret (by simp [results, Tryz.results42, go_sem, co40, co41, co42, co43, co44]) rfl hfin
end Go.Proofs.YtohnlmfmpflbpaaGreat

namespace Go.Proofs.YtohnlmfmpflbpaaGreat
open Go.RowKit

/-- What holds at the head of a round of the reference's Values. -/
structure RVInv (w0 wr : World) (g1 base : Nat) (fcs : List Value) (qa qb : List CQ) (va vb : Value) : Prop where
  hB : Below w0.heap.size w0 wr
  o1 : Own wr 27 g1 fcs
  ra : RowOf QC 105 5 wr base va qa
  rb : RowOf QC 105 5 wr base vb qb
  ap : va.ownBlock = none ∨ va.ownBlock ≠ vb.ownBlock
  bs : base ≤ wr.heap.size

theorem rvinv7 {w0 w wa : World} {g1 base ga n ca : Nat} {fcs : List Value} {qa qb : List CQ} {vb : Value} (hB : Below w0.heap.size w0 w) (hb : Below base w wa) (o1 : Own wa 27 g1 fcs) (ra : RowOf QC 105 5 wa base (.slice (some ⟨ga, 0, none⟩) n ca) qa) (rb : RowOf QC 105 5 wa base vb qb) (ap : vb.ownBlock = none ∨ vb.ownBlock ≠ some ga) (bs : base ≤ wa.heap.size) (h0 : w0.heap.size ≤ base) : RVInv w0 wa g1 base fcs qa qb (.slice (some ⟨ga, 0, none⟩) n ca) vb :=
  ⟨hB.trans (hb.mono h0), o1, ra, rb, apart_sym ap, bs⟩
theorem rvinv8 {w0 w wa : World} {g1 base ga n ca : Nat} {fcs : List Value} {qa qb : List CQ} {va : Value} (hB : Below w0.heap.size w0 w) (hb : Below base w wa) (o1 : Own wa 27 g1 fcs) (rb : RowOf QC 105 5 wa base (.slice (some ⟨ga, 0, none⟩) n ca) qb) (ra : RowOf QC 105 5 wa base va qa) (ap : va.ownBlock = none ∨ va.ownBlock ≠ some ga) (bs : base ≤ wa.heap.size) (h0 : w0.heap.size ≤ base) : RVInv w0 wa g1 base fcs qa qb va (.slice (some ⟨ga, 0, none⟩) n ca) :=
  ⟨hB.trans (hb.mono h0), o1, ra, rb, ap, bs⟩

noncomputable def rvregion7 : Code := (Tryz.f14.body.bind (findRegion 7)).getD .skip

set_option maxRecDepth 100000 in
set_option maxHeartbeats 6400000 in
theorem rvreg7 (w0 w : World) (base g1 k bp op lp cp e s S : Nat) (v0 v1 v2 v3 v5 va vb : Value) (qa qb : List CQ) (p : Pr) (x : CQ) {R : Act → World → Prop} {u0 u2 u3 u4 u8 u9 u10 u11 u12 u13 u14 u15 u16 u17 u18 u19 u20 u21 u22 u23 u24 u25 u26 u27 u28 u29 u30 u31 u32 u33 u34 u35 u36 u37 u38 u39 u40 u41 u42 u43 : Value}
    (hI : RVInv w0 w g1 base [v0, v1, v2, v3, .float .f32 s, v5, .slice (some ⟨bp, op, none⟩) lp cp] qa qb va vb) (hql : qa.length = k)
    (hq0 : w.cell? ⟨bp, op + k * 4, none⟩ = some (.int .i16 p.a0)) (hq1 : w.cell? ⟨bp, op + k * 4 + 1, none⟩ = some (.int .i16 p.a1)) (hp : p.ok) (hlp : k < lp)
    (h0 : w0.heap.size ≤ base) (h1 : g1 < base) (hbp : bp < base) (hk : k < 1000) (hw : Widens1 s S) (hw0 : Widens1 0 0) (hb : S < 18446744073709551616) (hfb : fexp S ≠ 2047) (hs : Small e ⟨fq S, fq 0⟩) (he : e ≤ 1000000) (he2 : 16 ≤ e) (hx : x = CQ.mul ⟨fq S, fq 0⟩ (cq p.a0 p.a1 1))
    (hQ : ∀ (w' : World) (ya x18 x19 x20 x21 x22 x23 x24 x25 x26 x27 x28 x29 : Value), RVInv w0 w' g1 base [v0, v1, v2, v3, .float .f32 s, v5, .slice (some ⟨bp, op, none⟩) lp cp] (qa ++ [x]) qb ya vb → R ⟨List.toArray (u0 :: .pointer (some ⟨g1, 0, none⟩) :: u2 :: u3 :: u4 :: ya :: vb :: .int .i64 (k : Int) :: u8 :: u9 :: u10 :: u11 :: u12 :: u13 :: u14 :: u15 :: u16 :: u17 :: x18 :: x19 :: x20 :: x21 :: x22 :: x23 :: x24 :: x25 :: x26 :: x27 :: x28 :: x29 :: u30 :: u31 :: u32 :: u33 :: u34 :: u35 :: u36 :: u37 :: u38 :: u39 :: u40 :: u41 :: u42 :: u43 :: []), []⟩ w') :
    Code.wp Tryz.prog rvregion7 (Only R) ⟨List.toArray (u0 :: .pointer (some ⟨g1, 0, none⟩) :: u2 :: u3 :: u4 :: va :: vb :: .int .i64 (k : Int) :: u8 :: u9 :: u10 :: u11 :: u12 :: u13 :: u14 :: u15 :: u16 :: u17 :: u18 :: u19 :: u20 :: u21 :: u22 :: u23 :: u24 :: u25 :: u26 :: u27 :: u28 :: u29 :: u30 :: u31 :: u32 :: u33 :: u34 :: u35 :: u36 :: u37 :: u38 :: u39 :: u40 :: u41 :: u42 :: u43 :: []), []⟩ w := by
  conv => arg 2; whnf
  obtain ⟨hB, o1, hra, hrb, ap, hbs⟩ := hI
  have HW := Lib.hid (fun W => rwave_spec p.a0 p.a1 s S e W hw hw0 hb hfb hs he he2 hp.1 hp.2.1)
  rw [← hx] at HW
  obtain ⟨us, hul, hr, hus⟩ := hra
  rw [hql] at hr hul
  have HR := Lib.hid hr
  have HA := Lib.hid ap
  have HO := Lib.hid hrb
  have HU := Lib.hid hus
  have HL := Lib.hid hql
  have HB := Lib.hid hB
  clear hw hw0 hb hfb hs he he2 hp hx hr ap hus hql hrb hB
  have c14 := o1.cell 4 _ rfl
  have c16 := o1.cell 6 _ rfl
  have lt1 := o1.lt
  have ltp := World.block_lt_of_cell? w _ hq0
  have HQ0 := Lib.hid hq0
  have HQ1 := Lib.hid hq1
  have tok1 : True := trivial
  go_region_held3 (fun w' => w'.cell? ⟨g1, 4, none⟩ = some (.float .f32 s) ∧ w'.cell? ⟨g1, 6, none⟩ = some (.slice (some ⟨bp, op, none⟩) lp cp) ∧ w'.cell? ⟨bp, op + k * 4, none⟩ = some (.int .i16 p.a0) ∧ w'.cell? ⟨bp, op + k * 4 + 1, none⟩ = some (.int .i16 p.a1)) (first | (with_reducible exact ⟨c14, c16, hq0, hq1⟩) | (simp [go_sem, c14, c16, hq0, hq1, lt1, ltp]; done)) (first
    | (go_simp; go_at_call 42; have _t := tok1; refine (HW.out w.drew).mono ?_; rintro e1 W1 ⟨_, rfl, hu1, hb1⟩; have hb1 : Below w.heap.size w W1 := (Below.refl _ _).drew.trans hb1; obtain ⟨t0, t2, b1, b3, b4, m1, n1, m3, n3, m4, n4, rfl⟩ := hu1.open; have hr1 := row_below HR.out hb1; clear tok1 _t; have HU1 : Hid (QC W1 [.bool t0, .slice b1 m1 n1, .bool t2, .slice b3 m3 n3, .slice b4 m4 n4] x) := hu1; have o11 := o1.below hb1 o1.lt; have lt1 := o11.lt; clear hu1; have c14 := o11.cell 4 _ rfl; have c16 := o11.cell 6 _ rfl; have hq0 := (hb1.cell (World.block_lt_of_cell? w _ hq0)).trans hq0; have hq1 := (hb1.cell (World.block_lt_of_cell? w _ hq1)).trans hq1; have ltp := World.block_lt_of_cell? W1 _ hq0)
    | (refine step_app _ rfl (.tmp 18) (.tmp 28) 40 105 (.agg #[.bool false, .slice none 0 0, .bool false, .slice none 0 0, .slice none 0 0]) 5 88 rfl Tryz.underlying40 info_q rfl (by omega) (by omega) base va k _ (by rfl) (World.ownsRow.alloc hr1 _) W1.heap.size _ (by rfl) (own_new W1 105 [.bool t0, .slice b1 m1 n1, .bool t2, .slice b3 m3 n3, .slice b4 m4 n4]) rfl one5 (by omega) (by have := hb1.size; simp; omega) ?_; intro ga ca wa hma hga hgx
       obtain ⟨hb2, hnew, hbs2⟩ := row_push q_stable (by decide) HL.out hul HR.out HU.out hbs hb1 HU1.out rfl hma hga
       have o12 := o1.below hb2 h1
       have lt1 := o12.lt
       have c14 := o12.cell 4 _ rfl
       have c16 := o12.cell 6 _ rfl
       have hq0 := (Below.cell hb2 (p := ⟨bp, op + k * 4, none⟩) hbp).trans HQ0.out
       have hq1 := (Below.cell hb2 (p := ⟨bp, op + k * 4 + 1, none⟩) hbp).trans HQ1.out
       have ltp := World.block_lt_of_cell? wa _ hq0))
  all_goals
    show R _ _
    refine hQ _ _ _ _ _ _ _ _ _ _ _ _ _ _ ?_
    obtain ⟨hoth, hap⟩ := row_other (T := 105) q_stable (by decide) HR.out HO.out (apart_sym HA.out) hb1 hga hgx
    exact rvinv7 HB.out hb2 o12 hnew hoth hap hbs2 h0
noncomputable def rvregion8 : Code := (Tryz.f14.body.bind (findRegion 8)).getD .skip

set_option maxRecDepth 100000 in
set_option maxHeartbeats 6400000 in
theorem rvreg8 (w0 w : World) (base g1 k bp op lp cp e s S : Nat) (v0 v1 v2 v3 v5 va vb : Value) (qa qb : List CQ) (p : Pr) (x : CQ) {R : Act → World → Prop} {u0 u2 u3 u4 u8 u9 u10 u11 u12 u13 u14 u15 u16 u17 u18 u19 u20 u21 u22 u23 u24 u25 u26 u27 u28 u29 u30 u31 u32 u33 u34 u35 u36 u37 u38 u39 u40 u41 u42 u43 : Value}
    (hI : RVInv w0 w g1 base [v0, v1, v2, v3, .float .f32 s, v5, .slice (some ⟨bp, op, none⟩) lp cp] qa qb va vb) (hql : qb.length = k)
    (hq0 : w.cell? ⟨bp, op + k * 4 + 2, none⟩ = some (.int .i16 p.b0)) (hq1 : w.cell? ⟨bp, op + k * 4 + 2 + 1, none⟩ = some (.int .i16 p.b1)) (hp : p.ok) (hlp : k < lp)
    (h0 : w0.heap.size ≤ base) (h1 : g1 < base) (hbp : bp < base) (hk : k < 1000) (hw : Widens1 s S) (hw0 : Widens1 0 0) (hb : S < 18446744073709551616) (hfb : fexp S ≠ 2047) (hs : Small e ⟨fq S, fq 0⟩) (he : e ≤ 1000000) (he2 : 16 ≤ e) (hx : x = CQ.mul ⟨fq S, fq 0⟩ (cq p.b0 p.b1 1))
    (hQ : ∀ (w' : World) (ya x30 x31 x32 x33 x34 x35 x36 x37 x38 x39 x40 x41 : Value), RVInv w0 w' g1 base [v0, v1, v2, v3, .float .f32 s, v5, .slice (some ⟨bp, op, none⟩) lp cp] qa (qb ++ [x]) va ya → R ⟨List.toArray (u0 :: .pointer (some ⟨g1, 0, none⟩) :: u2 :: u3 :: u4 :: va :: ya :: .int .i64 (k : Int) :: u8 :: u9 :: u10 :: u11 :: u12 :: u13 :: u14 :: u15 :: u16 :: u17 :: u18 :: u19 :: u20 :: u21 :: u22 :: u23 :: u24 :: u25 :: u26 :: u27 :: u28 :: u29 :: x30 :: x31 :: x32 :: x33 :: x34 :: x35 :: x36 :: x37 :: x38 :: x39 :: x40 :: x41 :: u42 :: u43 :: []), []⟩ w') :
    Code.wp Tryz.prog rvregion8 (Only R) ⟨List.toArray (u0 :: .pointer (some ⟨g1, 0, none⟩) :: u2 :: u3 :: u4 :: va :: vb :: .int .i64 (k : Int) :: u8 :: u9 :: u10 :: u11 :: u12 :: u13 :: u14 :: u15 :: u16 :: u17 :: u18 :: u19 :: u20 :: u21 :: u22 :: u23 :: u24 :: u25 :: u26 :: u27 :: u28 :: u29 :: u30 :: u31 :: u32 :: u33 :: u34 :: u35 :: u36 :: u37 :: u38 :: u39 :: u40 :: u41 :: u42 :: u43 :: []), []⟩ w := by
  conv => arg 2; whnf
  obtain ⟨hB, o1, hra, hrb, ap, hbs⟩ := hI
  have HW := Lib.hid (fun W => rwave_spec p.b0 p.b1 s S e W hw hw0 hb hfb hs he he2 hp.2.2.1 hp.2.2.2)
  rw [← hx] at HW
  obtain ⟨us, hul, hr, hus⟩ := hrb
  rw [hql] at hr hul
  have HR := Lib.hid hr
  have HA := Lib.hid ap
  have HO := Lib.hid hra
  have HU := Lib.hid hus
  have HL := Lib.hid hql
  have HB := Lib.hid hB
  clear hw hw0 hb hfb hs he he2 hp hx hr ap hus hql hra hB
  have c14 := o1.cell 4 _ rfl
  have c16 := o1.cell 6 _ rfl
  have lt1 := o1.lt
  have ltp := World.block_lt_of_cell? w _ hq0
  have HQ0 := Lib.hid hq0
  have HQ1 := Lib.hid hq1
  have tok1 : True := trivial
  go_region_held3 (fun w' => w'.cell? ⟨g1, 4, none⟩ = some (.float .f32 s) ∧ w'.cell? ⟨g1, 6, none⟩ = some (.slice (some ⟨bp, op, none⟩) lp cp) ∧ w'.cell? ⟨bp, op + k * 4 + 2, none⟩ = some (.int .i16 p.b0) ∧ w'.cell? ⟨bp, op + k * 4 + 2 + 1, none⟩ = some (.int .i16 p.b1)) (first | (with_reducible exact ⟨c14, c16, hq0, hq1⟩) | (simp [go_sem, c14, c16, hq0, hq1, lt1, ltp]; done)) (first
    | (go_simp; go_at_call 42; have _t := tok1; refine (HW.out w.drew).mono ?_; rintro e1 W1 ⟨_, rfl, hu1, hb1⟩; have hb1 : Below w.heap.size w W1 := (Below.refl _ _).drew.trans hb1; obtain ⟨t0, t2, b1, b3, b4, m1, n1, m3, n3, m4, n4, rfl⟩ := hu1.open; have hr1 := row_below HR.out hb1; clear tok1 _t; have HU1 : Hid (QC W1 [.bool t0, .slice b1 m1 n1, .bool t2, .slice b3 m3 n3, .slice b4 m4 n4] x) := hu1; have o11 := o1.below hb1 o1.lt; have lt1 := o11.lt; clear hu1; have c14 := o11.cell 4 _ rfl; have c16 := o11.cell 6 _ rfl; have hq0 := (hb1.cell (World.block_lt_of_cell? w _ hq0)).trans hq0; have hq1 := (hb1.cell (World.block_lt_of_cell? w _ hq1)).trans hq1; have ltp := World.block_lt_of_cell? W1 _ hq0)
    | (refine step_app _ rfl (.tmp 30) (.tmp 40) 40 105 (.agg #[.bool false, .slice none 0 0, .bool false, .slice none 0 0, .slice none 0 0]) 5 88 rfl Tryz.underlying40 info_q rfl (by omega) (by omega) base vb k _ (by rfl) (World.ownsRow.alloc hr1 _) W1.heap.size _ (by rfl) (own_new W1 105 [.bool t0, .slice b1 m1 n1, .bool t2, .slice b3 m3 n3, .slice b4 m4 n4]) rfl one5 (by omega) (by have := hb1.size; simp; omega) ?_; intro ga ca wa hma hga hgx
       obtain ⟨hb2, hnew, hbs2⟩ := row_push q_stable (by decide) HL.out hul HR.out HU.out hbs hb1 HU1.out rfl hma hga
       have o12 := o1.below hb2 h1
       have lt1 := o12.lt
       have c14 := o12.cell 4 _ rfl
       have c16 := o12.cell 6 _ rfl
       have hq0 := (Below.cell hb2 (p := ⟨bp, op + k * 4 + 2, none⟩) hbp).trans HQ0.out
       have hq1 := (Below.cell hb2 (p := ⟨bp, op + k * 4 + 2 + 1, none⟩) hbp).trans HQ1.out
       have ltp := World.block_lt_of_cell? wa _ hq0))
  all_goals
    show R _ _
    refine hQ _ _ _ _ _ _ _ _ _ _ _ _ _ _ ?_
    obtain ⟨hoth, hap⟩ := row_other (T := 105) q_stable (by decide) HR.out HO.out HA.out hb1 hga hgx
    exact rvinv8 HB.out hb2 o12 hnew hoth hap hbs2 h0
end Go.Proofs.YtohnlmfmpflbpaaGreat

namespace Go.Proofs.YtohnlmfmpflbpaaGreat
open Go.RowKit

/-- The waves of a frame. -/
def waveA (X : CQ) (l : List Pr) : List CQ := l.map fun p => X.mul (cq p.a0 p.a1 1)
def waveB (X : CQ) (l : List Pr) : List CQ := l.map fun p => X.mul (cq p.b0 p.b1 1)
theorem waveA_len (X : CQ) (l : List Pr) : (waveA X l).length = l.length := by simp [waveA]
theorem waveB_len (X : CQ) (l : List Pr) : (waveB X l).length = l.length := by simp [waveB]
theorem waveA_snoc {X : CQ} {l : List Pr} {k : Nat} {p : Pr} (h : l[k]? = some p) : (waveA X l).take (k + 1) = (waveA X l).take k ++ [X.mul (cq p.a0 p.a1 1)] := by
  rw [List.take_add_one, show (waveA X l)[k]? = some (X.mul (cq p.a0 p.a1 1)) by simp [waveA, h]]; rfl
theorem waveB_snoc {X : CQ} {l : List Pr} {k : Nat} {p : Pr} (h : l[k]? = some p) : (waveB X l).take (k + 1) = (waveB X l).take k ++ [X.mul (cq p.b0 p.b1 1)] := by
  rw [List.take_add_one, show (waveB X l)[k]? = some (X.mul (cq p.b0 p.b1 1)) by simp [waveB, h]]; rfl

set_option maxRecDepth 100000 in
theorem values_no (v : Value) (f : Fr) (w : World) (h : FrRep w v f) (hv : f.valid = false) :
    Calls Tryz.prog 13 #[v] w (Ret w fun _ v' => v' = .tuple #[.slice none 0 0, .slice none 0 0, .int .i64 1]) := by
  have H := Lib.hid hv
  clear hv
  obtain ⟨vm, vp, rfl, hm, hp, hok⟩ := h
  have hf : FrRep w _ f := ⟨vm, vp, rfl, hm, hp, hok⟩
  go_enter Tryz.func13, Tryz.ntmps13
  go_upto_region 1 with (fail)
  obtain ⟨W, hW, o1, hB, hS⟩ := boxes1 w 27 [.int .u32 (f.seq : Int), .int .i64 f.point, .int .i64 f.source, .int .i64 f.turn, .float .f32 f.scale, vm, vp]
  rw [← hW]
  clear hW
  have hfW := hf.below hB (Nat.le_refl _)
  have fo1 := o1.free; have co10 := o1.cell 0 _ rfl; have co11 := o1.cell 1 _ rfl; have co12 := o1.cell 2 _ rfl; have co13 := o1.cell 3 _ rfl; have co14 := o1.cell 4 _ rfl; have co15 := o1.cell 5 _ rfl; have co16 := o1.cell 6 _ rfl
  go_wp2_with fail
  refine (valid_spec _ f W hfW).mono ?_
  rintro e W1 ⟨_, rfl, rfl, hb1⟩
  rw [H.out]
  go_wp2_with fail
  exact bodyPost_ret (by simp [results, Tryz.results13, go_sem]) rfl ⟨_, rfl, rfl, hB.trans (hb1.mono hB.size)⟩

set_option maxRecDepth 100000 in
theorem rvalues_no (v : Value) (f : Fr) (w : World) (h : FrRep w v f) (hv : f.valid = false) :
    Calls Tryz.prog 14 #[v] w (Ret w fun _ v' => v' = .tuple #[.slice none 0 0, .slice none 0 0, .int .i64 1]) := by
  have H := Lib.hid hv
  clear hv
  obtain ⟨vm, vp, rfl, hm, hp, hok⟩ := h
  have hf : FrRep w _ f := ⟨vm, vp, rfl, hm, hp, hok⟩
  go_enter Tryz.func14, Tryz.ntmps14
  go_upto_region 1 with (fail)
  obtain ⟨W, hW, o1, hB, hS⟩ := boxes1 w 27 [.int .u32 (f.seq : Int), .int .i64 f.point, .int .i64 f.source, .int .i64 f.turn, .float .f32 f.scale, vm, vp]
  rw [← hW]
  clear hW
  have hfW := hf.below hB (Nat.le_refl _)
  have fo1 := o1.free; have co10 := o1.cell 0 _ rfl; have co11 := o1.cell 1 _ rfl; have co12 := o1.cell 2 _ rfl; have co13 := o1.cell 3 _ rfl; have co14 := o1.cell 4 _ rfl; have co15 := o1.cell 5 _ rfl; have co16 := o1.cell 6 _ rfl
  go_wp2_with fail
  refine (rvalid_spec _ f W hfW).mono ?_
  rintro e W1 ⟨_, rfl, rfl, hb1⟩
  rw [H.out]
  go_wp2_with fail
  exact bodyPost_ret (by simp [results, Tryz.results14, go_sem]) rfl ⟨_, rfl, rfl, hB.trans (hb1.mono hB.size)⟩

set_option maxRecDepth 100000 in
set_option maxHeartbeats 1600000 in
theorem rvalues_yes (v : Value) (f : Fr) (S e : Nat) (w : World) (h : FrRep w v f) (hv : f.valid = true) (hw : Widens1 f.scale S) (hw0 : Widens1 0 0) (hb : S < 18446744073709551616) (hfb : fexp S ≠ 2047) (hs : Small e ⟨fq S, fq 0⟩) (he : e ≤ 1000000) (he2 : 16 ≤ e) :
    Calls Tryz.prog 14 #[v] w (Ret w fun w' v' => ∃ va vb, v' = .tuple #[va, vb, .int .i64 0] ∧ RowOf QC 105 5 w' w.heap.size va (waveA ⟨fq S, fq 0⟩ f.pairs) ∧ RowOf QC 105 5 w' w.heap.size vb (waveB ⟨fq S, fq 0⟩ f.pairs)) := by
  obtain ⟨⟨hn1, hn2⟩, hml, -⟩ := Fr.valid_iff.1 hv
  have H := Lib.hid hv
  have HW := Lib.hid hw
  have HW0 := Lib.hid hw0
  have HF := Lib.hid hfb
  have HSm := Lib.hid hs
  clear hv hml hw hw0 hfb hs
  obtain ⟨vm, vp, rfl, hm, hp, hok⟩ := h
  have hf : FrRep w _ f := ⟨_, _, rfl, hm, hp, hok⟩
  obtain ⟨am, lm, cm, rfl, Hlm, hcm, hmm, -⟩ := hm.any
  obtain ⟨ap, lp, cp, rfl, Hlp, hcp, hmp, -⟩ := hp.any
  have hlp1 : 1 ≤ lp := by have := Hlp.out; omega
  have hlp8 : lp ≤ 8 := by have := Hlp.out; omega
  have Hok := Lib.hid hok
  clear hok hn1 hn2
  go_enter Tryz.func14, Tryz.ntmps14
  go_upto_region 1 with (fail)
  obtain ⟨W, hW, o1, hB, hS⟩ := boxes1 w 27 [.int .u32 (f.seq : Int), .int .i64 f.point, .int .i64 f.source, .int .i64 f.turn, .float .f32 f.scale, .slice am lm cm, .slice ap lp cp]
  rw [← hW]
  clear hW
  have hfW := hf.below hB (Nat.le_refl _)
  have fo1 := o1.free; have co10 := o1.cell 0 _ rfl; have co11 := o1.cell 1 _ rfl; have co12 := o1.cell 2 _ rfl; have co13 := o1.cell 3 _ rfl; have co14 := o1.cell 4 _ rfl; have co15 := o1.cell 5 _ rfl; have co16 := o1.cell 6 _ rfl
  go_wp2_with fail
  refine (rvalid_spec _ f W hfW).mono ?_
  rintro e0 W1 ⟨_, rfl, rfl, hb1⟩
  rw [H.out]
  clear co10 co11 co12 co13 co14 co15 co16 fo1 hfW
  have hsW1 : W.heap.size ≤ W1.heap.size := hb1.size; have hB := hB.trans (hb1.mono hB.size); have o1 := o1.below hb1 o1.lt
  have hl1 := o1.lt
  have hl0 : w.heap.size ≤ W1.heap.size := hB.size
  have fo1 := o1.free; have co10 := o1.cell 0 _ rfl; have co11 := o1.cell 1 _ rfl; have co12 := o1.cell 2 _ rfl; have co13 := o1.cell 3 _ rfl; have co14 := o1.cell 4 _ rfl; have co15 := o1.cell 5 _ rfl; have co16 := o1.cell 6 _ rfl
  go_wp2_with fail
  have hI : RVInv w W1 w.heap.size W1.heap.size [.int .u32 (f.seq : Int), .int .i64 f.point, .int .i64 f.source, .int .i64 f.turn, .float .f32 f.scale, .slice am lm cm, .slice ap lp cp] ((waveA ⟨fq S, fq 0⟩ f.pairs).take 0) ((waveB ⟨fq S, fq 0⟩ f.pairs).take 0) (.slice none 0 0) (.slice none 0 0) :=
    ⟨hB, o1, RowOf.nil _ _ _ _ _, RowOf.nil _ _ _ _ _, .inl rfl, Nat.le_refl _⟩
  clear o1 hB co10 co11 co12 co13 co14 co15 co16 fo1
  generalize W1.heap.size = base at *
  go_loopw [5, 6, 7] (fun sa sb iv wr => ∃ k : Nat, k ≤ lp ∧ iv = .int .i64 (k : Int) ∧ RVInv w wr w.heap.size base [.int .u32 (f.seq : Int), .int .i64 f.point, .int .i64 f.source, .int .i64 f.turn, .float .f32 f.scale, .slice am lm cm, .slice ap lp cp] ((waveA ⟨fq S, fq 0⟩ f.pairs).take k) ((waveB ⟨fq S, fq 0⟩ f.pairs).take k) sa sb) (fun _ _ i _ => lp - (intOf i).toNat)
  case atStart => exact ⟨0, Nat.zero_le _, rfl, hI⟩
  case round =>
    clear hI
    obtain ⟨k, hk, rfl, hI⟩ := hrel
    have o1 := hI.o1
    have fo1 := o1.free; have co10 := o1.cell 0 _ rfl; have co11 := o1.cell 1 _ rfl; have co12 := o1.cell 2 _ rfl; have co13 := o1.cell 3 _ rfl; have co14 := o1.cell 4 _ rfl; have co15 := o1.cell 5 _ rfl; have co16 := o1.cell 6 _ rfl
    by_cases hlt : k < lp
    · obtain ⟨p, hpk⟩ : ∃ p, f.pairs[k]? = some p := ⟨_, List.getElem?_eq_getElem (by have := Hlp.out; omega)⟩
      obtain ⟨bp, op, rfl, q0, q1, q2, q3⟩ := (hp.below hI.hB (Nat.le_refl _)).at hpk
      obtain ⟨bp', op', e', q0', -, -, -⟩ := hp.at hpk
      injection e' with e'
      injection e' with e1 e2 e3
      subst e1 e2
      have hbp : bp < w.heap.size := World.block_lt_of_cell? w _ q0'
      have hpo := Hok.out.pairs p (List.mem_of_getElem? hpk)
      have HXA := Lib.hid (waveA_snoc (X := ⟨fq S, fq 0⟩) hpk)
      have HXB := Lib.hid (waveB_snoc (X := ⟨fq S, fq 0⟩) hpk)
      have HPO := Lib.hid hpo
      have HPK := Lib.hid hpk
      have hla : ((waveA ⟨fq S, fq 0⟩ f.pairs).take k).length = k := by rw [List.length_take, waveA_len, Hlp.out]; omega
      have hlb : ((waveB ⟨fq S, fq 0⟩ f.pairs).take k).length = k := by rw [List.length_take, waveB_len, Hlp.out]; omega
      clear hpk hpo q0' q2 q3
      go_upto_region 7 with (fail)
      refine only_of (rvreg7 w wr base w.heap.size k bp op lp cp e f.scale S _ _ _ _ _ _ _ _ _ p _ hI hla q0 q1 HPO.out hlt hl0 hl1 (by omega) (by omega) HW.out HW0.out hb HF.out HSm.out he he2 rfl ?_)
      clear hI o1 q0 q1 co10 co11 co12 co13 co14 co15 co16 fo1
      intro w' ya x18 x19 x20 x21 x22 x23 x24 x25 x26 x27 x28 x29 hI
      rw [← HXA.out] at hI
      obtain ⟨bp', op', e', -, -, q2, q3⟩ := (hp.below hI.hB (Nat.le_refl _)).at HPK.out
      injection e' with e'
      injection e' with e1 e2 e3
      subst e1 e2
      try simp only [Exit.then]
      go_upto_region 8 with (fail)
      refine only_of (rvreg8 w w' base w.heap.size k bp op lp cp e f.scale S _ _ _ _ _ _ _ _ _ p _ hI hlb q2 q3 HPO.out hlt hl0 hl1 (by omega) (by omega) HW.out HW0.out hb HF.out HSm.out he he2 rfl ?_)
      clear hI q2 q3
      intro w'' yb x30 x31 x32 x33 x34 x35 x36 x37 x38 x39 x40 x41 hI
      rw [← HXB.out] at hI
      try simp only [Exit.then]
      go_wp2_with fail
      go_roundw
      case rel => exact ⟨k + 1, by omega, by go_num, hI⟩
      case measure => simp [intOf]; omega
    · obtain rfl : k = lp := by omega
      rw [List.take_of_length_le (by rw [waveA_len, Hlp.out]; omega), List.take_of_length_le (by rw [waveB_len, Hlp.out]; omega)] at hI
      go_wp2_with fail
      exact bodyPost_ret (by simp [results, Tryz.results14, go_sem]) rfl ⟨_, rfl, ⟨_, _, rfl, hI.ra.base hl0, hI.rb.base hl0⟩, hI.hB⟩
end Go.Proofs.YtohnlmfmpflbpaaGreat

namespace Go.Proofs.YtohnlmfmpflbpaaGreat
open Go.RowKit

theorem fq_nought : fq 0 = 0 := by
  unfold fq
  rw [show fz 0 = 0 by unfold fz fman fneg fexp; simp [sgn], Int.zero_mul, zero_over]

theorem waveA_at {X : CQ} {l : List Pr} {k : Nat} {p : Pr} (h : l[k]? = some p) : (waveA X l)[k]? = some (X.mul (cq p.a0 p.a1 1)) := by simp [waveA, h]
theorem waveB_at {X : CQ} {l : List Pr} {k : Nat} {p : Pr} (h : l[k]? = some p) : (waveB X l)[k]? = some (X.mul (cq p.b0 p.b1 1)) := by simp [waveB, h]

/-- The words of a wave. -/
theorem near_wave {s S mag M p : Nat} {place : Int} (v : Value) (x1 x2 : Int) (w : World) (hr : Ieee.single.read s = .number false mag place) (hmag : 0 < mag) (hM : 0 < M) (hp : -149 ≤ place) (hs : SameVal mag place M ((p : Int) - 1074)) (hS : fq S = (((M : Int) * (2 ^ p : Nat) : Int) : Rat) / (((2 ^ 1074 : Nat) : Int) : Rat)) (hf : fexp S ≠ 2047)
    (h1 : -32768 ≤ x1 ∧ x1 ≤ 32767) (h2 : -32768 ≤ x2 ∧ x2 ≤ 32767) (h : QRep w v (CQ.mul ⟨fq S, fq 0⟩ (cq x1 x2 1))) :
    Calls Tryz.prog 45 #[v] w (Ret w fun _ v' => v' = .complex .f32 (mulW x1 s) (mulW x2 s)) := by
  obtain ⟨K, hK⟩ : ∃ K : Nat, K = 4000 := ⟨_, rfl⟩
  have h2e : (32768 : Nat) < 2 ^ K := Nat.lt_of_lt_of_le (show 32768 < 2 ^ 16 by decide) (Nat.pow_le_pow_right (by omega) (by omega))
  have h3 : Small K ⟨fq S, fq 0⟩ := by rw [fq_nought, hK]; exact fq_small S hf
  have h4 : Small K (cq x1 x2 1) := small_mk (by omega) (by omega) (by omega) (by omega)
  refine (near64_spec v _ _ w h (h3.mul h4) (by omega)).mono ?_
  rintro e w' ⟨_, rfl, ⟨R, I, rfl, hc⟩, hb⟩
  rw [fq_nought] at hc
  obtain ⟨rfl, rfl⟩ := wave_words hr hmag hM hp hs hS h1 h2 hc
  exact ⟨_, rfl, rfl, hb⟩

set_option maxRecDepth 100000 in
theorem rsamples_no (v : Value) (f : Fr) (w : World) (h : FrRep w v f) (hv : f.valid = false) :
    Calls Tryz.prog 17 #[v] w (Ret w fun _ v' => v' = .tuple #[.slice none 0 0, .int .i64 1]) := by
  have H := Lib.hid hv
  clear hv
  obtain ⟨vm, vp, rfl, hm, hp, hok⟩ := h
  have hf : FrRep w _ f := ⟨vm, vp, rfl, hm, hp, hok⟩
  go_enter Tryz.func17, Tryz.ntmps17
  go_upto_region 1 with (fail)
  obtain ⟨W, hW, o1, hB, hS⟩ := boxes1 w 27 [.int .u32 (f.seq : Int), .int .i64 f.point, .int .i64 f.source, .int .i64 f.turn, .float .f32 f.scale, vm, vp]
  rw [← hW]
  clear hW
  have hfW := hf.below hB (Nat.le_refl _)
  have fo1 := o1.free; have co10 := o1.cell 0 _ rfl; have co11 := o1.cell 1 _ rfl; have co12 := o1.cell 2 _ rfl; have co13 := o1.cell 3 _ rfl; have co14 := o1.cell 4 _ rfl; have co15 := o1.cell 5 _ rfl; have co16 := o1.cell 6 _ rfl
  go_wp2_with fail
  refine (rvalues_no _ f W hfW H.out).mono ?_
  rintro e W1 ⟨_, rfl, rfl, hb1⟩
  go_wp2_with fail
  go_ret2
  exact ⟨_, rfl, rfl, hB.trans (hb1.mono hB.size)⟩

set_option maxRecDepth 100000 in
set_option maxHeartbeats 1600000 in
theorem rsamples_yes (v : Value) (f : Fr) (w : World) (h : FrRep w v f) (hv : f.valid = true) :
    Calls Tryz.prog 17 #[v] w (Ret w fun w' v' => ∃ vo, v' = .tuple #[vo, .int .i64 0] ∧ RowOf SmpC 50 2 w' w.heap.size vo (f.pairs.map (smpOf f.scale))) := by
  obtain ⟨⟨hn1, hn2⟩, hml, -, -, -, hsc, -⟩ := Fr.valid_iff.1 hv
  obtain ⟨S, mag, M, p, place, hrd, hmag, hplace, hsame, hM, hfl, hfin, hfe, hfq⟩ := scale_widens hsc
  have HV := fun v w h => rvalues_yes v f S 4000 w h hv (widens1 hfl) (widens1 (by decide)) hfin.lt hfe (by rw [fq_nought]; exact fq_small S hfe) (by omega) (by omega)
  have HN := fun v x1 x2 w h1 h2 h => near_wave v x1 x2 w hrd hmag hM hplace hsame hfq hfe h1 h2 h
  generalize (⟨fq S, fq 0⟩ : CQ) = X at *
  have HVAL := Lib.hid HV
  have HNEAR := Lib.hid HN
  clear hv hml hsc hrd hmag hplace hsame hM hfl hfin hfe hfq HV HN
  obtain ⟨vm, vp, rfl, hm, hp, hok⟩ := h
  have hf : FrRep w _ f := ⟨_, _, rfl, hm, hp, hok⟩
  obtain ⟨am, lm, cm, rfl, Hlm, hcm, hmm, -⟩ := hm.any
  obtain ⟨ap, lp, cp, rfl, Hlp, hcp, hmp, -⟩ := hp.any
  have Hok := Lib.hid hok
  have hlp8 : lp ≤ 8 := by have := Hlp.out; omega
  clear hok hn1 hn2
  go_enter Tryz.func17, Tryz.ntmps17
  go_upto_region 1 with (fail)
  obtain ⟨W, hW, o1, hB, hS⟩ := boxes1 w 27 [.int .u32 (f.seq : Int), .int .i64 f.point, .int .i64 f.source, .int .i64 f.turn, .float .f32 f.scale, .slice am lm cm, .slice ap lp cp]
  rw [← hW]
  clear hW
  have hfW := hf.below hB (Nat.le_refl _)
  have fo1 := o1.free; have co10 := o1.cell 0 _ rfl; have co11 := o1.cell 1 _ rfl; have co12 := o1.cell 2 _ rfl; have co13 := o1.cell 3 _ rfl; have co14 := o1.cell 4 _ rfl; have co15 := o1.cell 5 _ rfl; have co16 := o1.cell 6 _ rfl
  go_wp2_with fail
  refine (HVAL.out _ W hfW).mono ?_
  rintro e0 W1 ⟨_, rfl, ⟨va, vb, rfl, ha, hb⟩, hb1⟩
  have sa := ha.sl
  have sb := hb.sl
  obtain ⟨aa, ca, rfl, hca1, hca2, -⟩ := ha.sl
  obtain ⟨ab, cb, rfl, hcb1, hcb2, -⟩ := hb.sl
  rw [waveA_len, Hlp.out] at hca1
  rw [waveB_len, Hlp.out] at hcb1
  have HSA : Hid (SlOf QC 5 W1 (.slice aa lp ca) (waveA X f.pairs)) := by have h := sa; rw [waveA_len, Hlp.out] at h; exact h
  have HSB : Hid (SlOf QC 5 W1 (.slice ab lp cb) (waveB X f.pairs)) := by have h := sb; rw [waveB_len, Hlp.out] at h; exact h
  rw [waveA_len, waveB_len, Hlp.out]
  clear co10 co11 co12 co13 co14 co15 co16 fo1 hfW ha hb sa sb
  have hsW1 : W.heap.size ≤ W1.heap.size := hb1.size; have hB := hB.trans (hb1.mono hB.size)
  have hl0 : w.heap.size ≤ W1.heap.size := hB.size
  have hI : RowOf SmpC 50 2 W1 W1.heap.size (.slice none 0 0) ((f.pairs.map (smpOf f.scale)).take 0) := RowOf.nil _ _ _ _ _
  clear o1
  go_wp2_with fail
  go_loopw [7, 8] (fun so iv wr => ∃ k : Nat, k ≤ lp ∧ iv = .int .i64 (k : Int) ∧ RowOf SmpC 50 2 wr W1.heap.size so ((f.pairs.map (smpOf f.scale)).take k) ∧ Below W1.heap.size W1 wr) (fun _ i _ => lp - (intOf i).toNat)
  case atStart => exact ⟨0, Nat.zero_le _, rfl, hI, Below.refl _ _⟩
  case round =>
    clear hI
    obtain ⟨k, hk, rfl, hI, hB2⟩ := hrel
    by_cases hlt : k < lp
    · obtain ⟨p, hpk⟩ : ∃ p, f.pairs[k]? = some p := ⟨_, List.getElem?_eq_getElem (by have := Hlp.out; omega)⟩
      obtain ⟨hpo1, hpo2, hpo3, hpo4⟩ := Hok.out.pairs p (List.mem_of_getElem? hpk)
      obtain ⟨a', c', e1, -, -, e2⟩ := HSA.out.below q_stable hB2 (Nat.le_refl _)
      injection e1 with e1 _ _
      subst e1
      obtain ⟨b1, o1, u1, rfl, hu1, hq1, hc1⟩ := e2 k _ (waveA_at hpk)
      obtain ⟨a', c', e1, -, -, e2'⟩ := HSB.out.below q_stable hB2 (Nat.le_refl _)
      injection e1 with e1 _ _
      subst e1
      obtain ⟨b2, o2, u2, rfl, hu2, hq2, hc2⟩ := e2' k _ (waveB_at hpk)
      obtain ⟨a', c', e1, -, -, e3⟩ := HSA.out
      injection e1 with e1 _ _
      obtain ⟨b1', o1', u1', e4, hu1', -, hc1'⟩ := e3 k _ (waveA_at hpk)
      rw [← e1] at e4
      injection e4 with e4
      injection e4 with e5 e6 _
      subst e5 e6
      obtain ⟨a'', c'', e7, -, -, e8⟩ := HSB.out
      injection e7 with e7 _ _
      obtain ⟨b2', o2', u2', e9, hu2', -, hc2'⟩ := e8 k _ (waveB_at hpk)
      rw [← e7] at e9
      injection e9 with e9
      injection e9 with e10 e11 _
      subst e10 e11
      have hlt1 : b1 < W1.heap.size := World.block_lt_of_cell? W1 _ (hc1' 0 _ (List.getElem?_eq_getElem (by omega)))
      have hlt2 : b2 < W1.heap.size := World.block_lt_of_cell? W1 _ (hc2' 0 _ (List.getElem?_eq_getElem (by omega)))
      clear e2 e2' e3 e8 hc1' hc2' hu1' hu2' e1 e7
      obtain ⟨s0, s2, a1, a3, a4, l1, m1, l3, m3, l4, m4, hx1⟩ := QRep.open hq1
      obtain ⟨t0, t2, d1, d3, d4, p1, r1, p3, r3, p4, r4, hx2⟩ := QRep.open hq2
      have hv1 : u1 = [.bool s0, .slice a1 l1 m1, .bool s2, .slice a3 l3 m3, .slice a4 l4 m4] := by injection hx1 with h; exact List.toArray_inj h
      have hv2 : u2 = [.bool t0, .slice d1 p1 r1, .bool t2, .slice d3 p3 r3, .slice d4 p4 r4] := by injection hx2 with h; exact List.toArray_inj h
      subst hv1 hv2
      have HSN : Hid ((f.pairs.map (smpOf f.scale)).take (k + 1) = (f.pairs.map (smpOf f.scale)).take k ++ [smpOf f.scale p]) := show _ = _ by
        rw [List.take_add_one, show (f.pairs.map (smpOf f.scale))[k]? = some (smpOf f.scale p) by simp [hpk]]; rfl
      have hlen : ((f.pairs.map (smpOf f.scale)).take k).length = k := by rw [List.length_take, List.length_map, Hlp.out]; omega
      go_upto_region 8 with (fail)
      refine only_of (rsreg8 wr W1.heap.size k b1 o1 lp ca b2 o2 lp cb _ _ (smpOf f.scale p) s0 s2 t0 t2 a1 a3 a4 d1 d3 d4 l1 m1 l3 m3 l4 m4 p1 r1 p3 r3 p4 r4 hI hlen hB2.size hlt hlt (by omega) hlt1 hlt2 (hc1 0 _ rfl) (hc1 1 _ rfl) (hc1 2 _ rfl) (hc1 3 _ rfl) (hc1 4 _ rfl) (hc2 0 _ rfl) (hc2 1 _ rfl) (hc2 2 _ rfl) (hc2 3 _ rfl) (hc2 4 _ rfl)
        (fun W hW => HNEAR.out _ p.a0 p.a1 W hpo1 hpo2 (QRep.below hq1 hW (Nat.le_refl _))) (fun W hW => HNEAR.out _ p.b0 p.b1 W hpo3 hpo4 (QRep.below hq2 hW (Nat.le_refl _))) ?_)
      intro w' ya x24 x25 x26 x27 x28 x29 x30 x31 x32 x33 x34 x35 x36 x37 hbn hIn hsz
      rw [← HSN.out] at hIn
      have hB3 := hB2.trans hbn
      clear hI hc1 hc2 hq1 hq2 hpk hpo1 hpo2 hpo3 hpo4 hbn hB2
      try simp only [Exit.then]
      go_wp2_with fail
      go_roundw
      case rel => exact ⟨k + 1, by omega, by go_num, hIn, hB3⟩
      case measure => simp [intOf]; omega
    · obtain rfl : k = lp := by omega
      rw [List.take_of_length_le (by rw [List.length_map, Hlp.out]; omega)] at hI
      go_wp2_with fail
      go_ret2
      exact ⟨_, rfl, ⟨_, rfl, hI.base hl0⟩, hB.trans (hB2.mono hl0)⟩
end Go.Proofs.YtohnlmfmpflbpaaGreat

namespace Go.Proofs.YtohnlmfmpflbpaaGreat
open Go.RowKit

/-- The bytes, the error and the samples of any frame. -/
def encB (f : Fr) : List UInt8 := if f.valid = true then enc f else []
def ecode (f : Fr) : Int := if f.valid = true then 0 else 1
def smpL (f : Fr) : List Smp := if f.valid = true then f.pairs.map (smpOf f.scale) else []

theorem encode_all (v : Value) (f : Fr) (w : World) (h : FrRep w v f) :
    Calls Tryz.prog 7 #[v] w (Ret w fun w' v' => ∃ s, v' = .tuple #[s, .int .i64 (ecode f)] ∧ OwnB w' w.heap.size s (encB f)) := by
  unfold ecode encB
  cases hv : f.valid
  · refine (encode_no v f w h hv).mono ?_
    rintro e w' ⟨_, rfl, rfl, hb⟩
    exact ⟨_, rfl, ⟨_, rfl, World.ownsRow_nil _ _ _ _⟩, hb⟩
  · refine (encode_yes v f w h hv).mono ?_
    rintro e w' ⟨_, rfl, ho, hb⟩
    exact ⟨_, rfl, ⟨_, rfl, ho⟩, hb⟩
theorem rencode_all (v : Value) (f : Fr) (w : World) (h : FrRep w v f) :
    Calls Tryz.prog 8 #[v] w (Ret w fun w' v' => ∃ s, v' = .tuple #[s, .int .i64 (ecode f)] ∧ OwnB w' w.heap.size s (encB f)) := by
  unfold ecode encB
  cases hv : f.valid
  · refine (rencode_no v f w h hv).mono ?_
    rintro e w' ⟨_, rfl, rfl, hb⟩
    exact ⟨_, rfl, ⟨_, rfl, World.ownsRow_nil _ _ _ _⟩, hb⟩
  · refine (rencode_yes v f w h hv).mono ?_
    rintro e w' ⟨_, rfl, ho, hb⟩
    exact ⟨_, rfl, ⟨_, rfl, ho⟩, hb⟩
theorem samples_all (v : Value) (f : Fr) (w : World) (h : FrRep w v f) :
    Calls Tryz.prog 16 #[v] w (Ret w fun w' v' => ∃ s, v' = .tuple #[s, .int .i64 (ecode f)] ∧ SlOf SmpC 2 w' s (smpL f)) := by
  unfold ecode smpL
  cases hv : f.valid
  · refine (samples_no v f w h hv).mono ?_
    rintro e w' ⟨_, rfl, rfl, hb⟩
    exact ⟨_, rfl, ⟨_, rfl, (RowOf.nil SmpC 50 2 w' 0).sl⟩, hb⟩
  · refine (samples_yes v f w h hv).mono ?_
    rintro e w' ⟨_, rfl, ⟨_, rfl, ho⟩, hb⟩
    exact ⟨_, rfl, ⟨_, rfl, ho.sl⟩, hb⟩
theorem rsamples_all (v : Value) (f : Fr) (w : World) (h : FrRep w v f) :
    Calls Tryz.prog 17 #[v] w (Ret w fun w' v' => ∃ s, v' = .tuple #[s, .int .i64 (ecode f)] ∧ SlOf SmpC 2 w' s (smpL f)) := by
  unfold ecode smpL
  cases hv : f.valid
  · refine (rsamples_no v f w h hv).mono ?_
    rintro e w' ⟨_, rfl, rfl, hb⟩
    exact ⟨_, rfl, ⟨_, rfl, (RowOf.nil SmpC 50 2 w' 0).sl⟩, hb⟩
  · refine (rsamples_yes v f w h hv).mono ?_
    rintro e w' ⟨_, rfl, ⟨_, rfl, ho⟩, hb⟩
    exact ⟨_, rfl, ⟨_, rfl, ho.sl⟩, hb⟩

theorem wave_small {X : CQ} {K : Nat} (hX : Small K X) (hK : 16 ≤ K) {a b : Int} (h1 : -32768 ≤ a ∧ a ≤ 32767) (h2 : -32768 ≤ b ∧ b ≤ 32767) : Small (2 * K + 1) (X.mul (cq a b 1)) := by
  have h2e : (32768 : Nat) < 2 ^ K := Nat.lt_of_lt_of_le (show 32768 < 2 ^ 16 by decide) (Nat.pow_le_pow_right (by omega) (by omega))
  exact hX.mul (small_mk (by omega) (by omega) (by omega) (by omega))

/-- Values of the program and of the reference: the same numbers. -/
theorem values_all (f : Fr) (hok : f.ok) (hl : f.pairs.length ≤ 1000) : ∃ (la lb : List CQ), (∀ x ∈ la, Small 8001 x) ∧ (∀ x ∈ lb, Small 8001 x) ∧ la.length ≤ 1000 ∧ lb.length ≤ 1000 ∧
    (∀ v w, FrRep w v f → Calls Tryz.prog 13 #[v] w (Ret w fun w' v' => ∃ va vb, v' = .tuple #[va, vb, .int .i64 (ecode f)] ∧ SlOf NumC 5 w' va la ∧ SlOf NumC 5 w' vb lb)) ∧
    (∀ v w, FrRep w v f → Calls Tryz.prog 14 #[v] w (Ret w fun w' v' => ∃ va vb, v' = .tuple #[va, vb, .int .i64 (ecode f)] ∧ SlOf QC 5 w' va la ∧ SlOf QC 5 w' vb lb)) := by
  unfold ecode
  cases hv : f.valid
  · refine ⟨[], [], by simp, by simp, by simp, by simp, fun v w h => ?_, fun v w h => ?_⟩
    · refine (values_no v f w h hv).mono ?_
      rintro e w' ⟨_, rfl, rfl, hb⟩
      exact ⟨_, rfl, ⟨_, _, rfl, (RowOf.nil NumC 70 5 w' 0).sl, (RowOf.nil NumC 70 5 w' 0).sl⟩, hb⟩
    · refine (rvalues_no v f w h hv).mono ?_
      rintro e w' ⟨_, rfl, rfl, hb⟩
      exact ⟨_, rfl, ⟨_, _, rfl, (RowOf.nil QC 105 5 w' 0).sl, (RowOf.nil QC 105 5 w' 0).sl⟩, hb⟩
  · obtain ⟨⟨hn1, hn2⟩, hml, -, -, -, hsc, -⟩ := Fr.valid_iff.1 hv
    obtain ⟨S, mag, M, p, place, hrd, hmag, hplace, hsame, hM, hfl, hfin, hfe, hfq⟩ := scale_widens hsc
    have hsm : Small 4000 ⟨fq S, fq 0⟩ := by rw [fq_nought]; exact fq_small S hfe
    refine ⟨waveA ⟨fq S, fq 0⟩ f.pairs, waveB ⟨fq S, fq 0⟩ f.pairs, fun x hx => ?_, fun x hx => ?_, by rw [waveA_len]; exact hl, by rw [waveB_len]; exact hl, fun v w h => ?_, fun v w h => ?_⟩
    · obtain ⟨p, hp, rfl⟩ := List.mem_map.1 hx
      obtain ⟨h1, h2, -, -⟩ := hok.pairs p hp
      exact wave_small hsm (by omega) h1 h2
    · obtain ⟨p, hp, rfl⟩ := List.mem_map.1 hx
      obtain ⟨-, -, h1, h2⟩ := hok.pairs p hp
      exact wave_small hsm (by omega) h1 h2
    · refine (values_yes v f S 4000 w h hv (widens2 hfl) hfin fin_zero hsm (by omega) (by omega)).mono ?_
      rintro e w' ⟨_, rfl, ⟨va, vb, base, rfl, ha, hb'⟩, hb⟩
      refine ⟨_, rfl, ⟨va, vb, rfl, (ha.rowOf (waveA_len _ _) fun i x hx => ?_).sl, (hb'.rowOf (waveB_len _ _) fun i x hx => ?_).sl⟩, hb⟩
      · unfold waveA at hx
        rw [List.getElem?_map] at hx
        obtain ⟨p, hp, rfl⟩ := Option.map_eq_some_iff.1 hx
        exact qaOf_at hp
      · unfold waveB at hx
        rw [List.getElem?_map] at hx
        obtain ⟨p, hp, rfl⟩ := Option.map_eq_some_iff.1 hx
        exact qbOf_at hp
    · refine (rvalues_yes v f S 4000 w h hv (widens1 hfl) (widens1 (by decide)) hfin.lt hfe hsm (by omega) (by omega)).mono ?_
      rintro e w' ⟨_, rfl, ⟨va, vb, rfl, ha, hb'⟩, hb⟩
      exact ⟨_, rfl, ⟨va, vb, rfl, ha.sl, hb'.sl⟩, hb⟩
end Go.Proofs.YtohnlmfmpflbpaaGreat
