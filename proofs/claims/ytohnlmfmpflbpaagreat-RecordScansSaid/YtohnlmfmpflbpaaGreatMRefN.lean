/- A drawn region of the reference's Decode: the head is read. Conditions: none. -/
import Derived.Test.YtohnlmfmpflbpaaGreatMRefI
import Derived.Test.YtohnlmfmpflbpaaGreatMRegion
import Derived.Deep.RegionHeld3
set_option linter.unusedSimpArgs false
set_option linter.unusedVariables false
set_option linter.all false
namespace Go.Proofs.YtohnlmfmpflbpaaGreat
open Go.RowKit

noncomputable def rregion9 : Code := (Tryz.f47.body.bind (findRegion 9)).getD .skip

set_option maxRecDepth 100000 in
set_option maxHeartbeats 6400000 in
theorem rreg9 (l : List UInt8) (b o n cap : Nat) (w : World) {R : Act → World → Prop} {u1 u2 u3 u4 u5 u6 u7 u8 u9 u10 u11 u12 u13 u14 u15 u16 u17 u18 u19 u20 u21 u22 u23 u24 u25 u26 u27 u28 u29 u30 u31 u32 u33 u34 u35 u36 u37 u38 u39 u40 u41 u42 u43 u44 u45 u46 u47 u48 u49 u50 u51 u52 u53 u54 u55 u56 u57 u58 u59 u60 u61 u62 u63 u64 u65 u66 u67 u68 u69 u70 u71 u72 u73 u74 u75 u76 u77 u78 u79 u80 u81 u82 u83 u84 u85 u86 u87 u88 u89 u90 u91 u92 u93 u94 u95 u96 u97 u98 u99 u100 u101 u102 u103 u104 u105 u106 u107 u108 u109 u110 u111 u112 u113 u114 u115 u116 u117 u118 u119 u120 u121 u122 u123 u124 u125 u126 u127 u128 u129 u130 u131 u132 u133 u134 u135 u136 u137 u138 u139 u140 u141 u142 u143 u144 u145 u146 u147 u148 u149 u150 u151 u152 u153 u154 u155 u156 u157 u158 u159 u160 u161 u162 u163 : Value}
    (hA : BytesA w (some ⟨b, o, none⟩) l) (Hn : Hid (l.length = n)) (hi : 18 ≤ n) (hcap : n ≤ cap) (hmax : cap ≤ 9223372036854775807)
    (hQ : ∀ (w' : World) (x84 x85 x86 x87 x88 x89 x90 x91 x92 x93 x94 x95 x96 x97 x98 x99 x100 x101 x102 x103 x104 : Value), Own w' 27 w.heap.size [.int .u32 (longAt l 4 : Int), .int .i64 (wordAt l 8 : Int), .int .i64 (byteAt l 3 : Int), .int .i64 (byteAt l 10 : Int), .float .f32 (longAt l 12), .slice none 0 0, .slice none 0 0] → Below w.heap.size w w' → w.heap.size < w'.heap.size → R ⟨List.toArray (.slice (some ⟨b, o, none⟩) n cap :: u1 :: u2 :: u3 :: u4 :: u5 :: u6 :: .pointer (some ⟨w.heap.size, 0, none⟩) :: u8 :: u9 :: u10 :: u11 :: u12 :: u13 :: u14 :: u15 :: u16 :: u17 :: u18 :: u19 :: u20 :: u21 :: u22 :: u23 :: u24 :: u25 :: u26 :: u27 :: u28 :: u29 :: u30 :: u31 :: u32 :: u33 :: u34 :: u35 :: u36 :: u37 :: u38 :: u39 :: u40 :: u41 :: u42 :: u43 :: u44 :: u45 :: u46 :: u47 :: u48 :: u49 :: u50 :: u51 :: u52 :: u53 :: u54 :: u55 :: u56 :: u57 :: u58 :: u59 :: u60 :: u61 :: u62 :: u63 :: u64 :: u65 :: u66 :: u67 :: u68 :: u69 :: u70 :: u71 :: u72 :: u73 :: u74 :: u75 :: u76 :: u77 :: u78 :: u79 :: u80 :: u81 :: u82 :: u83 :: x84 :: x85 :: x86 :: x87 :: x88 :: x89 :: x90 :: x91 :: x92 :: x93 :: x94 :: x95 :: x96 :: x97 :: x98 :: x99 :: x100 :: x101 :: x102 :: x103 :: x104 :: u105 :: u106 :: u107 :: u108 :: u109 :: u110 :: u111 :: u112 :: u113 :: u114 :: u115 :: u116 :: u117 :: u118 :: u119 :: u120 :: u121 :: u122 :: u123 :: u124 :: u125 :: u126 :: u127 :: u128 :: u129 :: u130 :: u131 :: u132 :: u133 :: u134 :: u135 :: u136 :: u137 :: u138 :: u139 :: u140 :: u141 :: u142 :: u143 :: u144 :: u145 :: u146 :: u147 :: u148 :: u149 :: u150 :: u151 :: u152 :: u153 :: u154 :: u155 :: u156 :: u157 :: u158 :: u159 :: u160 :: u161 :: u162 :: u163 :: []), []⟩ w') :
    Code.wp Tryz.prog rregion9 (Only R) ⟨List.toArray (.slice (some ⟨b, o, none⟩) n cap :: u1 :: u2 :: u3 :: u4 :: u5 :: u6 :: u7 :: u8 :: u9 :: u10 :: u11 :: u12 :: u13 :: u14 :: u15 :: u16 :: u17 :: u18 :: u19 :: u20 :: u21 :: u22 :: u23 :: u24 :: u25 :: u26 :: u27 :: u28 :: u29 :: u30 :: u31 :: u32 :: u33 :: u34 :: u35 :: u36 :: u37 :: u38 :: u39 :: u40 :: u41 :: u42 :: u43 :: u44 :: u45 :: u46 :: u47 :: u48 :: u49 :: u50 :: u51 :: u52 :: u53 :: u54 :: u55 :: u56 :: u57 :: u58 :: u59 :: u60 :: u61 :: u62 :: u63 :: u64 :: u65 :: u66 :: u67 :: u68 :: u69 :: u70 :: u71 :: u72 :: u73 :: u74 :: u75 :: u76 :: u77 :: u78 :: u79 :: u80 :: u81 :: u82 :: u83 :: u84 :: u85 :: u86 :: u87 :: u88 :: u89 :: u90 :: u91 :: u92 :: u93 :: u94 :: u95 :: u96 :: u97 :: u98 :: u99 :: u100 :: u101 :: u102 :: u103 :: u104 :: u105 :: u106 :: u107 :: u108 :: u109 :: u110 :: u111 :: u112 :: u113 :: u114 :: u115 :: u116 :: u117 :: u118 :: u119 :: u120 :: u121 :: u122 :: u123 :: u124 :: u125 :: u126 :: u127 :: u128 :: u129 :: u130 :: u131 :: u132 :: u133 :: u134 :: u135 :: u136 :: u137 :: u138 :: u139 :: u140 :: u141 :: u142 :: u143 :: u144 :: u145 :: u146 :: u147 :: u148 :: u149 :: u150 :: u151 :: u152 :: u153 :: u154 :: u155 :: u156 :: u157 :: u158 :: u159 :: u160 :: u161 :: u162 :: u163 :: []), []⟩ w := by
  conv => arg 2; whnf
  have H4 := Lib.hid (fun w' h => read_four b o l n cap 4 w' h Hn (by omega) hcap hmax)
  have H8 := Lib.hid (fun w' h => read_two b o l n cap 8 w' h Hn (by omega) hcap hmax)
  have H12 := Lib.hid (fun w' h => read_four b o l n cap 12 w' h Hn (by omega) hcap hmax)
  obtain ⟨_, _, e, q3⟩ := hA.cell (i := 3) (by rw [Hn.out]; omega)
  injection e with e
  injection e with e1 e2
  subst e1 e2
  obtain ⟨_, _, e, q10⟩ := hA.cell (i := 10) (by rw [Hn.out]; omega)
  injection e with e
  injection e with e1 e2
  subst e1 e2
  have ltb : b < w.heap.size := World.block_lt_of_cell? w _ q3
  have hA1 : BytesA w.drew (some ⟨b, o, none⟩) l := hA
  have hBz : Below w.heap.size w.drew (w.drew.alloc (.cells #[.int .u32 0, .int .i64 0, .int .i64 0, .int .i64 0, .float .f32 0, .slice none 0 0, .slice none 0 0] 27)) := (Below.refl w.heap.size w.drew).alloc (Nat.le_refl _) _
  have hA2 : BytesA (w.drew.alloc (.cells #[.int .u32 0, .int .i64 0, .int .i64 0, .int .i64 0, .float .f32 0, .slice none 0 0, .slice none 0 0] 27)) (some ⟨b, o, none⟩) l := hA1.below hBz (Nat.le_refl _)
  have hA3 : BytesA ((w.alloc (.cells #[.int .u32 0, .int .i64 0, .int .i64 0, .int .i64 0, .float .f32 0, .slice none 0 0, .slice none 0 0] 27)).drew) (some ⟨b, o, none⟩) l := hA2
  have oz : Own (w.drew.alloc (.cells #[.int .u32 0, .int .i64 0, .int .i64 0, .int .i64 0, .float .f32 0, .slice none 0 0, .slice none 0 0] 27)) 27 w.heap.size [.int .u32 0, .int .i64 0, .int .i64 0, .int .i64 0, .float .f32 0, .slice none 0 0, .slice none 0 0] := own_new w.drew 27 [.int .u32 0, .int .i64 0, .int .i64 0, .int .i64 0, .float .f32 0, .slice none 0 0, .slice none 0 0]
  have fz := oz.free
  have hlz : w.heap.size < (w.drew.alloc (.cells #[.int .u32 0, .int .i64 0, .int .i64 0, .int .i64 0, .float .f32 0, .slice none 0 0, .slice none 0 0] 27)).heap.size := oz.lt
  have hB0 : Below w.heap.size w (w.drew.alloc (.cells #[.int .u32 0, .int .i64 0, .int .i64 0, .int .i64 0, .float .f32 0, .slice none 0 0, .slice none 0 0] 27)) := (Below.refl _ _).drew.trans hBz
  have w4 := longAt_lt l 4
  have w12 := longAt_lt l 12
  generalize longAt l 4 = y4 at *
  generalize longAt l 12 = y12 at *
  generalize wordAt l 8 = y8 at *
  have v4 : IntKind.u32.wrap (y4 : Int) = (y4 : Int) := by rw [IntKind.wrap_u32']; omega
  have v12 : IntKind.u32.wrap (y12 : Int) = (y12 : Int) := by rw [IntKind.wrap_u32']; omega
  have hff := run_ff32
  have hst := run_store_float
  have i4 : (8 : Int) ≤ (cap : Int) := by omega
  have i8 : (10 : Int) ≤ (cap : Int) := by omega
  have i12 : (16 : Int) ≤ (cap : Int) := by omega
  have n4 : ¬ (cap = 4) := by omega
  have n8 : ¬ (cap = 8) := by omega
  have n12 : ¬ (cap = 12) := by omega
  have j3 : (3 : Int) < (n : Int) := by omega
  have j10 : (10 : Int) < (n : Int) := by omega
  have p3 : IntKind.i64.wrap (byteAt l 3 : Int) = (byteAt l 3 : Int) := IntWalk.i64_in _ (by have := byteAt_lt l 3; omega)
  have p10 : IntKind.i64.wrap (byteAt l 10 : Int) = (byteAt l 10 : Int) := IntWalk.i64_in _ (by have := byteAt_lt l 10; omega)
  clear hA
  have tok4 : True := trivial
  have tok8 : True := trivial
  have tok12 : True := trivial
  go_region_held3 (fun w' => w'.cell? ⟨b, o + 3, none⟩ = some (.int .u8 (byteAt l 3 : Int)) ∧ w'.cell? ⟨b, o + 10, none⟩ = some (.int .u8 (byteAt l 10 : Int))) (first | (with_reducible exact ⟨q3, q10⟩) | (simp [go_sem, q3, q10, ltb]; done)) (first
    | (go_simp; go_at_call 72; have _t := tok4; (first | (with_reducible refine (H4.out _ hA1).mono ?_) | (with_reducible refine (H4.out _ hA2).mono ?_) | (with_reducible refine (H4.out _ hA3).mono ?_)); rintro e1 w' ⟨rfl, rfl⟩; clear tok4 _t)
    | (go_simp; go_at_call 72; have _t := tok8; (first | (with_reducible refine (H8.out _ hA1).mono ?_) | (with_reducible refine (H8.out _ hA2).mono ?_) | (with_reducible refine (H8.out _ hA3).mono ?_)); rintro e1 w' ⟨rfl, rfl⟩; clear tok8 _t)
    | (go_simp; go_at_call 72; have _t := tok12; (first | (with_reducible refine (H12.out _ hA1).mono ?_) | (with_reducible refine (H12.out _ hA2).mono ?_) | (with_reducible refine (H12.out _ hA3).mono ?_)); rintro e1 w' ⟨rfl, rfl⟩; clear tok12 _t))
  all_goals
    show R _ _
    refine hQ _ _ _ _ _ _ _ _ _ _ _ _ _ _ _ _ _ _ _ _ _ _ ?_ ?_ ?_
    · first | exact own_new w 27 _ | exact own_new w.drew 27 _
    · first | exact ((Below.refl _ _).alloc (Nat.le_refl _) _).drew | exact (Below.refl w.heap.size w).drew.alloc (Nat.le_refl _) _
    · first | (simp [World.drew]; done) | (simp; done)
end Go.Proofs.YtohnlmfmpflbpaaGreat
