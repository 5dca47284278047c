/- The law's validity tests. Conditions: none. What the law RecordMergeBack keeps while it shifts the frequencies. Conditions: none. -/
import Derived.Test.YtpnfdlnhmhekeaaGreatMBackR
set_option linter.unusedSimpArgs false
set_option linter.unusedVariables false
set_option linter.all false
namespace Go.Proofs.YtpnfdlnhmhekeaaGreat
open Go.RowKit

noncomputable def mbregion9 : Code := (Tryz.f4.body.bind (findRegion 9)).getD .skip
set_option maxRecDepth 100000 in
set_option maxHeartbeats 6400000 in
theorem mbreg9a (w : World) (g7 g9 : Nat) (aF aB bF bB : Value) (aA bA : Value) {R : Act → World → Prop} {u0 u1 u2 u3 u4 u5 u6 u8 u10 u11 u12 u13 u14 u15 u16 u17 u18 u19 u20 u21 u22 u23 u24 u25 u26 u27 u28 u29 u30 u31 u32 u33 u34 u35 u36 u37 u38 u39 u40 u41 u42 u43 u44 u45 u46 u47 u48 u49 u50 u51 u52 u53 u54 u55 u56 u57 u58 u59 u60 u61 u62 u63 u64 u65 u66 u67 u68 u69 u70 u71 u72 u73 u74 u75 u76 u77 u78 u79 u80 u81 u82 u83 u84 u85 u86 u87 u88 u89 u90 u91 u92 u93 u94 u95 u96 u97 u98 u99 u100 u101 u102 u103 u104 u105 u106 u107 u108 u109 u110 u111 u112 u113 u114 u115 u116 u117 u118 u119 u120 u121 u122 u123 u124 u125 u126 u127 u128 u129 u130 u131 u132 u133 u134 u135 u136 u137 u138 u139 u140 u141 u142 u143 u144 u145 u146 u147 u148 u149 u150 u151 u152 u153 u154 u155 u156 u157 u158 u159 u160 u161 u162 u163 u164 u165 u166 u167 u168 u169 : Value}
    (o7 : Own w 33 g7 [aF, aA, aB]) (o9 : Own w 33 g9 [bF, bA, bB]) 
    (hV : ∀ W', Below w.heap.size w W' → Calls Tryz.prog 15 #[.agg #[aF, aA, aB]] W' (Ret W' fun _ v' => v' = .bool false))
    (hQ : ∀ (W' : World) (x61 x62 x63 x64 x65 x66 x67 x68 x69 x70 x71 x72 x73 x74 x75 x76 x77 x78 x79 x80 : Value), Below w.heap.size w W' → R ⟨List.toArray (u0 :: u1 :: u2 :: u3 :: u4 :: u5 :: u6 :: .pointer (some ⟨g7, 0, none⟩) :: u8 :: .pointer (some ⟨g9, 0, none⟩) :: u10 :: u11 :: u12 :: u13 :: u14 :: u15 :: u16 :: u17 :: u18 :: u19 :: u20 :: u21 :: u22 :: u23 :: u24 :: u25 :: u26 :: u27 :: u28 :: u29 :: u30 :: u31 :: u32 :: u33 :: u34 :: u35 :: u36 :: u37 :: u38 :: u39 :: u40 :: u41 :: u42 :: u43 :: u44 :: u45 :: u46 :: u47 :: u48 :: u49 :: u50 :: u51 :: u52 :: u53 :: u54 :: u55 :: u56 :: u57 :: u58 :: u59 :: u60 :: x61 :: x62 :: x63 :: x64 :: x65 :: x66 :: x67 :: x68 :: x69 :: x70 :: x71 :: x72 :: x73 :: x74 :: x75 :: x76 :: x77 :: x78 :: x79 :: x80 :: .bool true :: u82 :: u83 :: u84 :: u85 :: u86 :: u87 :: u88 :: u89 :: u90 :: u91 :: u92 :: u93 :: u94 :: u95 :: u96 :: u97 :: u98 :: u99 :: u100 :: u101 :: u102 :: u103 :: u104 :: u105 :: u106 :: u107 :: u108 :: u109 :: u110 :: u111 :: u112 :: u113 :: u114 :: u115 :: u116 :: u117 :: u118 :: u119 :: u120 :: u121 :: u122 :: u123 :: u124 :: u125 :: u126 :: u127 :: u128 :: u129 :: u130 :: u131 :: u132 :: u133 :: u134 :: u135 :: u136 :: u137 :: u138 :: u139 :: u140 :: u141 :: u142 :: u143 :: u144 :: u145 :: u146 :: u147 :: u148 :: u149 :: u150 :: u151 :: u152 :: u153 :: u154 :: u155 :: u156 :: u157 :: u158 :: u159 :: u160 :: u161 :: u162 :: u163 :: u164 :: u165 :: u166 :: u167 :: u168 :: u169 :: []), []⟩ W') :
    Code.wp Tryz.prog mbregion9 (Only R) ⟨List.toArray (u0 :: u1 :: u2 :: u3 :: u4 :: u5 :: u6 :: .pointer (some ⟨g7, 0, none⟩) :: u8 :: .pointer (some ⟨g9, 0, none⟩) :: u10 :: u11 :: u12 :: u13 :: u14 :: u15 :: u16 :: u17 :: u18 :: u19 :: u20 :: u21 :: u22 :: u23 :: u24 :: u25 :: u26 :: u27 :: u28 :: u29 :: u30 :: u31 :: u32 :: u33 :: u34 :: u35 :: u36 :: u37 :: u38 :: u39 :: u40 :: u41 :: u42 :: u43 :: u44 :: u45 :: u46 :: u47 :: u48 :: u49 :: u50 :: u51 :: u52 :: u53 :: u54 :: u55 :: u56 :: u57 :: u58 :: u59 :: u60 :: u61 :: u62 :: u63 :: u64 :: u65 :: u66 :: u67 :: u68 :: u69 :: u70 :: u71 :: u72 :: u73 :: u74 :: u75 :: u76 :: u77 :: u78 :: u79 :: u80 :: u81 :: u82 :: u83 :: u84 :: u85 :: u86 :: u87 :: u88 :: u89 :: u90 :: u91 :: u92 :: u93 :: u94 :: u95 :: u96 :: u97 :: u98 :: u99 :: u100 :: u101 :: u102 :: u103 :: u104 :: u105 :: u106 :: u107 :: u108 :: u109 :: u110 :: u111 :: u112 :: u113 :: u114 :: u115 :: u116 :: u117 :: u118 :: u119 :: u120 :: u121 :: u122 :: u123 :: u124 :: u125 :: u126 :: u127 :: u128 :: u129 :: u130 :: u131 :: u132 :: u133 :: u134 :: u135 :: u136 :: u137 :: u138 :: u139 :: u140 :: u141 :: u142 :: u143 :: u144 :: u145 :: u146 :: u147 :: u148 :: u149 :: u150 :: u151 :: u152 :: u153 :: u154 :: u155 :: u156 :: u157 :: u158 :: u159 :: u160 :: u161 :: u162 :: u163 :: u164 :: u165 :: u166 :: u167 :: u168 :: u169 :: []), []⟩ w := by
  conv => arg 2; whnf
  have c70 := o7.cell 0 _ rfl
  have c71 := o7.cell 1 _ rfl
  have c72 := o7.cell 2 _ rfl
  have c90 := o9.cell 0 _ rfl
  have c91 := o9.cell 1 _ rfl
  have c92 := o9.cell 2 _ rfl
  have l7 := o7.lt
  have l9 := o9.lt
  have HS := Lib.hid (show ∀ W' : World, (∀ p : Addr, p.block < w.heap.size → W'.cell? p = w.cell? p) → W'.cell? ⟨g7, 0, none⟩ = some (aF) ∧ W'.cell? ⟨g7, 1, none⟩ = some (aA) ∧ W'.cell? ⟨g7, 2, none⟩ = some (aB) ∧ W'.cell? ⟨g9, 0, none⟩ = some (bF) ∧ W'.cell? ⟨g9, 1, none⟩ = some (bA) ∧ W'.cell? ⟨g9, 2, none⟩ = some (bB) from fun W' hf => ⟨(hf _ l7).trans c70, (hf _ l7).trans c71, (hf _ l7).trans c72, (hf _ l9).trans c90, (hf _ l9).trans c91, (hf _ l9).trans c92⟩)
  have hS := HS.out w.drew (fun p _ => rfl)
  have hL := True.intro
  have hbw : Below w.heap.size w w.drew := (Below.refl _ _).drew
  have HV := Lib.hid hV
  clear hV c70 c71 c72 c90 c91 c92 o7 o9
  refine wp_region_late (fun w' => w'.cell? ⟨g7, 0, none⟩ = some (aF) ∧ w'.cell? ⟨g7, 1, none⟩ = some (aA) ∧ w'.cell? ⟨g7, 2, none⟩ = some (aB) ∧ w'.cell? ⟨g9, 0, none⟩ = some (bF) ∧ w'.cell? ⟨g9, 1, none⟩ = some (bA) ∧ w'.cell? ⟨g9, 2, none⟩ = some (bB)) (fun w' => True) (fun i => false) (by kernel_rfl) ?_; try simp only [List.size_toArray, List.length_cons, List.length_nil, Nat.reduceAdd]
  generalize w.drew = W0 at *
  (refine wpAnyM_take (i := 0) (oi := _) (v := ?_) rfl (by kernel_rfl) (by kernel_rfl) (by kernel_rfl) (fun _ _ _ h => h) (by rfl) ?_ hS ?_; rotate_left; (intro w' hSw; (try dsimp only at hSw); go_simp; try exact rfl)); (try simp only [Act.put, List.setIfInBounds_toArray, List.set_cons_zero, List.set_cons_succ, List.getElem_toArray, List.getElem_cons_zero, List.getElem_cons_succ, List.getElem?_toArray, List.getElem?_cons_zero, List.getElem?_cons_succ])
  refine wpAnyM_one (i := 1) (o := _) (by kernel_rfl) rfl (fun K hK => ?_); go_simp; go_at_call 15; (with_reducible refine (HV.out W0 hbw).mono ?_); rintro e1 W1 ⟨_, rfl, rfl, hb1⟩; have hbw := hbw.trans (hb1.mono hbw.size); have hS := HS.out W1 (fun p hp => hbw.cell hp); refine hK _ _ hS (fun _ _ => hL) ?_; clear hK K; (try simp only [Act.put, List.setIfInBounds_toArray, List.set_cons_zero, List.set_cons_succ, List.getElem_toArray, List.getElem_cons_zero, List.getElem_cons_succ, List.getElem?_toArray, List.getElem?_cons_zero, List.getElem?_cons_succ])
  (refine wpAnyM_take (i := 2) (oi := _) (v := ?_) rfl (by kernel_rfl) (by kernel_rfl) (by kernel_rfl) (fun _ _ _ h => h) (by rfl) ?_ hS ?_; rotate_left; (intro w' hSw; (try dsimp only at hSw); go_simp; try exact rfl)); (try simp only [Act.put, List.setIfInBounds_toArray, List.set_cons_zero, List.set_cons_succ, List.getElem_toArray, List.getElem_cons_zero, List.getElem_cons_succ, List.getElem?_toArray, List.getElem?_cons_zero, List.getElem?_cons_succ]); (refine wpAnyM_take (i := 3) (oi := _) (v := ?_) rfl (by kernel_rfl) (by kernel_rfl) (by kernel_rfl) (fun _ _ _ h => h) (by rfl) ?_ hS ?_; rotate_left; (intro w' hSw; (try dsimp only at hSw); go_simp; try exact rfl)); (try simp only [Act.put, List.setIfInBounds_toArray, List.set_cons_zero, List.set_cons_succ, List.getElem_toArray, List.getElem_cons_zero, List.getElem_cons_succ, List.getElem?_toArray, List.getElem?_cons_zero, List.getElem?_cons_succ])
  refine wpAnyM_skip (i := 4) (oi := _) rfl (by kernel_rfl) (by kernel_rfl) (by kernel_rfl) (fun _ _ _ h => h) (by rfl) hS ?_; (try simp only [Act.put, List.setIfInBounds_toArray, List.set_cons_zero, List.set_cons_succ, List.getElem_toArray, List.getElem_cons_zero, List.getElem_cons_succ, List.getElem?_toArray, List.getElem?_cons_zero, List.getElem?_cons_succ]); refine wpAnyM_skip (i := 5) (oi := _) rfl (by kernel_rfl) (by kernel_rfl) (by kernel_rfl) (fun _ _ _ h => h) (by rfl) hS ?_; (try simp only [Act.put, List.setIfInBounds_toArray, List.set_cons_zero, List.set_cons_succ, List.getElem_toArray, List.getElem_cons_zero, List.getElem_cons_succ, List.getElem?_toArray, List.getElem?_cons_zero, List.getElem?_cons_succ]); refine wpAnyM_skip (i := 6) (oi := _) rfl (by kernel_rfl) (by kernel_rfl) (by kernel_rfl) (fun _ _ _ h => h) (by rfl) hS ?_; (try simp only [Act.put, List.setIfInBounds_toArray, List.set_cons_zero, List.set_cons_succ, List.getElem_toArray, List.getElem_cons_zero, List.getElem_cons_succ, List.getElem?_toArray, List.getElem?_cons_zero, List.getElem?_cons_succ])
  (refine wpAnyM_take (i := 7) (oi := _) (v := ?_) rfl (by kernel_rfl) (by kernel_rfl) (by kernel_rfl) (fun _ _ _ h => h) (by rfl) ?_ hS ?_; rotate_left; (intro w' hSw; (try dsimp only at hSw); go_simp; try exact rfl)); (try simp only [Act.put, List.setIfInBounds_toArray, List.set_cons_zero, List.set_cons_succ, List.getElem_toArray, List.getElem_cons_zero, List.getElem_cons_succ, List.getElem?_toArray, List.getElem?_cons_zero, List.getElem?_cons_succ]); (refine wpAnyM_take (i := 8) (oi := _) (v := ?_) rfl (by kernel_rfl) (by kernel_rfl) (by kernel_rfl) (fun _ _ _ h => h) (by rfl) ?_ hS ?_; rotate_left; (intro w' hSw; (try dsimp only at hSw); go_simp; try exact rfl)); (try simp only [Act.put, List.setIfInBounds_toArray, List.set_cons_zero, List.set_cons_succ, List.getElem_toArray, List.getElem_cons_zero, List.getElem_cons_succ, List.getElem?_toArray, List.getElem?_cons_zero, List.getElem?_cons_succ])
  refine wpAnyM_skip (i := 9) (oi := _) rfl (by kernel_rfl) (by kernel_rfl) (by kernel_rfl) (fun _ _ _ h => h) (by rfl) hS ?_; (try simp only [Act.put, List.setIfInBounds_toArray, List.set_cons_zero, List.set_cons_succ, List.getElem_toArray, List.getElem_cons_zero, List.getElem_cons_succ, List.getElem?_toArray, List.getElem?_cons_zero, List.getElem?_cons_succ]); refine wpAnyM_skip (i := 10) (oi := _) rfl (by kernel_rfl) (by kernel_rfl) (by kernel_rfl) (fun _ _ _ h => h) (by rfl) hS ?_; (try simp only [Act.put, List.setIfInBounds_toArray, List.set_cons_zero, List.set_cons_succ, List.getElem_toArray, List.getElem_cons_zero, List.getElem_cons_succ, List.getElem?_toArray, List.getElem?_cons_zero, List.getElem?_cons_succ]); refine wpAnyM_skip (i := 11) (oi := _) rfl (by kernel_rfl) (by kernel_rfl) (by kernel_rfl) (fun _ _ _ h => h) (by rfl) hS ?_; (try simp only [Act.put, List.setIfInBounds_toArray, List.set_cons_zero, List.set_cons_succ, List.getElem_toArray, List.getElem_cons_zero, List.getElem_cons_succ, List.getElem?_toArray, List.getElem?_cons_zero, List.getElem?_cons_succ]); refine wpAnyM_skip (i := 12) (oi := _) rfl (by kernel_rfl) (by kernel_rfl) (by kernel_rfl) (fun _ _ _ h => h) (by rfl) hS ?_; (try simp only [Act.put, List.setIfInBounds_toArray, List.set_cons_zero, List.set_cons_succ, List.getElem_toArray, List.getElem_cons_zero, List.getElem_cons_succ, List.getElem?_toArray, List.getElem?_cons_zero, List.getElem?_cons_succ]); refine wpAnyM_skip (i := 13) (oi := _) rfl (by kernel_rfl) (by kernel_rfl) (by kernel_rfl) (fun _ _ _ h => h) (by rfl) hS ?_; (try simp only [Act.put, List.setIfInBounds_toArray, List.set_cons_zero, List.set_cons_succ, List.getElem_toArray, List.getElem_cons_zero, List.getElem_cons_succ, List.getElem?_toArray, List.getElem?_cons_zero, List.getElem?_cons_succ]); refine wpAnyM_skip (i := 14) (oi := _) rfl (by kernel_rfl) (by kernel_rfl) (by kernel_rfl) (fun _ _ _ h => h) (by rfl) hS ?_; (try simp only [Act.put, List.setIfInBounds_toArray, List.set_cons_zero, List.set_cons_succ, List.getElem_toArray, List.getElem_cons_zero, List.getElem_cons_succ, List.getElem?_toArray, List.getElem?_cons_zero, List.getElem?_cons_succ]); refine wpAnyM_skip (i := 15) (oi := _) rfl (by kernel_rfl) (by kernel_rfl) (by kernel_rfl) (fun _ _ _ h => h) (by rfl) hS ?_; (try simp only [Act.put, List.setIfInBounds_toArray, List.set_cons_zero, List.set_cons_succ, List.getElem_toArray, List.getElem_cons_zero, List.getElem_cons_succ, List.getElem?_toArray, List.getElem?_cons_zero, List.getElem?_cons_succ]); refine wpAnyM_skip (i := 16) (oi := _) rfl (by kernel_rfl) (by kernel_rfl) (by kernel_rfl) (fun _ _ _ h => h) (by rfl) hS ?_; (try simp only [Act.put, List.setIfInBounds_toArray, List.set_cons_zero, List.set_cons_succ, List.getElem_toArray, List.getElem_cons_zero, List.getElem_cons_succ, List.getElem?_toArray, List.getElem?_cons_zero, List.getElem?_cons_succ]); refine wpAnyM_skip (i := 17) (oi := _) rfl (by kernel_rfl) (by kernel_rfl) (by kernel_rfl) (fun _ _ _ h => h) (by rfl) hS ?_; (try simp only [Act.put, List.setIfInBounds_toArray, List.set_cons_zero, List.set_cons_succ, List.getElem_toArray, List.getElem_cons_zero, List.getElem_cons_succ, List.getElem?_toArray, List.getElem?_cons_zero, List.getElem?_cons_succ]); refine wpAnyM_skip (i := 18) (oi := _) rfl (by kernel_rfl) (by kernel_rfl) (by kernel_rfl) (fun _ _ _ h => h) (by rfl) hS ?_; (try simp only [Act.put, List.setIfInBounds_toArray, List.set_cons_zero, List.set_cons_succ, List.getElem_toArray, List.getElem_cons_zero, List.getElem_cons_succ, List.getElem?_toArray, List.getElem?_cons_zero, List.getElem?_cons_succ]); refine wpAnyM_skip (i := 19) (oi := _) rfl (by kernel_rfl) (by kernel_rfl) (by kernel_rfl) (fun _ _ _ h => h) (by rfl) hS ?_; (try simp only [Act.put, List.setIfInBounds_toArray, List.set_cons_zero, List.set_cons_succ, List.getElem_toArray, List.getElem_cons_zero, List.getElem_cons_succ, List.getElem?_toArray, List.getElem?_cons_zero, List.getElem?_cons_succ])
  refine wpAnyM_one (i := 20) (o := _) (by kernel_rfl) rfl (fun K hK => ?_); go_simp; refine hK _ _ hS (fun _ _ => hL) ?_; clear hK K; (try simp only [Act.put, List.setIfInBounds_toArray, List.set_cons_zero, List.set_cons_succ, List.getElem_toArray, List.getElem_cons_zero, List.getElem_cons_succ, List.getElem?_toArray, List.getElem?_cons_zero, List.getElem?_cons_succ])
  refine wpAnyM_done (by kernel_rfl) ?_ _
  show R _ _
  exact hQ _ _ _ _ _ _ _ _ _ _ _ _ _ _ _ _ _ _ _ _ _ hbw

set_option maxRecDepth 100000 in
set_option maxHeartbeats 6400000 in
theorem mbreg9b (w : World) (g7 g9 : Nat) (aF aB bF bB : Value) (aA bA : Value) {R : Act → World → Prop} {u0 u1 u2 u3 u4 u5 u6 u8 u10 u11 u12 u13 u14 u15 u16 u17 u18 u19 u20 u21 u22 u23 u24 u25 u26 u27 u28 u29 u30 u31 u32 u33 u34 u35 u36 u37 u38 u39 u40 u41 u42 u43 u44 u45 u46 u47 u48 u49 u50 u51 u52 u53 u54 u55 u56 u57 u58 u59 u60 u61 u62 u63 u64 u65 u66 u67 u68 u69 u70 u71 u72 u73 u74 u75 u76 u77 u78 u79 u80 u81 u82 u83 u84 u85 u86 u87 u88 u89 u90 u91 u92 u93 u94 u95 u96 u97 u98 u99 u100 u101 u102 u103 u104 u105 u106 u107 u108 u109 u110 u111 u112 u113 u114 u115 u116 u117 u118 u119 u120 u121 u122 u123 u124 u125 u126 u127 u128 u129 u130 u131 u132 u133 u134 u135 u136 u137 u138 u139 u140 u141 u142 u143 u144 u145 u146 u147 u148 u149 u150 u151 u152 u153 u154 u155 u156 u157 u158 u159 u160 u161 u162 u163 u164 u165 u166 u167 u168 u169 : Value}
    (o7 : Own w 33 g7 [aF, aA, aB]) (o9 : Own w 33 g9 [bF, bA, bB]) 
    (hV : ∀ W', Below w.heap.size w W' → Calls Tryz.prog 15 #[.agg #[aF, aA, aB]] W' (Ret W' fun _ v' => v' = .bool true))
    (hU : ∀ W', Below w.heap.size w W' → Calls Tryz.prog 15 #[.agg #[bF, bA, bB]] W' (Ret W' fun _ v' => v' = .bool false))
    (hQ : ∀ (W' : World) (x61 x62 x63 x64 x65 x66 x67 x68 x69 x70 x71 x72 x73 x74 x75 x76 x77 x78 x79 x80 : Value), Below w.heap.size w W' → R ⟨List.toArray (u0 :: u1 :: u2 :: u3 :: u4 :: u5 :: u6 :: .pointer (some ⟨g7, 0, none⟩) :: u8 :: .pointer (some ⟨g9, 0, none⟩) :: u10 :: u11 :: u12 :: u13 :: u14 :: u15 :: u16 :: u17 :: u18 :: u19 :: u20 :: u21 :: u22 :: u23 :: u24 :: u25 :: u26 :: u27 :: u28 :: u29 :: u30 :: u31 :: u32 :: u33 :: u34 :: u35 :: u36 :: u37 :: u38 :: u39 :: u40 :: u41 :: u42 :: u43 :: u44 :: u45 :: u46 :: u47 :: u48 :: u49 :: u50 :: u51 :: u52 :: u53 :: u54 :: u55 :: u56 :: u57 :: u58 :: u59 :: u60 :: x61 :: x62 :: x63 :: x64 :: x65 :: x66 :: x67 :: x68 :: x69 :: x70 :: x71 :: x72 :: x73 :: x74 :: x75 :: x76 :: x77 :: x78 :: x79 :: x80 :: .bool true :: u82 :: u83 :: u84 :: u85 :: u86 :: u87 :: u88 :: u89 :: u90 :: u91 :: u92 :: u93 :: u94 :: u95 :: u96 :: u97 :: u98 :: u99 :: u100 :: u101 :: u102 :: u103 :: u104 :: u105 :: u106 :: u107 :: u108 :: u109 :: u110 :: u111 :: u112 :: u113 :: u114 :: u115 :: u116 :: u117 :: u118 :: u119 :: u120 :: u121 :: u122 :: u123 :: u124 :: u125 :: u126 :: u127 :: u128 :: u129 :: u130 :: u131 :: u132 :: u133 :: u134 :: u135 :: u136 :: u137 :: u138 :: u139 :: u140 :: u141 :: u142 :: u143 :: u144 :: u145 :: u146 :: u147 :: u148 :: u149 :: u150 :: u151 :: u152 :: u153 :: u154 :: u155 :: u156 :: u157 :: u158 :: u159 :: u160 :: u161 :: u162 :: u163 :: u164 :: u165 :: u166 :: u167 :: u168 :: u169 :: []), []⟩ W') :
    Code.wp Tryz.prog mbregion9 (Only R) ⟨List.toArray (u0 :: u1 :: u2 :: u3 :: u4 :: u5 :: u6 :: .pointer (some ⟨g7, 0, none⟩) :: u8 :: .pointer (some ⟨g9, 0, none⟩) :: u10 :: u11 :: u12 :: u13 :: u14 :: u15 :: u16 :: u17 :: u18 :: u19 :: u20 :: u21 :: u22 :: u23 :: u24 :: u25 :: u26 :: u27 :: u28 :: u29 :: u30 :: u31 :: u32 :: u33 :: u34 :: u35 :: u36 :: u37 :: u38 :: u39 :: u40 :: u41 :: u42 :: u43 :: u44 :: u45 :: u46 :: u47 :: u48 :: u49 :: u50 :: u51 :: u52 :: u53 :: u54 :: u55 :: u56 :: u57 :: u58 :: u59 :: u60 :: u61 :: u62 :: u63 :: u64 :: u65 :: u66 :: u67 :: u68 :: u69 :: u70 :: u71 :: u72 :: u73 :: u74 :: u75 :: u76 :: u77 :: u78 :: u79 :: u80 :: u81 :: u82 :: u83 :: u84 :: u85 :: u86 :: u87 :: u88 :: u89 :: u90 :: u91 :: u92 :: u93 :: u94 :: u95 :: u96 :: u97 :: u98 :: u99 :: u100 :: u101 :: u102 :: u103 :: u104 :: u105 :: u106 :: u107 :: u108 :: u109 :: u110 :: u111 :: u112 :: u113 :: u114 :: u115 :: u116 :: u117 :: u118 :: u119 :: u120 :: u121 :: u122 :: u123 :: u124 :: u125 :: u126 :: u127 :: u128 :: u129 :: u130 :: u131 :: u132 :: u133 :: u134 :: u135 :: u136 :: u137 :: u138 :: u139 :: u140 :: u141 :: u142 :: u143 :: u144 :: u145 :: u146 :: u147 :: u148 :: u149 :: u150 :: u151 :: u152 :: u153 :: u154 :: u155 :: u156 :: u157 :: u158 :: u159 :: u160 :: u161 :: u162 :: u163 :: u164 :: u165 :: u166 :: u167 :: u168 :: u169 :: []), []⟩ w := by
  conv => arg 2; whnf
  have c70 := o7.cell 0 _ rfl
  have c71 := o7.cell 1 _ rfl
  have c72 := o7.cell 2 _ rfl
  have c90 := o9.cell 0 _ rfl
  have c91 := o9.cell 1 _ rfl
  have c92 := o9.cell 2 _ rfl
  have l7 := o7.lt
  have l9 := o9.lt
  have HS := Lib.hid (show ∀ W' : World, (∀ p : Addr, p.block < w.heap.size → W'.cell? p = w.cell? p) → W'.cell? ⟨g7, 0, none⟩ = some (aF) ∧ W'.cell? ⟨g7, 1, none⟩ = some (aA) ∧ W'.cell? ⟨g7, 2, none⟩ = some (aB) ∧ W'.cell? ⟨g9, 0, none⟩ = some (bF) ∧ W'.cell? ⟨g9, 1, none⟩ = some (bA) ∧ W'.cell? ⟨g9, 2, none⟩ = some (bB) from fun W' hf => ⟨(hf _ l7).trans c70, (hf _ l7).trans c71, (hf _ l7).trans c72, (hf _ l9).trans c90, (hf _ l9).trans c91, (hf _ l9).trans c92⟩)
  have hS := HS.out w.drew (fun p _ => rfl)
  have hL := True.intro
  have hbw : Below w.heap.size w w.drew := (Below.refl _ _).drew
  have HV := Lib.hid hV
  have HU := Lib.hid hU
  clear hV hU c70 c71 c72 c90 c91 c92 o7 o9
  refine wp_region_late (fun w' => w'.cell? ⟨g7, 0, none⟩ = some (aF) ∧ w'.cell? ⟨g7, 1, none⟩ = some (aA) ∧ w'.cell? ⟨g7, 2, none⟩ = some (aB) ∧ w'.cell? ⟨g9, 0, none⟩ = some (bF) ∧ w'.cell? ⟨g9, 1, none⟩ = some (bA) ∧ w'.cell? ⟨g9, 2, none⟩ = some (bB)) (fun w' => True) (fun i => false) (by kernel_rfl) ?_; try simp only [List.size_toArray, List.length_cons, List.length_nil, Nat.reduceAdd]
  generalize w.drew = W0 at *
  (refine wpAnyM_take (i := 0) (oi := _) (v := ?_) rfl (by kernel_rfl) (by kernel_rfl) (by kernel_rfl) (fun _ _ _ h => h) (by rfl) ?_ hS ?_; rotate_left; (intro w' hSw; (try dsimp only at hSw); go_simp; try exact rfl)); (try simp only [Act.put, List.setIfInBounds_toArray, List.set_cons_zero, List.set_cons_succ, List.getElem_toArray, List.getElem_cons_zero, List.getElem_cons_succ, List.getElem?_toArray, List.getElem?_cons_zero, List.getElem?_cons_succ])
  refine wpAnyM_one (i := 1) (o := _) (by kernel_rfl) rfl (fun K hK => ?_); go_simp; go_at_call 15; (with_reducible refine (HV.out W0 hbw).mono ?_); rintro e1 W1 ⟨_, rfl, rfl, hb1⟩; have hbw := hbw.trans (hb1.mono hbw.size); have hS := HS.out W1 (fun p hp => hbw.cell hp); refine hK _ _ hS (fun _ _ => hL) ?_; clear hK K; (try simp only [Act.put, List.setIfInBounds_toArray, List.set_cons_zero, List.set_cons_succ, List.getElem_toArray, List.getElem_cons_zero, List.getElem_cons_succ, List.getElem?_toArray, List.getElem?_cons_zero, List.getElem?_cons_succ])
  (refine wpAnyM_take (i := 2) (oi := _) (v := ?_) rfl (by kernel_rfl) (by kernel_rfl) (by kernel_rfl) (fun _ _ _ h => h) (by rfl) ?_ hS ?_; rotate_left; (intro w' hSw; (try dsimp only at hSw); go_simp; try exact rfl)); (try simp only [Act.put, List.setIfInBounds_toArray, List.set_cons_zero, List.set_cons_succ, List.getElem_toArray, List.getElem_cons_zero, List.getElem_cons_succ, List.getElem?_toArray, List.getElem?_cons_zero, List.getElem?_cons_succ]); (refine wpAnyM_take (i := 3) (oi := _) (v := ?_) rfl (by kernel_rfl) (by kernel_rfl) (by kernel_rfl) (fun _ _ _ h => h) (by rfl) ?_ hS ?_; rotate_left; (intro w' hSw; (try dsimp only at hSw); go_simp; try exact rfl)); (try simp only [Act.put, List.setIfInBounds_toArray, List.set_cons_zero, List.set_cons_succ, List.getElem_toArray, List.getElem_cons_zero, List.getElem_cons_succ, List.getElem?_toArray, List.getElem?_cons_zero, List.getElem?_cons_succ]); (refine wpAnyM_take (i := 4) (oi := _) (v := ?_) rfl (by kernel_rfl) (by kernel_rfl) (by kernel_rfl) (fun _ _ _ h => h) (by rfl) ?_ hS ?_; rotate_left; (intro w' hSw; (try dsimp only at hSw); go_simp; try exact rfl)); (try simp only [Act.put, List.setIfInBounds_toArray, List.set_cons_zero, List.set_cons_succ, List.getElem_toArray, List.getElem_cons_zero, List.getElem_cons_succ, List.getElem?_toArray, List.getElem?_cons_zero, List.getElem?_cons_succ])
  refine wpAnyM_one (i := 5) (o := _) (by kernel_rfl) rfl (fun K hK => ?_); go_simp; go_at_call 15; (with_reducible refine (HU.out W1 hbw).mono ?_); rintro e1 W2 ⟨_, rfl, rfl, hb2⟩; have hbw := hbw.trans (hb2.mono hbw.size); have hS := HS.out W2 (fun p hp => hbw.cell hp); refine hK _ _ hS (fun _ _ => hL) ?_; clear hK K; (try simp only [Act.put, List.setIfInBounds_toArray, List.set_cons_zero, List.set_cons_succ, List.getElem_toArray, List.getElem_cons_zero, List.getElem_cons_succ, List.getElem?_toArray, List.getElem?_cons_zero, List.getElem?_cons_succ])
  (refine wpAnyM_take (i := 6) (oi := _) (v := ?_) rfl (by kernel_rfl) (by kernel_rfl) (by kernel_rfl) (fun _ _ _ h => h) (by rfl) ?_ hS ?_; rotate_left; (intro w' hSw; (try dsimp only at hSw); go_simp; try exact rfl)); (try simp only [Act.put, List.setIfInBounds_toArray, List.set_cons_zero, List.set_cons_succ, List.getElem_toArray, List.getElem_cons_zero, List.getElem_cons_succ, List.getElem?_toArray, List.getElem?_cons_zero, List.getElem?_cons_succ]); (refine wpAnyM_take (i := 7) (oi := _) (v := ?_) rfl (by kernel_rfl) (by kernel_rfl) (by kernel_rfl) (fun _ _ _ h => h) (by rfl) ?_ hS ?_; rotate_left; (intro w' hSw; (try dsimp only at hSw); go_simp; try exact rfl)); (try simp only [Act.put, List.setIfInBounds_toArray, List.set_cons_zero, List.set_cons_succ, List.getElem_toArray, List.getElem_cons_zero, List.getElem_cons_succ, List.getElem?_toArray, List.getElem?_cons_zero, List.getElem?_cons_succ]); (refine wpAnyM_take (i := 8) (oi := _) (v := ?_) rfl (by kernel_rfl) (by kernel_rfl) (by kernel_rfl) (fun _ _ _ h => h) (by rfl) ?_ hS ?_; rotate_left; (intro w' hSw; (try dsimp only at hSw); go_simp; try exact rfl)); (try simp only [Act.put, List.setIfInBounds_toArray, List.set_cons_zero, List.set_cons_succ, List.getElem_toArray, List.getElem_cons_zero, List.getElem_cons_succ, List.getElem?_toArray, List.getElem?_cons_zero, List.getElem?_cons_succ])
  refine wpAnyM_skip (i := 9) (oi := _) rfl (by kernel_rfl) (by kernel_rfl) (by kernel_rfl) (fun _ _ _ h => h) (by rfl) hS ?_; (try simp only [Act.put, List.setIfInBounds_toArray, List.set_cons_zero, List.set_cons_succ, List.getElem_toArray, List.getElem_cons_zero, List.getElem_cons_succ, List.getElem?_toArray, List.getElem?_cons_zero, List.getElem?_cons_succ]); refine wpAnyM_skip (i := 10) (oi := _) rfl (by kernel_rfl) (by kernel_rfl) (by kernel_rfl) (fun _ _ _ h => h) (by rfl) hS ?_; (try simp only [Act.put, List.setIfInBounds_toArray, List.set_cons_zero, List.set_cons_succ, List.getElem_toArray, List.getElem_cons_zero, List.getElem_cons_succ, List.getElem?_toArray, List.getElem?_cons_zero, List.getElem?_cons_succ]); refine wpAnyM_skip (i := 11) (oi := _) rfl (by kernel_rfl) (by kernel_rfl) (by kernel_rfl) (fun _ _ _ h => h) (by rfl) hS ?_; (try simp only [Act.put, List.setIfInBounds_toArray, List.set_cons_zero, List.set_cons_succ, List.getElem_toArray, List.getElem_cons_zero, List.getElem_cons_succ, List.getElem?_toArray, List.getElem?_cons_zero, List.getElem?_cons_succ]); refine wpAnyM_skip (i := 12) (oi := _) rfl (by kernel_rfl) (by kernel_rfl) (by kernel_rfl) (fun _ _ _ h => h) (by rfl) hS ?_; (try simp only [Act.put, List.setIfInBounds_toArray, List.set_cons_zero, List.set_cons_succ, List.getElem_toArray, List.getElem_cons_zero, List.getElem_cons_succ, List.getElem?_toArray, List.getElem?_cons_zero, List.getElem?_cons_succ]); refine wpAnyM_skip (i := 13) (oi := _) rfl (by kernel_rfl) (by kernel_rfl) (by kernel_rfl) (fun _ _ _ h => h) (by rfl) hS ?_; (try simp only [Act.put, List.setIfInBounds_toArray, List.set_cons_zero, List.set_cons_succ, List.getElem_toArray, List.getElem_cons_zero, List.getElem_cons_succ, List.getElem?_toArray, List.getElem?_cons_zero, List.getElem?_cons_succ]); refine wpAnyM_skip (i := 14) (oi := _) rfl (by kernel_rfl) (by kernel_rfl) (by kernel_rfl) (fun _ _ _ h => h) (by rfl) hS ?_; (try simp only [Act.put, List.setIfInBounds_toArray, List.set_cons_zero, List.set_cons_succ, List.getElem_toArray, List.getElem_cons_zero, List.getElem_cons_succ, List.getElem?_toArray, List.getElem?_cons_zero, List.getElem?_cons_succ]); refine wpAnyM_skip (i := 15) (oi := _) rfl (by kernel_rfl) (by kernel_rfl) (by kernel_rfl) (fun _ _ _ h => h) (by rfl) hS ?_; (try simp only [Act.put, List.setIfInBounds_toArray, List.set_cons_zero, List.set_cons_succ, List.getElem_toArray, List.getElem_cons_zero, List.getElem_cons_succ, List.getElem?_toArray, List.getElem?_cons_zero, List.getElem?_cons_succ]); refine wpAnyM_skip (i := 16) (oi := _) rfl (by kernel_rfl) (by kernel_rfl) (by kernel_rfl) (fun _ _ _ h => h) (by rfl) hS ?_; (try simp only [Act.put, List.setIfInBounds_toArray, List.set_cons_zero, List.set_cons_succ, List.getElem_toArray, List.getElem_cons_zero, List.getElem_cons_succ, List.getElem?_toArray, List.getElem?_cons_zero, List.getElem?_cons_succ]); refine wpAnyM_skip (i := 17) (oi := _) rfl (by kernel_rfl) (by kernel_rfl) (by kernel_rfl) (fun _ _ _ h => h) (by rfl) hS ?_; (try simp only [Act.put, List.setIfInBounds_toArray, List.set_cons_zero, List.set_cons_succ, List.getElem_toArray, List.getElem_cons_zero, List.getElem_cons_succ, List.getElem?_toArray, List.getElem?_cons_zero, List.getElem?_cons_succ]); refine wpAnyM_skip (i := 18) (oi := _) rfl (by kernel_rfl) (by kernel_rfl) (by kernel_rfl) (fun _ _ _ h => h) (by rfl) hS ?_; (try simp only [Act.put, List.setIfInBounds_toArray, List.set_cons_zero, List.set_cons_succ, List.getElem_toArray, List.getElem_cons_zero, List.getElem_cons_succ, List.getElem?_toArray, List.getElem?_cons_zero, List.getElem?_cons_succ]); refine wpAnyM_skip (i := 19) (oi := _) rfl (by kernel_rfl) (by kernel_rfl) (by kernel_rfl) (fun _ _ _ h => h) (by rfl) hS ?_; (try simp only [Act.put, List.setIfInBounds_toArray, List.set_cons_zero, List.set_cons_succ, List.getElem_toArray, List.getElem_cons_zero, List.getElem_cons_succ, List.getElem?_toArray, List.getElem?_cons_zero, List.getElem?_cons_succ])
  refine wpAnyM_one (i := 20) (o := _) (by kernel_rfl) rfl (fun K hK => ?_); go_simp; refine hK _ _ hS (fun _ _ => hL) ?_; clear hK K; (try simp only [Act.put, List.setIfInBounds_toArray, List.set_cons_zero, List.set_cons_succ, List.getElem_toArray, List.getElem_cons_zero, List.getElem_cons_succ, List.getElem?_toArray, List.getElem?_cons_zero, List.getElem?_cons_succ])
  refine wpAnyM_done (by kernel_rfl) ?_ _
  show R _ _
  exact hQ _ _ _ _ _ _ _ _ _ _ _ _ _ _ _ _ _ _ _ _ _ hbw

set_option maxRecDepth 100000 in
set_option maxHeartbeats 6400000 in
theorem mbreg9c (w : World) (g7 g9 : Nat) (aF aB bF bB : Value) (x1 x2 : Option Addr) (b1 o1 n1 c1 b2 o2 n2 c2 p q d1 d2 : Nat) (hn1 : 0 < n1) (hn2 : 0 < n2) {R : Act → World → Prop} {u0 u1 u2 u3 u4 u5 u6 u8 u10 u11 u12 u13 u14 u15 u16 u17 u18 u19 u20 u21 u22 u23 u24 u25 u26 u27 u28 u29 u30 u31 u32 u33 u34 u35 u36 u37 u38 u39 u40 u41 u42 u43 u44 u45 u46 u47 u48 u49 u50 u51 u52 u53 u54 u55 u56 u57 u58 u59 u60 u61 u62 u63 u64 u65 u66 u67 u68 u69 u70 u71 u72 u73 u74 u75 u76 u77 u78 u79 u80 u81 u82 u83 u84 u85 u86 u87 u88 u89 u90 u91 u92 u93 u94 u95 u96 u97 u98 u99 u100 u101 u102 u103 u104 u105 u106 u107 u108 u109 u110 u111 u112 u113 u114 u115 u116 u117 u118 u119 u120 u121 u122 u123 u124 u125 u126 u127 u128 u129 u130 u131 u132 u133 u134 u135 u136 u137 u138 u139 u140 u141 u142 u143 u144 u145 u146 u147 u148 u149 u150 u151 u152 u153 u154 u155 u156 u157 u158 u159 u160 u161 u162 u163 u164 u165 u166 u167 u168 u169 : Value}
    (o7 : Own w 33 g7 [aF, .slice (some ⟨b1, o1, none⟩) n1 c1, aB]) (o9 : Own w 33 g9 [bF, .slice (some ⟨b2, o2, none⟩) n2 c2, bB]) (hx0 : w.cell? ⟨b1, o1, none⟩ = some (.slice x1 p d1)) (hx1 : w.cell? ⟨b2, o2, none⟩ = some (.slice x2 q d2))
    (hV : ∀ W', Below w.heap.size w W' → Calls Tryz.prog 15 #[.agg #[aF, .slice (some ⟨b1, o1, none⟩) n1 c1, aB]] W' (Ret W' fun _ v' => v' = .bool true))
    (hU : ∀ W', Below w.heap.size w W' → Calls Tryz.prog 15 #[.agg #[bF, .slice (some ⟨b2, o2, none⟩) n2 c2, bB]] W' (Ret W' fun _ v' => v' = .bool true))
    (hQ : ∀ (W' : World) (x61 x62 x63 x64 x65 x66 x67 x68 x69 x70 x71 x72 x73 x74 x75 x76 x77 x78 x79 x80 : Value), Below w.heap.size w W' → R ⟨List.toArray (u0 :: u1 :: u2 :: u3 :: u4 :: u5 :: u6 :: .pointer (some ⟨g7, 0, none⟩) :: u8 :: .pointer (some ⟨g9, 0, none⟩) :: u10 :: u11 :: u12 :: u13 :: u14 :: u15 :: u16 :: u17 :: u18 :: u19 :: u20 :: u21 :: u22 :: u23 :: u24 :: u25 :: u26 :: u27 :: u28 :: u29 :: u30 :: u31 :: u32 :: u33 :: u34 :: u35 :: u36 :: u37 :: u38 :: u39 :: u40 :: u41 :: u42 :: u43 :: u44 :: u45 :: u46 :: u47 :: u48 :: u49 :: u50 :: u51 :: u52 :: u53 :: u54 :: u55 :: u56 :: u57 :: u58 :: u59 :: u60 :: x61 :: x62 :: x63 :: x64 :: x65 :: x66 :: x67 :: x68 :: x69 :: x70 :: x71 :: x72 :: x73 :: x74 :: x75 :: x76 :: x77 :: x78 :: x79 :: x80 :: .bool ((p : Int) != (q : Int)) :: u82 :: u83 :: u84 :: u85 :: u86 :: u87 :: u88 :: u89 :: u90 :: u91 :: u92 :: u93 :: u94 :: u95 :: u96 :: u97 :: u98 :: u99 :: u100 :: u101 :: u102 :: u103 :: u104 :: u105 :: u106 :: u107 :: u108 :: u109 :: u110 :: u111 :: u112 :: u113 :: u114 :: u115 :: u116 :: u117 :: u118 :: u119 :: u120 :: u121 :: u122 :: u123 :: u124 :: u125 :: u126 :: u127 :: u128 :: u129 :: u130 :: u131 :: u132 :: u133 :: u134 :: u135 :: u136 :: u137 :: u138 :: u139 :: u140 :: u141 :: u142 :: u143 :: u144 :: u145 :: u146 :: u147 :: u148 :: u149 :: u150 :: u151 :: u152 :: u153 :: u154 :: u155 :: u156 :: u157 :: u158 :: u159 :: u160 :: u161 :: u162 :: u163 :: u164 :: u165 :: u166 :: u167 :: u168 :: u169 :: []), []⟩ W') :
    Code.wp Tryz.prog mbregion9 (Only R) ⟨List.toArray (u0 :: u1 :: u2 :: u3 :: u4 :: u5 :: u6 :: .pointer (some ⟨g7, 0, none⟩) :: u8 :: .pointer (some ⟨g9, 0, none⟩) :: u10 :: u11 :: u12 :: u13 :: u14 :: u15 :: u16 :: u17 :: u18 :: u19 :: u20 :: u21 :: u22 :: u23 :: u24 :: u25 :: u26 :: u27 :: u28 :: u29 :: u30 :: u31 :: u32 :: u33 :: u34 :: u35 :: u36 :: u37 :: u38 :: u39 :: u40 :: u41 :: u42 :: u43 :: u44 :: u45 :: u46 :: u47 :: u48 :: u49 :: u50 :: u51 :: u52 :: u53 :: u54 :: u55 :: u56 :: u57 :: u58 :: u59 :: u60 :: u61 :: u62 :: u63 :: u64 :: u65 :: u66 :: u67 :: u68 :: u69 :: u70 :: u71 :: u72 :: u73 :: u74 :: u75 :: u76 :: u77 :: u78 :: u79 :: u80 :: u81 :: u82 :: u83 :: u84 :: u85 :: u86 :: u87 :: u88 :: u89 :: u90 :: u91 :: u92 :: u93 :: u94 :: u95 :: u96 :: u97 :: u98 :: u99 :: u100 :: u101 :: u102 :: u103 :: u104 :: u105 :: u106 :: u107 :: u108 :: u109 :: u110 :: u111 :: u112 :: u113 :: u114 :: u115 :: u116 :: u117 :: u118 :: u119 :: u120 :: u121 :: u122 :: u123 :: u124 :: u125 :: u126 :: u127 :: u128 :: u129 :: u130 :: u131 :: u132 :: u133 :: u134 :: u135 :: u136 :: u137 :: u138 :: u139 :: u140 :: u141 :: u142 :: u143 :: u144 :: u145 :: u146 :: u147 :: u148 :: u149 :: u150 :: u151 :: u152 :: u153 :: u154 :: u155 :: u156 :: u157 :: u158 :: u159 :: u160 :: u161 :: u162 :: u163 :: u164 :: u165 :: u166 :: u167 :: u168 :: u169 :: []), []⟩ w := by
  conv => arg 2; whnf
  have c70 := o7.cell 0 _ rfl
  have c71 := o7.cell 1 _ rfl
  have c72 := o7.cell 2 _ rfl
  have c90 := o9.cell 0 _ rfl
  have c91 := o9.cell 1 _ rfl
  have c92 := o9.cell 2 _ rfl
  have l7 := o7.lt
  have l9 := o9.lt
  have HS := Lib.hid (show ∀ W' : World, (∀ p : Addr, p.block < w.heap.size → W'.cell? p = w.cell? p) → W'.cell? ⟨g7, 0, none⟩ = some (aF) ∧ W'.cell? ⟨g7, 1, none⟩ = some (.slice (some ⟨b1, o1, none⟩) n1 c1) ∧ W'.cell? ⟨g7, 2, none⟩ = some (aB) ∧ W'.cell? ⟨g9, 0, none⟩ = some (bF) ∧ W'.cell? ⟨g9, 1, none⟩ = some (.slice (some ⟨b2, o2, none⟩) n2 c2) ∧ W'.cell? ⟨g9, 2, none⟩ = some (bB) ∧ W'.cell? ⟨b1, o1, none⟩ = some (.slice x1 p d1) ∧ W'.cell? ⟨b2, o2, none⟩ = some (.slice x2 q d2) from fun W' hf => ⟨(hf _ l7).trans c70, (hf _ l7).trans c71, (hf _ l7).trans c72, (hf _ l9).trans c90, (hf _ l9).trans c91, (hf _ l9).trans c92, (hf _ (World.block_lt_of_cell? w _ hx0)).trans hx0, (hf _ (World.block_lt_of_cell? w _ hx1)).trans hx1⟩)
  have hS := HS.out w.drew (fun p _ => rfl)
  have hL := True.intro
  have hbw : Below w.heap.size w w.drew := (Below.refl _ _).drew
  have HV := Lib.hid hV
  have HU := Lib.hid hU
  clear hV hU c70 c71 c72 c90 c91 c92 o7 o9 hx0 hx1
  refine wp_region_late (fun w' => w'.cell? ⟨g7, 0, none⟩ = some (aF) ∧ w'.cell? ⟨g7, 1, none⟩ = some (.slice (some ⟨b1, o1, none⟩) n1 c1) ∧ w'.cell? ⟨g7, 2, none⟩ = some (aB) ∧ w'.cell? ⟨g9, 0, none⟩ = some (bF) ∧ w'.cell? ⟨g9, 1, none⟩ = some (.slice (some ⟨b2, o2, none⟩) n2 c2) ∧ w'.cell? ⟨g9, 2, none⟩ = some (bB) ∧ w'.cell? ⟨b1, o1, none⟩ = some (.slice x1 p d1) ∧ w'.cell? ⟨b2, o2, none⟩ = some (.slice x2 q d2)) (fun w' => True) (fun i => false) (by kernel_rfl) ?_; try simp only [List.size_toArray, List.length_cons, List.length_nil, Nat.reduceAdd]
  generalize w.drew = W0 at *
  (refine wpAnyM_take (i := 0) (oi := _) (v := ?_) rfl (by kernel_rfl) (by kernel_rfl) (by kernel_rfl) (fun _ _ _ h => h) (by rfl) ?_ hS ?_; rotate_left; (intro w' hSw; (try dsimp only at hSw); go_simp; try exact rfl)); (try simp only [Act.put, List.setIfInBounds_toArray, List.set_cons_zero, List.set_cons_succ, List.getElem_toArray, List.getElem_cons_zero, List.getElem_cons_succ, List.getElem?_toArray, List.getElem?_cons_zero, List.getElem?_cons_succ])
  refine wpAnyM_one (i := 1) (o := _) (by kernel_rfl) rfl (fun K hK => ?_); go_simp; go_at_call 15; (with_reducible refine (HV.out W0 hbw).mono ?_); rintro e1 W1 ⟨_, rfl, rfl, hb1⟩; have hbw := hbw.trans (hb1.mono hbw.size); have hS := HS.out W1 (fun p hp => hbw.cell hp); refine hK _ _ hS (fun _ _ => hL) ?_; clear hK K; (try simp only [Act.put, List.setIfInBounds_toArray, List.set_cons_zero, List.set_cons_succ, List.getElem_toArray, List.getElem_cons_zero, List.getElem_cons_succ, List.getElem?_toArray, List.getElem?_cons_zero, List.getElem?_cons_succ])
  (refine wpAnyM_take (i := 2) (oi := _) (v := ?_) rfl (by kernel_rfl) (by kernel_rfl) (by kernel_rfl) (fun _ _ _ h => h) (by rfl) ?_ hS ?_; rotate_left; (intro w' hSw; (try dsimp only at hSw); go_simp; try exact rfl)); (try simp only [Act.put, List.setIfInBounds_toArray, List.set_cons_zero, List.set_cons_succ, List.getElem_toArray, List.getElem_cons_zero, List.getElem_cons_succ, List.getElem?_toArray, List.getElem?_cons_zero, List.getElem?_cons_succ]); (refine wpAnyM_take (i := 3) (oi := _) (v := ?_) rfl (by kernel_rfl) (by kernel_rfl) (by kernel_rfl) (fun _ _ _ h => h) (by rfl) ?_ hS ?_; rotate_left; (intro w' hSw; (try dsimp only at hSw); go_simp; try exact rfl)); (try simp only [Act.put, List.setIfInBounds_toArray, List.set_cons_zero, List.set_cons_succ, List.getElem_toArray, List.getElem_cons_zero, List.getElem_cons_succ, List.getElem?_toArray, List.getElem?_cons_zero, List.getElem?_cons_succ]); (refine wpAnyM_take (i := 4) (oi := _) (v := ?_) rfl (by kernel_rfl) (by kernel_rfl) (by kernel_rfl) (fun _ _ _ h => h) (by rfl) ?_ hS ?_; rotate_left; (intro w' hSw; (try dsimp only at hSw); go_simp; try exact rfl)); (try simp only [Act.put, List.setIfInBounds_toArray, List.set_cons_zero, List.set_cons_succ, List.getElem_toArray, List.getElem_cons_zero, List.getElem_cons_succ, List.getElem?_toArray, List.getElem?_cons_zero, List.getElem?_cons_succ])
  refine wpAnyM_one (i := 5) (o := _) (by kernel_rfl) rfl (fun K hK => ?_); go_simp; go_at_call 15; (with_reducible refine (HU.out W1 hbw).mono ?_); rintro e1 W2 ⟨_, rfl, rfl, hb2⟩; have hbw := hbw.trans (hb2.mono hbw.size); have hS := HS.out W2 (fun p hp => hbw.cell hp); refine hK _ _ hS (fun _ _ => hL) ?_; clear hK K; (try simp only [Act.put, List.setIfInBounds_toArray, List.set_cons_zero, List.set_cons_succ, List.getElem_toArray, List.getElem_cons_zero, List.getElem_cons_succ, List.getElem?_toArray, List.getElem?_cons_zero, List.getElem?_cons_succ])
  (refine wpAnyM_take (i := 6) (oi := _) (v := ?_) rfl (by kernel_rfl) (by kernel_rfl) (by kernel_rfl) (fun _ _ _ h => h) (by rfl) ?_ hS ?_; rotate_left; (intro w' hSw; (try dsimp only at hSw); go_simp; try exact rfl)); (try simp only [Act.put, List.setIfInBounds_toArray, List.set_cons_zero, List.set_cons_succ, List.getElem_toArray, List.getElem_cons_zero, List.getElem_cons_succ, List.getElem?_toArray, List.getElem?_cons_zero, List.getElem?_cons_succ]); (refine wpAnyM_take (i := 7) (oi := _) (v := ?_) rfl (by kernel_rfl) (by kernel_rfl) (by kernel_rfl) (fun _ _ _ h => h) (by rfl) ?_ hS ?_; rotate_left; (intro w' hSw; (try dsimp only at hSw); go_simp; try exact rfl)); (try simp only [Act.put, List.setIfInBounds_toArray, List.set_cons_zero, List.set_cons_succ, List.getElem_toArray, List.getElem_cons_zero, List.getElem_cons_succ, List.getElem?_toArray, List.getElem?_cons_zero, List.getElem?_cons_succ]); (refine wpAnyM_take (i := 8) (oi := _) (v := ?_) rfl (by kernel_rfl) (by kernel_rfl) (by kernel_rfl) (fun _ _ _ h => h) (by rfl) ?_ hS ?_; rotate_left; (intro w' hSw; (try dsimp only at hSw); go_simp; try exact rfl)); (try simp only [Act.put, List.setIfInBounds_toArray, List.set_cons_zero, List.set_cons_succ, List.getElem_toArray, List.getElem_cons_zero, List.getElem_cons_succ, List.getElem?_toArray, List.getElem?_cons_zero, List.getElem?_cons_succ]); (refine wpAnyM_take (i := 9) (oi := _) (v := ?_) rfl (by kernel_rfl) (by kernel_rfl) (by kernel_rfl) (fun _ _ _ h => h) (by rfl) ?_ hS ?_; rotate_left; (intro w' hSw; (try dsimp only at hSw); go_simp; try exact rfl)); (try simp only [Act.put, List.setIfInBounds_toArray, List.set_cons_zero, List.set_cons_succ, List.getElem_toArray, List.getElem_cons_zero, List.getElem_cons_succ, List.getElem?_toArray, List.getElem?_cons_zero, List.getElem?_cons_succ]); (refine wpAnyM_take (i := 10) (oi := _) (v := ?_) rfl (by kernel_rfl) (by kernel_rfl) (by kernel_rfl) (fun _ _ _ h => h) (by rfl) ?_ hS ?_; rotate_left; (intro w' hSw; (try dsimp only at hSw); go_simp; try exact rfl)); (try simp only [Act.put, List.setIfInBounds_toArray, List.set_cons_zero, List.set_cons_succ, List.getElem_toArray, List.getElem_cons_zero, List.getElem_cons_succ, List.getElem?_toArray, List.getElem?_cons_zero, List.getElem?_cons_succ]); (refine wpAnyM_take (i := 11) (oi := _) (v := ?_) rfl (by kernel_rfl) (by kernel_rfl) (by kernel_rfl) (fun _ _ _ h => h) (by rfl) ?_ hS ?_; rotate_left; (intro w' hSw; (try dsimp only at hSw); go_simp; try exact rfl)); (try simp only [Act.put, List.setIfInBounds_toArray, List.set_cons_zero, List.set_cons_succ, List.getElem_toArray, List.getElem_cons_zero, List.getElem_cons_succ, List.getElem?_toArray, List.getElem?_cons_zero, List.getElem?_cons_succ]); (refine wpAnyM_take (i := 12) (oi := _) (v := ?_) rfl (by kernel_rfl) (by kernel_rfl) (by kernel_rfl) (fun _ _ _ h => h) (by rfl) ?_ hS ?_; rotate_left; (intro w' hSw; (try dsimp only at hSw); go_simp; try exact rfl)); (try simp only [Act.put, List.setIfInBounds_toArray, List.set_cons_zero, List.set_cons_succ, List.getElem_toArray, List.getElem_cons_zero, List.getElem_cons_succ, List.getElem?_toArray, List.getElem?_cons_zero, List.getElem?_cons_succ]); (refine wpAnyM_take (i := 13) (oi := _) (v := ?_) rfl (by kernel_rfl) (by kernel_rfl) (by kernel_rfl) (fun _ _ _ h => h) (by rfl) ?_ hS ?_; rotate_left; (intro w' hSw; (try dsimp only at hSw); go_simp; try exact rfl)); (try simp only [Act.put, List.setIfInBounds_toArray, List.set_cons_zero, List.set_cons_succ, List.getElem_toArray, List.getElem_cons_zero, List.getElem_cons_succ, List.getElem?_toArray, List.getElem?_cons_zero, List.getElem?_cons_succ]); (refine wpAnyM_take (i := 14) (oi := _) (v := ?_) rfl (by kernel_rfl) (by kernel_rfl) (by kernel_rfl) (fun _ _ _ h => h) (by rfl) ?_ hS ?_; rotate_left; (intro w' hSw; (try dsimp only at hSw); go_simp; try exact rfl)); (try simp only [Act.put, List.setIfInBounds_toArray, List.set_cons_zero, List.set_cons_succ, List.getElem_toArray, List.getElem_cons_zero, List.getElem_cons_succ, List.getElem?_toArray, List.getElem?_cons_zero, List.getElem?_cons_succ]); (refine wpAnyM_take (i := 15) (oi := _) (v := ?_) rfl (by kernel_rfl) (by kernel_rfl) (by kernel_rfl) (fun _ _ _ h => h) (by rfl) ?_ hS ?_; rotate_left; (intro w' hSw; (try dsimp only at hSw); go_simp; try exact rfl)); (try simp only [Act.put, List.setIfInBounds_toArray, List.set_cons_zero, List.set_cons_succ, List.getElem_toArray, List.getElem_cons_zero, List.getElem_cons_succ, List.getElem?_toArray, List.getElem?_cons_zero, List.getElem?_cons_succ]); (refine wpAnyM_take (i := 16) (oi := _) (v := ?_) rfl (by kernel_rfl) (by kernel_rfl) (by kernel_rfl) (fun _ _ _ h => h) (by rfl) ?_ hS ?_; rotate_left; (intro w' hSw; (try dsimp only at hSw); go_simp; try exact rfl)); (try simp only [Act.put, List.setIfInBounds_toArray, List.set_cons_zero, List.set_cons_succ, List.getElem_toArray, List.getElem_cons_zero, List.getElem_cons_succ, List.getElem?_toArray, List.getElem?_cons_zero, List.getElem?_cons_succ]); (refine wpAnyM_take (i := 17) (oi := _) (v := ?_) rfl (by kernel_rfl) (by kernel_rfl) (by kernel_rfl) (fun _ _ _ h => h) (by rfl) ?_ hS ?_; rotate_left; (intro w' hSw; (try dsimp only at hSw); go_simp; try exact rfl)); (try simp only [Act.put, List.setIfInBounds_toArray, List.set_cons_zero, List.set_cons_succ, List.getElem_toArray, List.getElem_cons_zero, List.getElem_cons_succ, List.getElem?_toArray, List.getElem?_cons_zero, List.getElem?_cons_succ]); (refine wpAnyM_take (i := 18) (oi := _) (v := ?_) rfl (by kernel_rfl) (by kernel_rfl) (by kernel_rfl) (fun _ _ _ h => h) (by rfl) ?_ hS ?_; rotate_left; (intro w' hSw; (try dsimp only at hSw); go_simp; try exact rfl)); (try simp only [Act.put, List.setIfInBounds_toArray, List.set_cons_zero, List.set_cons_succ, List.getElem_toArray, List.getElem_cons_zero, List.getElem_cons_succ, List.getElem?_toArray, List.getElem?_cons_zero, List.getElem?_cons_succ]); (refine wpAnyM_take (i := 19) (oi := _) (v := ?_) rfl (by kernel_rfl) (by kernel_rfl) (by kernel_rfl) (fun _ _ _ h => h) (by rfl) ?_ hS ?_; rotate_left; (intro w' hSw; (try dsimp only at hSw); go_simp; try exact rfl)); (try simp only [Act.put, List.setIfInBounds_toArray, List.set_cons_zero, List.set_cons_succ, List.getElem_toArray, List.getElem_cons_zero, List.getElem_cons_succ, List.getElem?_toArray, List.getElem?_cons_zero, List.getElem?_cons_succ])
  refine wpAnyM_one (i := 20) (o := _) (by kernel_rfl) rfl (fun K hK => ?_); go_simp; refine hK _ _ hS (fun _ _ => hL) ?_; clear hK K; (try simp only [Act.put, List.setIfInBounds_toArray, List.set_cons_zero, List.set_cons_succ, List.getElem_toArray, List.getElem_cons_zero, List.getElem_cons_succ, List.getElem?_toArray, List.getElem?_cons_zero, List.getElem?_cons_succ])
  refine wpAnyM_done (by kernel_rfl) ?_ _
  show R _ _
  exact hQ _ _ _ _ _ _ _ _ _ _ _ _ _ _ _ _ _ _ _ _ _ hbw

end Go.Proofs.YtpnfdlnhmhekeaaGreat

namespace Go.Proofs.YtpnfdlnhmhekeaaGreat
open Go.RowKit

theorem NumStP.grown {w w' : World} {base size n : Nat} {sf sa : Value} {xs : List Value} {a : List (List (List CQ))} (h : NumStP (fun k => sf.ownBlock ≠ some k) w sa a)
    (hr : w.ownsRow base 51 size sf n xs) (hg : w.grownBy w' sf.ownBlock) : NumStP (fun k => sf.ownBlock ≠ some k) w' sa a := by
  refine SlT.lift h (fun u x hu => ?_) (fun b hb => typed_kept hb hr (by decide) hg)
  obtain ⟨v, e, hv⟩ := hu
  exact ⟨v, e, hv.lift (fun u2 x2 h2 => CellP.keepRow num_stable h2 hr (by decide) (fun b hp => hp) hg) (fun b hb => typed_kept hb hr (by decide) hg)⟩

structure BackSt (base g9 g15 gf n cf : Nat) (ba bb : Value) (tc : List Value) (l : List CQ) (y : Wv) (w : World) : Prop where
  row : RowOf NumC 51 5 w base (.slice (some ⟨gf, 0, none⟩) n cf) l
  ma : NumStP (fun b => (Value.slice (some ⟨gf, 0, none⟩) n cf).ownBlock ≠ some b) w ba y.a
  mb : NumStP (fun b => (Value.slice (some ⟨gf, 0, none⟩) n cf).ownBlock ≠ some b) w bb y.b
  b9 : Own w 33 g9 [.slice (some ⟨gf, 0, none⟩) n cf, ba, bb]
  b15 : Own w 51 g15 tc

theorem BackSt.next {base g9 g15 gf n cf : Nat} {ba bb : Value} {tc : List Value} {l l' : List CQ} {y : Wv} {w w' w2 : World} (h : BackSt base g9 g15 gf n cf ba bb tc l y w) (h9 : g9 ≠ gf) (h15 : g15 ≠ gf)
    (hb : Below w.heap.size w w') (hg : w'.grownBy w2 (some gf)) (hr : RowOf NumC 51 5 w2 base (.slice (some ⟨gf, 0, none⟩) n cf) l') : BackSt base g9 g15 gf n cf ba bb tc l' y w2 := by
  obtain ⟨us, -, hrr, -⟩ := NumRow.below h.row hb (Nat.le_refl _)
  exact ⟨hr, (h.ma.below hb (Nat.le_refl _)).grown hrr hg, (h.mb.below hb (Nat.le_refl _)).grown hrr hg, (h.b9.below hb h.b9.lt).grown hg h9, (h.b15.below hb h.b15.lt).grown hg h15⟩

theorem BackSt.below {base g9 g15 gf n cf : Nat} {ba bb : Value} {tc : List Value} {l : List CQ} {y : Wv} {w w' : World} (h : BackSt base g9 g15 gf n cf ba bb tc l y w) (hb : Below w.heap.size w w') : BackSt base g9 g15 gf n cf ba bb tc l y w' :=
  ⟨NumRow.below h.row hb (Nat.le_refl _), h.ma.below hb (Nat.le_refl _), h.mb.below hb (Nat.le_refl _), h.b9.below hb h.b9.lt, h.b15.below hb h.b15.lt⟩

/-- A number of a row, cell by cell. -/
theorem RowOf.num {w : World} {base g n c i : Nat} {l : List CQ} {x : CQ} (h : RowOf NumC 51 5 w base (.slice (some ⟨g, 0, none⟩) n c) l) (hi : l[i]? = some x) :
    ∃ (s0 s2 : Bool) (a1 a3 a4 : Option Addr) (l1 c1 l3 c3 l4 c4 : Nat), NumRep w (.agg #[.bool s0, .slice a1 l1 c1, .bool s2, .slice a3 l3 c3, .slice a4 l4 c4]) x ∧
      w.cell? ⟨g, i * 5, none⟩ = some (.bool s0) ∧ w.cell? ⟨g, i * 5 + 1, none⟩ = some (.slice a1 l1 c1) ∧ w.cell? ⟨g, i * 5 + 2, none⟩ = some (.bool s2) ∧ w.cell? ⟨g, i * 5 + 3, none⟩ = some (.slice a3 l3 c3) ∧ w.cell? ⟨g, i * 5 + 4, none⟩ = some (.slice a4 l4 c4) := by
  obtain ⟨a, c', h1, _, _, h2⟩ := h.sl
  injection h1 with h1 _ _
  obtain ⟨b, o, u, e1, e2, hR, e3⟩ := h2 i _ hi
  rw [← h1] at e1
  injection e1 with e1
  injection e1 with e4 e5 _
  subst e4 e5
  obtain ⟨v0, v1, v2, v3, v4, rfl⟩ := five e2
  obtain ⟨s0, s2, a1, a3, a4, l1, c1, l3, c3, l4, c4, e⟩ := NumRep.open hR
  injection e with e
  injection e with e
  injection e with e0 e
  injection e with e1' e
  injection e with e2' e
  injection e with e3' e
  injection e with e4' e
  subst e0 e1' e2' e3' e4'
  refine ⟨_, _, _, _, _, _, _, _, _, _, _, hR, ?_, ?_, ?_, ?_, ?_⟩
  · simpa using e3 0 _ rfl
  · simpa using e3 1 _ rfl
  · simpa using e3 2 _ rfl
  · simpa using e3 3 _ rfl
  · simpa using e3 4 _ rfl

theorem sweep_set (F : CQ → CQ) {l : List CQ} {k : Nat} {x : CQ} (h : l[k]? = some x) : ((l.map F).take k ++ l.drop k).set k (F x) = (l.map F).take (k + 1) ++ l.drop (k + 1) := by
  have hk : k < l.length := (List.getElem?_eq_some_iff.1 h).1
  have hx : l[k] = x := (List.getElem?_eq_some_iff.1 h).2
  apply List.ext_getElem?
  intro j
  simp only [List.getElem?_set, List.getElem?_append, List.length_append, List.length_take, List.length_drop, List.length_map, List.getElem?_take, List.getElem?_drop, List.getElem?_map]
  by_cases h1 : k = j
  · subst h1
    rw [if_pos rfl, if_pos (by omega), if_pos (by omega), if_pos (by omega), h]
    rfl
  · rw [if_neg h1]
    by_cases h2 : j < k
    · rw [if_pos (by omega), if_pos h2, if_pos (by omega), if_pos (by omega)]
    · rw [if_neg (by omega), if_neg (by omega)]
      congr 1
      omega
theorem sweep_at (F : CQ → CQ) {l : List CQ} {k : Nat} {x : CQ} (h : l[k]? = some x) : ((l.map F).take k ++ l.drop k)[k]? = some x := by
  have hk : k < l.length := (List.getElem?_eq_some_iff.1 h).1
  rw [List.getElem?_append_right (by simp; omega), List.getElem?_drop, ← h]
  congr 1
  simp
  omega

/-- All numbers of a sweep are small. -/
def bitsW (e : Nat) (x : Wv) : Prop := (∀ y ∈ x.fr, Small e y) ∧ bitsM e x.a ∧ bitsM e x.b
theorem SlOf.each {α : Type} {R : World → List Value → α → Prop} {size : Nat} {w : World} {v : Value} {l : List α} (h : SlOf R size w v l) : ∀ x ∈ l, ∃ u, R w u x := by
  intro x hx
  obtain ⟨i, hi⟩ := List.getElem?_of_mem hx
  obtain ⟨a, c, _, _, _, h2⟩ := h
  obtain ⟨b, o, u, _, _, hR, _⟩ := h2 i x hi
  exact ⟨u, hR⟩
theorem Wd.bits {w : World} {v : Value} {x : Wd} (h : WdRep w v x) : bitsW 64 x.wv := by
  obtain ⟨vf, va, vb, -, h1, h2, h3⟩ := h
  refine ⟨fun y hy => ?_, fun m hm r hr y hy => ?_, fun m hm r hr y hy => ?_⟩
  · obtain ⟨q, hq, rfl⟩ := List.mem_map.1 hy
    obtain ⟨u, -, ok⟩ := SlOf.each h1 q hq
    exact Rt.small ok
  · obtain ⟨m', hm', rfl⟩ := List.mem_map.1 hm
    obtain ⟨r', hr', rfl⟩ := List.mem_map.1 hr
    obtain ⟨q, hq, rfl⟩ := List.mem_map.1 hy
    obtain ⟨u1, v1, -, k1⟩ := SlOf.each h2 m' hm'
    obtain ⟨u2, v2, -, k2⟩ := SlOf.each k1 r' hr'
    obtain ⟨u, -, ok⟩ := SlOf.each k2 q hq
    exact Rt.small ok
  · obtain ⟨m', hm', rfl⟩ := List.mem_map.1 hm
    obtain ⟨r', hr', rfl⟩ := List.mem_map.1 hr
    obtain ⟨q, hq, rfl⟩ := List.mem_map.1 hy
    obtain ⟨u1, v1, -, k1⟩ := SlOf.each h3 m' hm'
    obtain ⟨u2, v2, -, k2⟩ := SlOf.each k1 r' hr'
    obtain ⟨u, -, ok⟩ := SlOf.each k2 q hq
    exact Rt.small ok
theorem bitsW.mono {e f : Nat} {x : Wv} (h : bitsW e x) (hf : e ≤ f) : bitsW f x :=
  ⟨fun y hy => (h.1 y hy).mono hf, fun m hm r hr y hy => (h.2.1 m hm r hr y hy).mono hf, fun m hm r hr y hy => (h.2.2 m hm r hr y hy).mono hf⟩
theorem bits_pts {e : Nat} {x : Wv} (h : bitsW e x) (ha : x.a.length = x.fr.length) (hb : x.b.length = x.fr.length) : ∀ p ∈ x.pts, Small e p.f ∧ (∀ r ∈ p.a, ∀ y ∈ r, Small e y) ∧ ∀ r ∈ p.b, ∀ y ∈ r, Small e y := by
  intro p hp
  obtain ⟨i, h1, h2, h3⟩ := pts_mem ha hb hp
  exact ⟨h.1 _ (List.mem_of_getElem? h1), h.2.1 _ (List.mem_of_getElem? h2), h.2.2 _ (List.mem_of_getElem? h3)⟩
theorem bits_of {e : Nat} {l : List Pt} (h : ∀ p ∈ l, Small e p.f ∧ (∀ r ∈ p.a, ∀ y ∈ r, Small e y) ∧ ∀ r ∈ p.b, ∀ y ∈ r, Small e y) : bitsW e (Wv.of l) := by
  refine ⟨fun y hy => ?_, fun m hm r hr y hy => ?_, fun m hm r hr y hy => ?_⟩
  · obtain ⟨p, hp, rfl⟩ := List.mem_map.1 hy
    exact (h p hp).1
  · obtain ⟨p, hp, rfl⟩ := List.mem_map.1 hm
    exact (h p hp).2.1 r hr y hy
  · obtain ⟨p, hp, rfl⟩ := List.mem_map.1 hm
    exact (h p hp).2.2 r hr y hy
theorem Wv.of_lens (l : List Pt) : (Wv.of l).a.length = (Wv.of l).fr.length ∧ (Wv.of l).b.length = (Wv.of l).fr.length := by simp [Wv.of]
theorem mergeRes_lens (v u : Wv) : (mergeRes v u).a.length = (mergeRes v u).fr.length ∧ (mergeRes v u).b.length = (mergeRes v u).fr.length := by
  unfold mergeRes
  split <;> exact Wv.of_lens _
theorem mergeRes_bits {e : Nat} {v u : Wv} (hv : bitsW e v) (hu : bitsW e u) : bitsW e (mergeRes v u) := by
  unfold mergeRes
  split
  · rename_i h
    unfold mergeErr at h
    split at h
    · rename_i hvu
      obtain ⟨-, -, v3, v4, -⟩ := vw_parts hvu.1
      obtain ⟨-, -, u3, u4, -⟩ := vw_parts hvu.2
      refine bits_of fun p hp => ?_
      cases hm : mergeP v.pts u.pts with
      | none => rw [hm] at hp; cases hp
      | some l =>
        rw [hm] at hp
        rcases mergeP_mem _ _ _ hm p hp with h1 | h1
        · exact bits_pts hv v3 v4 p h1
        · exact bits_pts hu u3 u4 p h1
    · cases h
  · exact bits_of fun p hp => by cases hp
theorem shiftF_small {e : Nat} {t x : CQ} {s : Nat} (ht : Small e t) (hx : Small e x) (hs : s < 65536) (he : 64 ≤ e) : Small (2 * (2 * e + 1) + 1) (shiftF t s x) :=
  Small.add (hx.add ht) ((small_mk (k := 64) (by omega) (by omega) (by decide) (by decide)).mono (by omega))
theorem shiftW_bits {x : Wv} {t : CQ} {s : Nat} (h : bitsW 64 x) (ht : Small 64 t) (hs : s < 65536) : bitsW 1000 (shiftW x t s) := by
  refine ⟨fun y hy => ?_, (h.mono (by omega)).2.1, (h.mono (by omega)).2.2⟩
  obtain ⟨q, hq, rfl⟩ := List.mem_map.1 hy
  exact (shiftF_small ht (h.1 q hq) hs (by omega)).mono (by omega)
theorem mergeErr_bad {v u : Wv} (h : ¬ (vwB v = true ∧ vwB u = true ∧ (v.a.getD 0 []).length = (u.a.getD 0 []).length)) : mergeErr v u = 1 ∨ mergeErr v u = 4 := by
  unfold mergeErr
  split
  · rename_i h1
    rw [if_neg (fun h2 => h ⟨h1.1, h1.2, h2⟩)]
    exact .inr rfl
  · exact .inl rfl
theorem RowOf.some {α : Type} {R : World → List Value → α → Prop} {T : TypeId} {size base : Nat} {w : World} {a : Option Addr} {n c : Nat} {l : List α} (h : RowOf R T size w base (.slice a n c) l) (hl : 0 < l.length) : ∃ g, a = .some ⟨g, 0, none⟩ ∧ base ≤ g ∧ g < w.heap.size ∧ n = l.length ∧ TyB w g T := by
  obtain ⟨us, h1, h2, h3⟩ := h
  rcases h2.2 with ⟨_, h⟩ | ⟨g, cap, cur, e, hg, hc, _⟩
  · omega
  · injection e with e1 e2 e3
    exact ⟨g, e1, hg, (Array.getElem?_eq_some_iff.1 hc).1, e2, ⟨_, _, hc⟩⟩
theorem Own.notTy {w : World} {E T : TypeId} {g h : Nat} {cs : List Value} (o : Own w E g cs) (ht : TyB w h T) (hne : E ≠ T) : g ≠ h := by
  rintro rfl
  obtain ⟨cs', fr, ht⟩ := ht
  unfold Own at o
  rw [o] at ht
  injection ht with ht
  injection ht with _ ht _
  exact hne ht
theorem WvT.parts {w : World} {a b c : Value} {x : Wv} (h : WvT w (.agg #[a, b, c]) x) : NumSl w a x.fr ∧ NumSt w b x.a ∧ NumSt w c x.b := by
  obtain ⟨vf, va, vb, e, h⟩ := h
  injection e with e
  injection e with e
  injection e with e0 e
  injection e with e1 e
  injection e with e2 e
  subst e0 e1 e2
  exact h
end Go.Proofs.YtpnfdlnhmhekeaaGreat
