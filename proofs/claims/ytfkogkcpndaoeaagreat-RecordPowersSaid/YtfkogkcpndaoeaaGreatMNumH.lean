/- (num.Num).Div. Conditions: bits. -/
import Derived.Test.YtfkogkcpndaoeaaGreatMDivS
import Derived.Test.YtfkogkcpndaoeaaGreatMPut
set_option linter.all false
namespace Go.Proofs.YtfkogkcpndaoeaaGreat
open Go.RowKit
section
variable {P : Program} {md : Region.Mode} {ops : Array Oper} {Q : Exit → Act → World → Prop} {S L : World → Prop} {late : Nat → Bool}
theorem wpAnyM_three3 {i j k : Nat} {oi oj ok : Oper} {n : Nat} {listed : Array Bool} {a : Act} {w : World} (hr : Region.ready md ops listed = [i, j, k]) (hi : ops[i]? = some oi) (hj : ops[j]? = some oj) (hk : ops[k]? = some ok)
    (h1 : ∀ K : Act → World → Prop, (∀ a' w', S w' → (late i = false → L w → L w') → wpAnyM P md ops Q S L late n (listed.setIfInBounds i true) a' w' → K a' w') →
      if Region.wanted oi (yielded ops a.tmps) = true then oi.wp P a w K Q else K (a.put oi.dst undef) w)
    (h2 : ∀ K : Act → World → Prop, (∀ a' w', S w' → (late j = false → L w → L w') → wpAnyM P md ops Q S L late n (listed.setIfInBounds j true) a' w' → K a' w') →
      if Region.wanted oj (yielded ops a.tmps) = true then oj.wp P a w K Q else K (a.put oj.dst undef) w)
    (h3 : ∀ K : Act → World → Prop, (∀ a' w', S w' → (late k = false → L w → L w') → wpAnyM P md ops Q S L late n (listed.setIfInBounds k true) a' w' → K a' w') →
      if Region.wanted ok (yielded ops a.tmps) = true then ok.wp P a w K Q else K (a.put ok.dst undef) w) : wpAnyM P md ops Q S L late (n + 1) listed a w := by
  have key : ∀ (k : Nat) (o : Oper), ops[k]? = some o → (∀ K : Act → World → Prop, (∀ a' w', S w' → (late k = false → L w → L w') → wpAnyM P md ops Q S L late n (listed.setIfInBounds k true) a' w' → K a' w') →
      if Region.wanted o (yielded ops a.tmps) = true then o.wp P a w K Q else K (a.put o.dst undef) w) → wpOp P ops Q k (fun a' w' => S w' ∧ (late k = false → L w → L w') ∧ wpAnyM P md ops Q S L late n (listed.setIfInBounds k true) a' w') a w := by
    intro k o ho h
    have h1 := h (fun a' w' => S w' ∧ (late k = false → L w → L w') ∧ wpAnyM P md ops Q S L late n (listed.setIfInBounds k true) a' w') (fun a' w' hS hL hM => ⟨hS, hL, hM⟩)
    unfold wpOp
    rw [ho]
    simp only
    split
    · rename_i hw
      rw [if_pos hw] at h1
      exact .inl h1
    · rename_i hw
      rw [if_neg hw] at h1
      exact h1
  refine ⟨(fun h0 => by rw [hr] at h0; cases h0), fun m hm => ?_⟩
  rw [hr, List.mem_cons, List.mem_cons, List.mem_singleton] at hm
  rcases hm with rfl | rfl | rfl
  · exact key _ _ hi h1
  · exact key _ _ hj h2
  · exact key _ _ hk h3
end
noncomputable def ndregion4 : Code := (Tryz.f87.body.bind (findRegion 4)).getD .skip
set_option maxRecDepth 100000 in
set_option maxHeartbeats 6400000 in
theorem ndreg4 (w : World) (g2 g3 k : Nat) (x : CQ) (a' b' : Int) (s1 s2 t1 t2 : Bool) (a1 a2 a3 p1 p2 p3 : Option Addr) (l1 c1 l2 c2 l3 c3 m1 n1 m2 n2 m3 n3 : Nat) {R : Act → World → Prop} {u0 u1 u4 u5 u6 u7 u8 u9 u10 u11 u12 u13 u14 u15 u16 u17 u18 u19 u20 u21 u22 u23 u24 u25 u26 u27 u28 u29 u30 u31 u32 u33 u34 u35 u36 u37 u38 u39 u40 u41 u42 u43 u44 u45 u46 u47 : Value}
    (o2 : Own w 40 g2 [.bool s1, .slice a1 l1 c1, .bool s2, .slice a2 l2 c2, .slice a3 l3 c3]) (o3 : Own w 40 g3 [.bool t1, .slice p1 m1 n1, .bool t2, .slice p2 m2 n2, .slice p3 m3 n3])
    (hx : NumRep w (.agg #[.bool s1, .slice a1 l1 c1, .bool s2, .slice a2 l2 c2, .slice a3 l3 c3]) x) (wa : WholeRep w (.agg #[.bool t1, .slice p1 m1 n1]) a') (wb : WholeRep w (.agg #[.bool t2, .slice p2 m2 n2]) b') (hs : Small k x) (ha : a'.natAbs < 2 ^ k) (hb : b'.natAbs < 2 ^ k) (hk : k + 1 ≤ 1099511627776)
    (hQ : ∀ (W' : World) (gN : Nat) (z1 z2 : Bool) (d1 d2 d3 : Option Addr) (i1 j1 i2 j2 i3 j3 : Nat) (x23 x24 x25 x26 x27 x28 x29 x30 x31 : Value), Own W' 40 gN [.bool z1, .slice d1 i1 j1, .bool z2, .slice d2 i2 j2, .slice d3 i3 j3] → NumRep W' (.agg #[.bool z1, .slice d1 i1 j1, .bool z2, .slice d2 i2 j2, .slice d3 i3 j3]) (x.mul (cq a' (-b') 1)) → Below w.heap.size w W' → w.heap.size ≤ gN → R ⟨List.toArray (u0 :: u1 :: .pointer (some ⟨g2, 0, none⟩) :: .pointer (some ⟨g3, 0, none⟩) :: u4 :: u5 :: u6 :: .pointer (some ⟨gN, 0, none⟩) :: u8 :: u9 :: u10 :: u11 :: u12 :: u13 :: u14 :: u15 :: u16 :: u17 :: u18 :: u19 :: u20 :: u21 :: u22 :: x23 :: x24 :: x25 :: x26 :: x27 :: x28 :: x29 :: x30 :: x31 :: u32 :: u33 :: u34 :: u35 :: u36 :: u37 :: u38 :: u39 :: u40 :: u41 :: u42 :: u43 :: u44 :: u45 :: u46 :: u47 :: []), []⟩ W') :
    Code.wp Tryz.prog ndregion4 (Only R) ⟨List.toArray (u0 :: u1 :: .pointer (some ⟨g2, 0, none⟩) :: .pointer (some ⟨g3, 0, none⟩) :: u4 :: u5 :: u6 :: u7 :: u8 :: u9 :: u10 :: u11 :: u12 :: u13 :: u14 :: u15 :: u16 :: u17 :: u18 :: u19 :: u20 :: u21 :: u22 :: u23 :: u24 :: u25 :: u26 :: u27 :: u28 :: u29 :: u30 :: u31 :: u32 :: u33 :: u34 :: u35 :: u36 :: u37 :: u38 :: u39 :: u40 :: u41 :: u42 :: u43 :: u44 :: u45 :: u46 :: u47 :: []), []⟩ w := by
  conv => arg 2; whnf
  have HS := Lib.hid (show ∀ W' : World, Own W' 40 g2 [.bool s1, .slice a1 l1 c1, .bool s2, .slice a2 l2 c2, .slice a3 l3 c3] → Own W' 40 g3 [.bool t1, .slice p1 m1 n1, .bool t2, .slice p2 m2 n2, .slice p3 m3 n3] → W'.cell? ⟨g2, 0, none⟩ = some (.bool s1) ∧ W'.cell? ⟨g2, 1, none⟩ = some (.slice a1 l1 c1) ∧ W'.cell? ⟨g2, 2, none⟩ = some (.bool s2) ∧ W'.cell? ⟨g2, 3, none⟩ = some (.slice a2 l2 c2) ∧ W'.cell? ⟨g2, 4, none⟩ = some (.slice a3 l3 c3) ∧ W'.cell? ⟨g3, 0, none⟩ = some (.bool t1) ∧ W'.cell? ⟨g3, 1, none⟩ = some (.slice p1 m1 n1) ∧ W'.cell? ⟨g3, 2, none⟩ = some (.bool t2) ∧ W'.cell? ⟨g3, 3, none⟩ = some (.slice p2 m2 n2) ∧ W'.cell? ⟨g3, 4, none⟩ = some (.slice p3 m3 n3) from fun W' h1 h2 => ⟨h1.cell 0 _ rfl, h1.cell 1 _ rfl, h1.cell 2 _ rfl, h1.cell 3 _ rfl, h1.cell 4 _ rfl, h2.cell 0 _ rfl, h2.cell 1 _ rfl, h2.cell 2 _ rfl, h2.cell 3 _ rfl, h2.cell 4 _ rfl⟩)
  have hne2 : ∀ g, w.heap.size ≤ g → g ≠ g2 := fun g hg e => by have := o2.lt; omega
  have hne3 : ∀ g, w.heap.size ≤ g → g ≠ g3 := fun g hg e => by have := o3.lt; omega
  have hp : (2 : Nat) ^ k ≤ 2 ^ (k + 1) := Nat.pow_le_pow_right (by omega) (by omega)
  have h1p : 1 < 2 ^ (k + 1) := Nat.one_lt_two_pow (by omega)
  have ha1 : a'.natAbs < 2 ^ (k + 1) := by omega
  have hb1 : (-b').natAbs < 2 ^ (k + 1) := by rw [Int.natAbs_neg]; omega
  have HMI := Lib.hid (fun W (h : WholeRep W (.agg #[.bool t2, .slice p2 m2 n2]) b') => minus_spec _ b' W h)
  have HOV := Lib.hid (fun v u y W (h : WholeRep W v a') (h' : WholeRep W u (-b')) (h1 : NatRep W y 1) => over_spec v u y a' (-b') 1 (k + 1) W h h' h1 (by omega) ha1 hb1 h1p (by omega))
  have hsy : Small (k + 1) (cq a' (-b') 1) := small_mk (by omega) ha1 hb1 h1p
  have HMU := Lib.hid (fun v u W (h : NumRep W v x) (h' : NumRep W u (cq a' (-b') 1)) => nmul_spec v u x (cq a' (-b') 1) (k + 1) W h h' (hs.mono (by omega)) hsy (by omega))
  have hbw : Below w.heap.size w w.drew := (Below.refl _ _).drew
  have hS := HS.out w.drew o2 o3
  have hL := True.intro
  have o2 : Own w.drew _ _ _ := o2
  have o3 : Own w.drew _ _ _ := o3
  have hx := hx.below hbw (Nat.le_refl _)
  have wa := wa.below hbw (Nat.le_refl _)
  have wb := wb.below hbw (Nat.le_refl _)
  clear hs ha hb hk hp h1p ha1 hb1 hsy
  refine wp_region_late (fun w' => w'.cell? ⟨g2, 0, none⟩ = some (.bool s1) ∧ w'.cell? ⟨g2, 1, none⟩ = some (.slice a1 l1 c1) ∧ w'.cell? ⟨g2, 2, none⟩ = some (.bool s2) ∧ w'.cell? ⟨g2, 3, none⟩ = some (.slice a2 l2 c2) ∧ w'.cell? ⟨g2, 4, none⟩ = some (.slice a3 l3 c3) ∧ w'.cell? ⟨g3, 0, none⟩ = some (.bool t1) ∧ w'.cell? ⟨g3, 1, none⟩ = some (.slice p1 m1 n1) ∧ w'.cell? ⟨g3, 2, none⟩ = some (.bool t2) ∧ w'.cell? ⟨g3, 3, none⟩ = some (.slice p2 m2 n2) ∧ w'.cell? ⟨g3, 4, none⟩ = some (.slice p3 m3 n3)) (fun w' => True) (fun i => false) (by kernel_rfl) ?_; try simp only [List.size_toArray, List.length_cons, List.length_nil, Nat.reduceAdd]
  generalize w.drew = V0 at *
  (refine mt 0 ?_ rfl (by rfl) ?_ hS ?_; rotate_left; (intro w' h; (try dsimp only at h); go_simp; try exact rfl)); simp only [Act.put,q1,q2,q3,q4,q5,q6,q7,q8,q9]; (refine mt 1 ?_ rfl (by rfl) ?_ hS ?_; rotate_left; (intro w' h; (try dsimp only at h); go_simp; try exact rfl)); simp only [Act.put,q1,q2,q3,q4,q5,q6,q7,q8,q9]; (refine mt 2 ?_ rfl (by rfl) ?_ hS ?_; rotate_left; (intro w' h; (try dsimp only at h); go_simp; try exact rfl)); simp only [Act.put,q1,q2,q3,q4,q5,q6,q7,q8,q9]; (refine mt 3 ?_ rfl (by rfl) ?_ hS ?_; rotate_left; (intro w' h; (try dsimp only at h); go_simp; try exact rfl)); simp only [Act.put,q1,q2,q3,q4,q5,q6,q7,q8,q9]; (refine mt 4 ?_ rfl (by rfl) ?_ hS ?_; rotate_left; (intro w' h; (try dsimp only at h); go_simp; try exact rfl)); simp only [Act.put,q1,q2,q3,q4,q5,q6,q7,q8,q9]
  refine wpAnyM_three3 (i := 5) (j := 6) (k := 9) (oi := _) (oj := _) (ok := _) (by kernel_rfl) rfl rfl rfl (fun K hK => ?_) (fun K hK => ?_) (fun K hK => ?_)
  focus
    go_simp; go_at_call 90; (with_reducible refine (HMI.out (V0) wb).mono ?_); rintro e1 V1 ⟨u1, rfl, hu1, hb1⟩; have o2 := o2.below hb1 o2.lt; have o3 := o3.below hb1 o3.lt; have hbw := hbw.trans (hb1.mono hbw.size); have hx := hx.below hb1 (Nat.le_refl _); have wa := wa.below hb1 (Nat.le_refl _); have wb := wb.below hb1 (Nat.le_refl _); have hS := HS.out _ o2 o3; have hL := True.intro; refine hK _ _ hS (fun _ _ => hL) ?_; clear hK K; (try simp only [Act.put,q1,q2,q3,q4,q5,q6,q7,q8,q9])
    refine wpAnyM_two (i := 6) (j := 9) (oi := _) (oj := _) (by kernel_rfl) rfl rfl (fun K hK => ?_) (fun K hK => ?_)
    focus
      go_simp; have hbA : Below (V1).heap.size (V1) ((V1).alloc (.cells #[.int .u32 1] 28)) := (Below.refl _ _).alloc (Nat.le_refl _) _; have o2 := o2.below hbA o2.lt; have o3 := o3.below hbA o3.lt; have hbw := hbw.trans (hbA.mono hbw.size); have hx := hx.below hbA (Nat.le_refl _); have wa := wa.below hbA (Nat.le_refl _); have wb := wb.below hbA (Nat.le_refl _); have hS := HS.out _ o2 o3; have hL := True.intro; have hu1 := hu1.below hbA (Nat.le_refl _); have h6 : NatRep ((V1).alloc (.cells #[.int .u32 1] 28)) _ 1 := nat_one; refine hK _ _ hS (fun _ _ => hL) ?_; clear hK K; (try simp only [Act.put,q1,q2,q3,q4,q5,q6,q7,q8,q9])
      generalize V1.alloc (.cells #[.int .u32 1] 28) = V2 at *
      refine wpAnyM_two (i := 7) (j := 9) (oi := _) (oj := _) (by kernel_rfl) rfl rfl (fun K hK => ?_) (fun K hK => ?_)
      focus
        go_simp; go_at_call 91; (with_reducible refine (HOV.out _ _ _ (V2) wa hu1 h6).mono ?_); rintro e1 V3 ⟨u2, rfl, hu2, hb2⟩; have o2 := o2.below hb2 o2.lt; have o3 := o3.below hb2 o3.lt; have hbw := hbw.trans (hb2.mono hbw.size); have hx := hx.below hb2 (Nat.le_refl _); have wa := wa.below hb2 (Nat.le_refl _); have wb := wb.below hb2 (Nat.le_refl _); have hS := HS.out _ o2 o3; have hL := True.intro; refine hK _ _ hS (fun _ _ => hL) ?_; clear hK K; (try simp only [Act.put,q1,q2,q3,q4,q5,q6,q7,q8,q9])
        refine wpAnyM_two (i := 8) (j := 9) (oi := _) (oj := _) (by kernel_rfl) rfl rfl (fun K hK => ?_) (fun K hK => ?_)
        focus
          go_simp; go_at_call 128; (with_reducible refine (HMU.out _ _ (V3) hx hu2).mono ?_); rintro e1 V4 ⟨_, rfl, hu3, hb3⟩; obtain ⟨z1, z2, d1, d2, d3, i1, j1, i2, j2, i3, j3, rfl⟩ := hu3.open; have o2 := o2.below hb3 o2.lt; have o3 := o3.below hb3 o3.lt; have hbw := hbw.trans (hb3.mono hbw.size); have hx := hx.below hb3 (Nat.le_refl _); have wa := wa.below hb3 (Nat.le_refl _); have wb := wb.below hb3 (Nat.le_refl _); have hS := HS.out _ o2 o3; have hL := True.intro; refine hK _ _ hS (fun _ _ => hL) ?_; clear hK K; (try simp only [Act.put,q1,q2,q3,q4,q5,q6,q7,q8,q9])
          refine mo 9 rfl fun K hK => ?_; go_simp; have hbA : Below (V4).heap.size (V4) ((V4).alloc (.cells ([.bool false, .slice none 0 0, .bool false, .slice none 0 0, .slice none 0 0] : List Value).toArray 40)) := (Below.refl _ _).alloc (Nat.le_refl _) _; have hgN := hbw.size; have o2 := o2.below hbA o2.lt; have o3 := o3.below hbA o3.lt; have hbw := hbw.trans (hbA.mono hbw.size); have hx := hx.below hbA (Nat.le_refl _); have wa := wa.below hbA (Nat.le_refl _); have wb := wb.below hbA (Nat.le_refl _); have hS := HS.out _ o2 o3; have hL := True.intro; have hu3 := hu3.below hbA (Nat.le_refl _); have oN := own_new (V4) 40 [.bool false, .slice none 0 0, .bool false, .slice none 0 0, .slice none 0 0]; refine hK _ _ hS (fun _ _ => hL) ?_; clear hK K; (try simp only [Act.put,q1,q2,q3,q4,q5,q6,q7,q8,q9])
          generalize V4.alloc (.cells ([.bool false, .slice none 0 0, .bool false, .slice none 0 0, .slice none 0 0] : List Value).toArray 40) = V5 at *
          generalize V4.heap.size = gN at *
        rotate_left 1
        focus
          go_simp; have hbA : Below (V3).heap.size (V3) ((V3).alloc (.cells ([.bool false, .slice none 0 0, .bool false, .slice none 0 0, .slice none 0 0] : List Value).toArray 40)) := (Below.refl _ _).alloc (Nat.le_refl _) _; have hgN := hbw.size; have o2 := o2.below hbA o2.lt; have o3 := o3.below hbA o3.lt; have hbw := hbw.trans (hbA.mono hbw.size); have hx := hx.below hbA (Nat.le_refl _); have wa := wa.below hbA (Nat.le_refl _); have wb := wb.below hbA (Nat.le_refl _); have hS := HS.out _ o2 o3; have hL := True.intro; have hu2 := hu2.below hbA (Nat.le_refl _); have oN := own_new (V3) 40 [.bool false, .slice none 0 0, .bool false, .slice none 0 0, .slice none 0 0]; refine hK _ _ hS (fun _ _ => hL) ?_; clear hK K; (try simp only [Act.put,q1,q2,q3,q4,q5,q6,q7,q8,q9])
          generalize V3.alloc (.cells ([.bool false, .slice none 0 0, .bool false, .slice none 0 0, .slice none 0 0] : List Value).toArray 40) = V4 at *
          generalize V3.heap.size = gN at *
          refine mo 8 rfl fun K hK => ?_; go_simp; go_at_call 128; (with_reducible refine (HMU.out _ _ (V4) hx hu2).mono ?_); rintro e1 V5 ⟨_, rfl, hu3, hb3⟩; obtain ⟨z1, z2, d1, d2, d3, i1, j1, i2, j2, i3, j3, rfl⟩ := hu3.open; have o2 := o2.below hb3 o2.lt; have o3 := o3.below hb3 o3.lt; have hbw := hbw.trans (hb3.mono hbw.size); have hx := hx.below hb3 (Nat.le_refl _); have wa := wa.below hb3 (Nat.le_refl _); have wb := wb.below hb3 (Nat.le_refl _); have hS := HS.out _ o2 o3; have hL := True.intro; have oN := oN.below hb3 oN.lt; refine hK _ _ hS (fun _ _ => hL) ?_; clear hK K; (try simp only [Act.put,q1,q2,q3,q4,q5,q6,q7,q8,q9])
      rotate_left 2
      focus
        go_simp; have hbA : Below (V2).heap.size (V2) ((V2).alloc (.cells ([.bool false, .slice none 0 0, .bool false, .slice none 0 0, .slice none 0 0] : List Value).toArray 40)) := (Below.refl _ _).alloc (Nat.le_refl _) _; have hgN := hbw.size; have o2 := o2.below hbA o2.lt; have o3 := o3.below hbA o3.lt; have hbw := hbw.trans (hbA.mono hbw.size); have hx := hx.below hbA (Nat.le_refl _); have wa := wa.below hbA (Nat.le_refl _); have wb := wb.below hbA (Nat.le_refl _); have hS := HS.out _ o2 o3; have hL := True.intro; have h6 := h6.below hbA (Nat.le_refl _); have hu1 := hu1.below hbA (Nat.le_refl _); have oN := own_new (V2) 40 [.bool false, .slice none 0 0, .bool false, .slice none 0 0, .slice none 0 0]; refine hK _ _ hS (fun _ _ => hL) ?_; clear hK K; (try simp only [Act.put,q1,q2,q3,q4,q5,q6,q7,q8,q9])
        generalize V2.alloc (.cells ([.bool false, .slice none 0 0, .bool false, .slice none 0 0, .slice none 0 0] : List Value).toArray 40) = V3 at *
        generalize V2.heap.size = gN at *
        refine mo 7 rfl fun K hK => ?_; go_simp; go_at_call 91; (with_reducible refine (HOV.out _ _ _ (V3) wa hu1 h6).mono ?_); rintro e1 V4 ⟨u2, rfl, hu2, hb2⟩; have o2 := o2.below hb2 o2.lt; have o3 := o3.below hb2 o3.lt; have hbw := hbw.trans (hb2.mono hbw.size); have hx := hx.below hb2 (Nat.le_refl _); have wa := wa.below hb2 (Nat.le_refl _); have wb := wb.below hb2 (Nat.le_refl _); have hS := HS.out _ o2 o3; have hL := True.intro; have oN := oN.below hb2 oN.lt; refine hK _ _ hS (fun _ _ => hL) ?_; clear hK K; (try simp only [Act.put,q1,q2,q3,q4,q5,q6,q7,q8,q9])
        refine mo 8 rfl fun K hK => ?_; go_simp; go_at_call 128; (with_reducible refine (HMU.out _ _ (V4) hx hu2).mono ?_); rintro e1 V5 ⟨_, rfl, hu3, hb3⟩; obtain ⟨z1, z2, d1, d2, d3, i1, j1, i2, j2, i3, j3, rfl⟩ := hu3.open; have o2 := o2.below hb3 o2.lt; have o3 := o3.below hb3 o3.lt; have hbw := hbw.trans (hb3.mono hbw.size); have hx := hx.below hb3 (Nat.le_refl _); have wa := wa.below hb3 (Nat.le_refl _); have wb := wb.below hb3 (Nat.le_refl _); have hS := HS.out _ o2 o3; have hL := True.intro; have oN := oN.below hb3 oN.lt; refine hK _ _ hS (fun _ _ => hL) ?_; clear hK K; (try simp only [Act.put,q1,q2,q3,q4,q5,q6,q7,q8,q9])
    rotate_left 3
    focus
      go_simp; have hbA : Below (V1).heap.size (V1) ((V1).alloc (.cells ([.bool false, .slice none 0 0, .bool false, .slice none 0 0, .slice none 0 0] : List Value).toArray 40)) := (Below.refl _ _).alloc (Nat.le_refl _) _; have hgN := hbw.size; have o2 := o2.below hbA o2.lt; have o3 := o3.below hbA o3.lt; have hbw := hbw.trans (hbA.mono hbw.size); have hx := hx.below hbA (Nat.le_refl _); have wa := wa.below hbA (Nat.le_refl _); have wb := wb.below hbA (Nat.le_refl _); have hS := HS.out _ o2 o3; have hL := True.intro; have hu1 := hu1.below hbA (Nat.le_refl _); have oN := own_new (V1) 40 [.bool false, .slice none 0 0, .bool false, .slice none 0 0, .slice none 0 0]; refine hK _ _ hS (fun _ _ => hL) ?_; clear hK K; (try simp only [Act.put,q1,q2,q3,q4,q5,q6,q7,q8,q9])
      generalize V1.alloc (.cells ([.bool false, .slice none 0 0, .bool false, .slice none 0 0, .slice none 0 0] : List Value).toArray 40) = V2 at *
      generalize V1.heap.size = gN at *
      refine mo 6 rfl fun K hK => ?_; go_simp; have hbA : Below (V2).heap.size (V2) ((V2).alloc (.cells #[.int .u32 1] 28)) := (Below.refl _ _).alloc (Nat.le_refl _) _; have o2 := o2.below hbA o2.lt; have o3 := o3.below hbA o3.lt; have hbw := hbw.trans (hbA.mono hbw.size); have hx := hx.below hbA (Nat.le_refl _); have wa := wa.below hbA (Nat.le_refl _); have wb := wb.below hbA (Nat.le_refl _); have hS := HS.out _ o2 o3; have hL := True.intro; have oN := oN.below hbA oN.lt; have hu1 := hu1.below hbA (Nat.le_refl _); have h6 : NatRep ((V2).alloc (.cells #[.int .u32 1] 28)) _ 1 := nat_one; refine hK _ _ hS (fun _ _ => hL) ?_; clear hK K; (try simp only [Act.put,q1,q2,q3,q4,q5,q6,q7,q8,q9])
      generalize V2.alloc (.cells #[.int .u32 1] 28) = V3 at *
      refine mo 7 rfl fun K hK => ?_; go_simp; go_at_call 91; (with_reducible refine (HOV.out _ _ _ (V3) wa hu1 h6).mono ?_); rintro e1 V4 ⟨u2, rfl, hu2, hb2⟩; have o2 := o2.below hb2 o2.lt; have o3 := o3.below hb2 o3.lt; have hbw := hbw.trans (hb2.mono hbw.size); have hx := hx.below hb2 (Nat.le_refl _); have wa := wa.below hb2 (Nat.le_refl _); have wb := wb.below hb2 (Nat.le_refl _); have hS := HS.out _ o2 o3; have hL := True.intro; have oN := oN.below hb2 oN.lt; refine hK _ _ hS (fun _ _ => hL) ?_; clear hK K; (try simp only [Act.put,q1,q2,q3,q4,q5,q6,q7,q8,q9])
      refine mo 8 rfl fun K hK => ?_; go_simp; go_at_call 128; (with_reducible refine (HMU.out _ _ (V4) hx hu2).mono ?_); rintro e1 V5 ⟨_, rfl, hu3, hb3⟩; obtain ⟨z1, z2, d1, d2, d3, i1, j1, i2, j2, i3, j3, rfl⟩ := hu3.open; have o2 := o2.below hb3 o2.lt; have o3 := o3.below hb3 o3.lt; have hbw := hbw.trans (hb3.mono hbw.size); have hx := hx.below hb3 (Nat.le_refl _); have wa := wa.below hb3 (Nat.le_refl _); have wb := wb.below hb3 (Nat.le_refl _); have hS := HS.out _ o2 o3; have hL := True.intro; have oN := oN.below hb3 oN.lt; refine hK _ _ hS (fun _ _ => hL) ?_; clear hK K; (try simp only [Act.put,q1,q2,q3,q4,q5,q6,q7,q8,q9])
  rotate_left 4
  focus
    go_simp; have hbA : Below (V0).heap.size (V0) ((V0).alloc (.cells #[.int .u32 1] 28)) := (Below.refl _ _).alloc (Nat.le_refl _) _; have o2 := o2.below hbA o2.lt; have o3 := o3.below hbA o3.lt; have hbw := hbw.trans (hbA.mono hbw.size); have hx := hx.below hbA (Nat.le_refl _); have wa := wa.below hbA (Nat.le_refl _); have wb := wb.below hbA (Nat.le_refl _); have hS := HS.out _ o2 o3; have hL := True.intro; have h6 : NatRep ((V0).alloc (.cells #[.int .u32 1] 28)) _ 1 := nat_one; refine hK _ _ hS (fun _ _ => hL) ?_; clear hK K; (try simp only [Act.put,q1,q2,q3,q4,q5,q6,q7,q8,q9])
    generalize V0.alloc (.cells #[.int .u32 1] 28) = V1 at *
    refine wpAnyM_two (i := 5) (j := 9) (oi := _) (oj := _) (by kernel_rfl) rfl rfl (fun K hK => ?_) (fun K hK => ?_)
    focus
      go_simp; go_at_call 90; (with_reducible refine (HMI.out (V1) wb).mono ?_); rintro e1 V2 ⟨u1, rfl, hu1, hb1⟩; have o2 := o2.below hb1 o2.lt; have o3 := o3.below hb1 o3.lt; have hbw := hbw.trans (hb1.mono hbw.size); have hx := hx.below hb1 (Nat.le_refl _); have wa := wa.below hb1 (Nat.le_refl _); have wb := wb.below hb1 (Nat.le_refl _); have hS := HS.out _ o2 o3; have hL := True.intro; have h6 := h6.below hb1 (Nat.le_refl _); refine hK _ _ hS (fun _ _ => hL) ?_; clear hK K; (try simp only [Act.put,q1,q2,q3,q4,q5,q6,q7,q8,q9])
      refine wpAnyM_two (i := 7) (j := 9) (oi := _) (oj := _) (by kernel_rfl) rfl rfl (fun K hK => ?_) (fun K hK => ?_)
      focus
        go_simp; go_at_call 91; (with_reducible refine (HOV.out _ _ _ (V2) wa hu1 h6).mono ?_); rintro e1 V3 ⟨u2, rfl, hu2, hb2⟩; have o2 := o2.below hb2 o2.lt; have o3 := o3.below hb2 o3.lt; have hbw := hbw.trans (hb2.mono hbw.size); have hx := hx.below hb2 (Nat.le_refl _); have wa := wa.below hb2 (Nat.le_refl _); have wb := wb.below hb2 (Nat.le_refl _); have hS := HS.out _ o2 o3; have hL := True.intro; refine hK _ _ hS (fun _ _ => hL) ?_; clear hK K; (try simp only [Act.put,q1,q2,q3,q4,q5,q6,q7,q8,q9])
        refine wpAnyM_two (i := 8) (j := 9) (oi := _) (oj := _) (by kernel_rfl) rfl rfl (fun K hK => ?_) (fun K hK => ?_)
        focus
          go_simp; go_at_call 128; (with_reducible refine (HMU.out _ _ (V3) hx hu2).mono ?_); rintro e1 V4 ⟨_, rfl, hu3, hb3⟩; obtain ⟨z1, z2, d1, d2, d3, i1, j1, i2, j2, i3, j3, rfl⟩ := hu3.open; have o2 := o2.below hb3 o2.lt; have o3 := o3.below hb3 o3.lt; have hbw := hbw.trans (hb3.mono hbw.size); have hx := hx.below hb3 (Nat.le_refl _); have wa := wa.below hb3 (Nat.le_refl _); have wb := wb.below hb3 (Nat.le_refl _); have hS := HS.out _ o2 o3; have hL := True.intro; refine hK _ _ hS (fun _ _ => hL) ?_; clear hK K; (try simp only [Act.put,q1,q2,q3,q4,q5,q6,q7,q8,q9])
          refine mo 9 rfl fun K hK => ?_; go_simp; have hbA : Below (V4).heap.size (V4) ((V4).alloc (.cells ([.bool false, .slice none 0 0, .bool false, .slice none 0 0, .slice none 0 0] : List Value).toArray 40)) := (Below.refl _ _).alloc (Nat.le_refl _) _; have hgN := hbw.size; have o2 := o2.below hbA o2.lt; have o3 := o3.below hbA o3.lt; have hbw := hbw.trans (hbA.mono hbw.size); have hx := hx.below hbA (Nat.le_refl _); have wa := wa.below hbA (Nat.le_refl _); have wb := wb.below hbA (Nat.le_refl _); have hS := HS.out _ o2 o3; have hL := True.intro; have hu3 := hu3.below hbA (Nat.le_refl _); have oN := own_new (V4) 40 [.bool false, .slice none 0 0, .bool false, .slice none 0 0, .slice none 0 0]; refine hK _ _ hS (fun _ _ => hL) ?_; clear hK K; (try simp only [Act.put,q1,q2,q3,q4,q5,q6,q7,q8,q9])
          generalize V4.alloc (.cells ([.bool false, .slice none 0 0, .bool false, .slice none 0 0, .slice none 0 0] : List Value).toArray 40) = V5 at *
          generalize V4.heap.size = gN at *
        rotate_left 1
        focus
          go_simp; have hbA : Below (V3).heap.size (V3) ((V3).alloc (.cells ([.bool false, .slice none 0 0, .bool false, .slice none 0 0, .slice none 0 0] : List Value).toArray 40)) := (Below.refl _ _).alloc (Nat.le_refl _) _; have hgN := hbw.size; have o2 := o2.below hbA o2.lt; have o3 := o3.below hbA o3.lt; have hbw := hbw.trans (hbA.mono hbw.size); have hx := hx.below hbA (Nat.le_refl _); have wa := wa.below hbA (Nat.le_refl _); have wb := wb.below hbA (Nat.le_refl _); have hS := HS.out _ o2 o3; have hL := True.intro; have hu2 := hu2.below hbA (Nat.le_refl _); have oN := own_new (V3) 40 [.bool false, .slice none 0 0, .bool false, .slice none 0 0, .slice none 0 0]; refine hK _ _ hS (fun _ _ => hL) ?_; clear hK K; (try simp only [Act.put,q1,q2,q3,q4,q5,q6,q7,q8,q9])
          generalize V3.alloc (.cells ([.bool false, .slice none 0 0, .bool false, .slice none 0 0, .slice none 0 0] : List Value).toArray 40) = V4 at *
          generalize V3.heap.size = gN at *
          refine mo 8 rfl fun K hK => ?_; go_simp; go_at_call 128; (with_reducible refine (HMU.out _ _ (V4) hx hu2).mono ?_); rintro e1 V5 ⟨_, rfl, hu3, hb3⟩; obtain ⟨z1, z2, d1, d2, d3, i1, j1, i2, j2, i3, j3, rfl⟩ := hu3.open; have o2 := o2.below hb3 o2.lt; have o3 := o3.below hb3 o3.lt; have hbw := hbw.trans (hb3.mono hbw.size); have hx := hx.below hb3 (Nat.le_refl _); have wa := wa.below hb3 (Nat.le_refl _); have wb := wb.below hb3 (Nat.le_refl _); have hS := HS.out _ o2 o3; have hL := True.intro; have oN := oN.below hb3 oN.lt; refine hK _ _ hS (fun _ _ => hL) ?_; clear hK K; (try simp only [Act.put,q1,q2,q3,q4,q5,q6,q7,q8,q9])
      rotate_left 2
      focus
        go_simp; have hbA : Below (V2).heap.size (V2) ((V2).alloc (.cells ([.bool false, .slice none 0 0, .bool false, .slice none 0 0, .slice none 0 0] : List Value).toArray 40)) := (Below.refl _ _).alloc (Nat.le_refl _) _; have hgN := hbw.size; have o2 := o2.below hbA o2.lt; have o3 := o3.below hbA o3.lt; have hbw := hbw.trans (hbA.mono hbw.size); have hx := hx.below hbA (Nat.le_refl _); have wa := wa.below hbA (Nat.le_refl _); have wb := wb.below hbA (Nat.le_refl _); have hS := HS.out _ o2 o3; have hL := True.intro; have h6 := h6.below hbA (Nat.le_refl _); have hu1 := hu1.below hbA (Nat.le_refl _); have oN := own_new (V2) 40 [.bool false, .slice none 0 0, .bool false, .slice none 0 0, .slice none 0 0]; refine hK _ _ hS (fun _ _ => hL) ?_; clear hK K; (try simp only [Act.put,q1,q2,q3,q4,q5,q6,q7,q8,q9])
        generalize V2.alloc (.cells ([.bool false, .slice none 0 0, .bool false, .slice none 0 0, .slice none 0 0] : List Value).toArray 40) = V3 at *
        generalize V2.heap.size = gN at *
        refine mo 7 rfl fun K hK => ?_; go_simp; go_at_call 91; (with_reducible refine (HOV.out _ _ _ (V3) wa hu1 h6).mono ?_); rintro e1 V4 ⟨u2, rfl, hu2, hb2⟩; have o2 := o2.below hb2 o2.lt; have o3 := o3.below hb2 o3.lt; have hbw := hbw.trans (hb2.mono hbw.size); have hx := hx.below hb2 (Nat.le_refl _); have wa := wa.below hb2 (Nat.le_refl _); have wb := wb.below hb2 (Nat.le_refl _); have hS := HS.out _ o2 o3; have hL := True.intro; have oN := oN.below hb2 oN.lt; refine hK _ _ hS (fun _ _ => hL) ?_; clear hK K; (try simp only [Act.put,q1,q2,q3,q4,q5,q6,q7,q8,q9])
        refine mo 8 rfl fun K hK => ?_; go_simp; go_at_call 128; (with_reducible refine (HMU.out _ _ (V4) hx hu2).mono ?_); rintro e1 V5 ⟨_, rfl, hu3, hb3⟩; obtain ⟨z1, z2, d1, d2, d3, i1, j1, i2, j2, i3, j3, rfl⟩ := hu3.open; have o2 := o2.below hb3 o2.lt; have o3 := o3.below hb3 o3.lt; have hbw := hbw.trans (hb3.mono hbw.size); have hx := hx.below hb3 (Nat.le_refl _); have wa := wa.below hb3 (Nat.le_refl _); have wb := wb.below hb3 (Nat.le_refl _); have hS := HS.out _ o2 o3; have hL := True.intro; have oN := oN.below hb3 oN.lt; refine hK _ _ hS (fun _ _ => hL) ?_; clear hK K; (try simp only [Act.put,q1,q2,q3,q4,q5,q6,q7,q8,q9])
    rotate_left 3
    focus
      go_simp; have hbA : Below (V1).heap.size (V1) ((V1).alloc (.cells ([.bool false, .slice none 0 0, .bool false, .slice none 0 0, .slice none 0 0] : List Value).toArray 40)) := (Below.refl _ _).alloc (Nat.le_refl _) _; have hgN := hbw.size; have o2 := o2.below hbA o2.lt; have o3 := o3.below hbA o3.lt; have hbw := hbw.trans (hbA.mono hbw.size); have hx := hx.below hbA (Nat.le_refl _); have wa := wa.below hbA (Nat.le_refl _); have wb := wb.below hbA (Nat.le_refl _); have hS := HS.out _ o2 o3; have hL := True.intro; have h6 := h6.below hbA (Nat.le_refl _); have oN := own_new (V1) 40 [.bool false, .slice none 0 0, .bool false, .slice none 0 0, .slice none 0 0]; refine hK _ _ hS (fun _ _ => hL) ?_; clear hK K; (try simp only [Act.put,q1,q2,q3,q4,q5,q6,q7,q8,q9])
      generalize V1.alloc (.cells ([.bool false, .slice none 0 0, .bool false, .slice none 0 0, .slice none 0 0] : List Value).toArray 40) = V2 at *
      generalize V1.heap.size = gN at *
      refine mo 5 rfl fun K hK => ?_; go_simp; go_at_call 90; (with_reducible refine (HMI.out (V2) wb).mono ?_); rintro e1 V3 ⟨u1, rfl, hu1, hb1⟩; have o2 := o2.below hb1 o2.lt; have o3 := o3.below hb1 o3.lt; have hbw := hbw.trans (hb1.mono hbw.size); have hx := hx.below hb1 (Nat.le_refl _); have wa := wa.below hb1 (Nat.le_refl _); have wb := wb.below hb1 (Nat.le_refl _); have hS := HS.out _ o2 o3; have hL := True.intro; have oN := oN.below hb1 oN.lt; have h6 := h6.below hb1 (Nat.le_refl _); refine hK _ _ hS (fun _ _ => hL) ?_; clear hK K; (try simp only [Act.put,q1,q2,q3,q4,q5,q6,q7,q8,q9])
      refine mo 7 rfl fun K hK => ?_; go_simp; go_at_call 91; (with_reducible refine (HOV.out _ _ _ (V3) wa hu1 h6).mono ?_); rintro e1 V4 ⟨u2, rfl, hu2, hb2⟩; have o2 := o2.below hb2 o2.lt; have o3 := o3.below hb2 o3.lt; have hbw := hbw.trans (hb2.mono hbw.size); have hx := hx.below hb2 (Nat.le_refl _); have wa := wa.below hb2 (Nat.le_refl _); have wb := wb.below hb2 (Nat.le_refl _); have hS := HS.out _ o2 o3; have hL := True.intro; have oN := oN.below hb2 oN.lt; refine hK _ _ hS (fun _ _ => hL) ?_; clear hK K; (try simp only [Act.put,q1,q2,q3,q4,q5,q6,q7,q8,q9])
      refine mo 8 rfl fun K hK => ?_; go_simp; go_at_call 128; (with_reducible refine (HMU.out _ _ (V4) hx hu2).mono ?_); rintro e1 V5 ⟨_, rfl, hu3, hb3⟩; obtain ⟨z1, z2, d1, d2, d3, i1, j1, i2, j2, i3, j3, rfl⟩ := hu3.open; have o2 := o2.below hb3 o2.lt; have o3 := o3.below hb3 o3.lt; have hbw := hbw.trans (hb3.mono hbw.size); have hx := hx.below hb3 (Nat.le_refl _); have wa := wa.below hb3 (Nat.le_refl _); have wb := wb.below hb3 (Nat.le_refl _); have hS := HS.out _ o2 o3; have hL := True.intro; have oN := oN.below hb3 oN.lt; refine hK _ _ hS (fun _ _ => hL) ?_; clear hK K; (try simp only [Act.put,q1,q2,q3,q4,q5,q6,q7,q8,q9])
  rotate_left 4
  focus
    go_simp; have hbA : Below (V0).heap.size (V0) ((V0).alloc (.cells ([.bool false, .slice none 0 0, .bool false, .slice none 0 0, .slice none 0 0] : List Value).toArray 40)) := (Below.refl _ _).alloc (Nat.le_refl _) _; have hgN := hbw.size; have o2 := o2.below hbA o2.lt; have o3 := o3.below hbA o3.lt; have hbw := hbw.trans (hbA.mono hbw.size); have hx := hx.below hbA (Nat.le_refl _); have wa := wa.below hbA (Nat.le_refl _); have wb := wb.below hbA (Nat.le_refl _); have hS := HS.out _ o2 o3; have hL := True.intro; have oN := own_new (V0) 40 [.bool false, .slice none 0 0, .bool false, .slice none 0 0, .slice none 0 0]; refine hK _ _ hS (fun _ _ => hL) ?_; clear hK K; (try simp only [Act.put,q1,q2,q3,q4,q5,q6,q7,q8,q9])
    generalize V0.alloc (.cells ([.bool false, .slice none 0 0, .bool false, .slice none 0 0, .slice none 0 0] : List Value).toArray 40) = V1 at *
    generalize V0.heap.size = gN at *
    refine wpAnyM_two (i := 5) (j := 6) (oi := _) (oj := _) (by kernel_rfl) rfl rfl (fun K hK => ?_) (fun K hK => ?_)
    focus
      go_simp; go_at_call 90; (with_reducible refine (HMI.out (V1) wb).mono ?_); rintro e1 V2 ⟨u1, rfl, hu1, hb1⟩; have o2 := o2.below hb1 o2.lt; have o3 := o3.below hb1 o3.lt; have hbw := hbw.trans (hb1.mono hbw.size); have hx := hx.below hb1 (Nat.le_refl _); have wa := wa.below hb1 (Nat.le_refl _); have wb := wb.below hb1 (Nat.le_refl _); have hS := HS.out _ o2 o3; have hL := True.intro; have oN := oN.below hb1 oN.lt; refine hK _ _ hS (fun _ _ => hL) ?_; clear hK K; (try simp only [Act.put,q1,q2,q3,q4,q5,q6,q7,q8,q9])
      refine mo 6 rfl fun K hK => ?_; go_simp; have hbA : Below (V2).heap.size (V2) ((V2).alloc (.cells #[.int .u32 1] 28)) := (Below.refl _ _).alloc (Nat.le_refl _) _; have o2 := o2.below hbA o2.lt; have o3 := o3.below hbA o3.lt; have hbw := hbw.trans (hbA.mono hbw.size); have hx := hx.below hbA (Nat.le_refl _); have wa := wa.below hbA (Nat.le_refl _); have wb := wb.below hbA (Nat.le_refl _); have hS := HS.out _ o2 o3; have hL := True.intro; have oN := oN.below hbA oN.lt; have hu1 := hu1.below hbA (Nat.le_refl _); have h6 : NatRep ((V2).alloc (.cells #[.int .u32 1] 28)) _ 1 := nat_one; refine hK _ _ hS (fun _ _ => hL) ?_; clear hK K; (try simp only [Act.put,q1,q2,q3,q4,q5,q6,q7,q8,q9])
      generalize V2.alloc (.cells #[.int .u32 1] 28) = V3 at *
      refine mo 7 rfl fun K hK => ?_; go_simp; go_at_call 91; (with_reducible refine (HOV.out _ _ _ (V3) wa hu1 h6).mono ?_); rintro e1 V4 ⟨u2, rfl, hu2, hb2⟩; have o2 := o2.below hb2 o2.lt; have o3 := o3.below hb2 o3.lt; have hbw := hbw.trans (hb2.mono hbw.size); have hx := hx.below hb2 (Nat.le_refl _); have wa := wa.below hb2 (Nat.le_refl _); have wb := wb.below hb2 (Nat.le_refl _); have hS := HS.out _ o2 o3; have hL := True.intro; have oN := oN.below hb2 oN.lt; refine hK _ _ hS (fun _ _ => hL) ?_; clear hK K; (try simp only [Act.put,q1,q2,q3,q4,q5,q6,q7,q8,q9])
      refine mo 8 rfl fun K hK => ?_; go_simp; go_at_call 128; (with_reducible refine (HMU.out _ _ (V4) hx hu2).mono ?_); rintro e1 V5 ⟨_, rfl, hu3, hb3⟩; obtain ⟨z1, z2, d1, d2, d3, i1, j1, i2, j2, i3, j3, rfl⟩ := hu3.open; have o2 := o2.below hb3 o2.lt; have o3 := o3.below hb3 o3.lt; have hbw := hbw.trans (hb3.mono hbw.size); have hx := hx.below hb3 (Nat.le_refl _); have wa := wa.below hb3 (Nat.le_refl _); have wb := wb.below hb3 (Nat.le_refl _); have hS := HS.out _ o2 o3; have hL := True.intro; have oN := oN.below hb3 oN.lt; refine hK _ _ hS (fun _ _ => hL) ?_; clear hK K; (try simp only [Act.put,q1,q2,q3,q4,q5,q6,q7,q8,q9])
    rotate_left 1
    focus
      go_simp; have hbA : Below (V1).heap.size (V1) ((V1).alloc (.cells #[.int .u32 1] 28)) := (Below.refl _ _).alloc (Nat.le_refl _) _; have o2 := o2.below hbA o2.lt; have o3 := o3.below hbA o3.lt; have hbw := hbw.trans (hbA.mono hbw.size); have hx := hx.below hbA (Nat.le_refl _); have wa := wa.below hbA (Nat.le_refl _); have wb := wb.below hbA (Nat.le_refl _); have hS := HS.out _ o2 o3; have hL := True.intro; have oN := oN.below hbA oN.lt; have h6 : NatRep ((V1).alloc (.cells #[.int .u32 1] 28)) _ 1 := nat_one; refine hK _ _ hS (fun _ _ => hL) ?_; clear hK K; (try simp only [Act.put,q1,q2,q3,q4,q5,q6,q7,q8,q9])
      generalize V1.alloc (.cells #[.int .u32 1] 28) = V2 at *
      refine mo 5 rfl fun K hK => ?_; go_simp; go_at_call 90; (with_reducible refine (HMI.out (V2) wb).mono ?_); rintro e1 V3 ⟨u1, rfl, hu1, hb1⟩; have o2 := o2.below hb1 o2.lt; have o3 := o3.below hb1 o3.lt; have hbw := hbw.trans (hb1.mono hbw.size); have hx := hx.below hb1 (Nat.le_refl _); have wa := wa.below hb1 (Nat.le_refl _); have wb := wb.below hb1 (Nat.le_refl _); have hS := HS.out _ o2 o3; have hL := True.intro; have oN := oN.below hb1 oN.lt; have h6 := h6.below hb1 (Nat.le_refl _); refine hK _ _ hS (fun _ _ => hL) ?_; clear hK K; (try simp only [Act.put,q1,q2,q3,q4,q5,q6,q7,q8,q9])
      refine mo 7 rfl fun K hK => ?_; go_simp; go_at_call 91; (with_reducible refine (HOV.out _ _ _ (V3) wa hu1 h6).mono ?_); rintro e1 V4 ⟨u2, rfl, hu2, hb2⟩; have o2 := o2.below hb2 o2.lt; have o3 := o3.below hb2 o3.lt; have hbw := hbw.trans (hb2.mono hbw.size); have hx := hx.below hb2 (Nat.le_refl _); have wa := wa.below hb2 (Nat.le_refl _); have wb := wb.below hb2 (Nat.le_refl _); have hS := HS.out _ o2 o3; have hL := True.intro; have oN := oN.below hb2 oN.lt; refine hK _ _ hS (fun _ _ => hL) ?_; clear hK K; (try simp only [Act.put,q1,q2,q3,q4,q5,q6,q7,q8,q9])
      refine mo 8 rfl fun K hK => ?_; go_simp; go_at_call 128; (with_reducible refine (HMU.out _ _ (V4) hx hu2).mono ?_); rintro e1 V5 ⟨_, rfl, hu3, hb3⟩; obtain ⟨z1, z2, d1, d2, d3, i1, j1, i2, j2, i3, j3, rfl⟩ := hu3.open; have o2 := o2.below hb3 o2.lt; have o3 := o3.below hb3 o3.lt; have hbw := hbw.trans (hb3.mono hbw.size); have hx := hx.below hb3 (Nat.le_refl _); have wa := wa.below hb3 (Nat.le_refl _); have wb := wb.below hb3 (Nat.le_refl _); have hS := HS.out _ o2 o3; have hL := True.intro; have oN := oN.below hb3 oN.lt; refine hK _ _ hS (fun _ _ => hL) ?_; clear hK K; (try simp only [Act.put,q1,q2,q3,q4,q5,q6,q7,q8,q9])
  all_goals
    have fN := oN.free
    have cN0 := oN.cell 0 _ rfl
    have cN1 := oN.cell 1 _ rfl
    have cN2 := oN.cell 2 _ rfl
    have cN3 := oN.cell 3 _ rfl
    have cN4 := oN.cell 4 _ rfl
    have hzz := num_ret hu3 oN
    have oS := ((((oN.set 0 (.bool z1)).set 1 (.slice d1 i1 j1)).set 2 (.bool z2)).set 3 (.slice d2 i2 j2)).set 4 (.slice d3 i3 j3)
    have hbS := below5 hbw hgN (v0 := .bool z1) (v1 := .slice d1 i1 j1) (v2 := .bool z2) (v3 := .slice d2 i2 j2) (v4 := .slice d3 i3 j3)
    have p2 := (((((o2.other (a := ⟨gN, 0, none⟩) (hne2 gN hgN) (.bool z1)).other (a := ⟨gN, 1, none⟩) (hne2 gN hgN) (.slice d1 i1 j1)).other (a := ⟨gN, 2, none⟩) (hne2 gN hgN) (.bool z2)).other (a := ⟨gN, 3, none⟩) (hne2 gN hgN) (.slice d2 i2 j2)).other (a := ⟨gN, 4, none⟩) (hne2 gN hgN) (.slice d3 i3 j3))
    have p3 := (((((o3.other (a := ⟨gN, 0, none⟩) (hne3 gN hgN) (.bool z1)).other (a := ⟨gN, 1, none⟩) (hne3 gN hgN) (.slice d1 i1 j1)).other (a := ⟨gN, 2, none⟩) (hne3 gN hgN) (.bool z2)).other (a := ⟨gN, 3, none⟩) (hne3 gN hgN) (.slice d2 i2 j2)).other (a := ⟨gN, 4, none⟩) (hne3 gN hgN) (.slice d3 i3 j3))
    refine mo 10 rfl fun K hK => ?_; go_simp; have hS := HS.out _ p2 p3; have hL := True.intro; refine hK _ _ hS (fun _ _ => hL) ?_; clear hK K; (try simp only [Act.put,q1,q2,q3,q4,q5,q6,q7,q8,q9])
    refine wpAnyM_done (by kernel_rfl) ?_ _
    show R _ _
    exact hQ _ _ _ _ _ _ _ _ _ _ _ _ _ _ _ _ _ _ _ _ _ _ oS hzz hbS hgN
theorem NumRep.parts {w : World} {z1 z2 : Bool} {d1 d2 d3 : Option Addr} {i1 j1 i2 j2 i3 j3 : Nat} {y : CQ} (h : NumRep w (.agg #[.bool z1, .slice d1 i1 j1, .bool z2, .slice d2 i2 j2, .slice d3 i3 j3]) y) :
    ∃ (A B : Int) (D : Nat), Tri w (.agg #[.bool z1, .slice d1 i1 j1, .bool z2, .slice d2 i2 j2, .slice d3 i3 j3]) A B D ∧ WholeRep w (.agg #[.bool z1, .slice d1 i1 j1]) A ∧ WholeRep w (.agg #[.bool z2, .slice d2 i2 j2]) B ∧ Low A B D ∧ y = cq A B D := by
  obtain ⟨A, B, D, s1, s2, a1, a2, a3, l1, c1, l2, c2, l3, c3, e, wa, wb, tri, low, hx, -, -, -, -⟩ := h.all
  simp only [Value.agg.injEq, Array.mk.injEq, List.cons.injEq, and_true, Value.bool.injEq] at e
  obtain ⟨e1, e2, e3, e4, -⟩ := e
  rw [← e1, ← e2] at wa
  rw [← e3, ← e4] at wb
  exact ⟨A, B, D, tri, wa, wb, low, hx⟩
theorem int_sq (a : Int) : 0 ≤ a * a := by
  rcases Int.le_total 0 a with h | h
  · exact Int.mul_nonneg h h
  · exact Int.mul_nonneg_of_nonpos_of_nonpos h h
def DivRet (x y : CQ) (w : World) (r : Value) : Prop := ∃ u, (y.re = 0 ∧ y.im = 0 ∧ r = .tuple #[u, .int .i64 3] ∧ NumRep w u (cq 0 0 1)) ∨ (¬ (y.re = 0 ∧ y.im = 0) ∧ r = .tuple #[u, .int .i64 0] ∧ NumRep w u (x.div y))
set_option maxRecDepth 100000 in
set_option maxHeartbeats 6400000 in
theorem ndiv_spec (v u : Value) (x y : CQ) (k : Nat) (w : World) (h : NumRep w v x) (h' : NumRep w u y) (hs : Small k x) (hs' : Small k y) (hk : k ≤ 100000000000) :
    Calls Tryz.prog 87 #[v, u] w (Ret w (DivRet x y)) := by
  have HCL := Lib.hid (fun w h => clear_spec u y k w h hs' (by omega))
  have HRY := Lib.hid h'
  obtain ⟨s1, s2, a1, a2, a3, l1, c1, l2, c2, l3, c3, rfl⟩ := h.open
  obtain ⟨a', b', d', t1, t2, p1, p2, p3, m1, n1, m2, n2, m3, n3, rfl, wa', wb', tri', low', rfl, -, -, -, -⟩ := h'.all
  obtain ⟨hs1', hs2', hs3'⟩ := hs'.low low'
  by_cases h0 : (cq a' b' d').re = 0 ∧ (cq a' b' d').im = 0
  · have hc : cqClear (cq a' b' d') = false := by unfold cqClear; rw [decide_eq_true h0.1, decide_eq_true h0.2]; rfl
    rw [hc] at HCL
    clear hc
    have H0 := Lib.hid h0
    clear h0 h h' hs hs' wa' wb' tri' low' hs1' hs2' hs3'
    go_enter Tryz.func87, Tryz.ntmps87
    go_upto_region 1 with (fail)
    obtain ⟨W, hW, o2, o3, o4, hB, hS⟩ := boxes3 w 40 40 40 [.bool s1, .slice a1 l1 c1, .bool s2, .slice a2 l2 c2, .slice a3 l3 c3] [.bool t1, .slice p1 m1 n1, .bool t2, .slice p2 m2 n2, .slice p3 m3 n3] [.bool false, .slice none 0 0, .bool false, .slice none 0 0, .slice none 0 0]
    rw [← hW]
    clear hW hS
    have fo3 := o3.free; have co30 := o3.cell 0 _ rfl; have co31 := o3.cell 1 _ rfl; have co32 := o3.cell 2 _ rfl; have co33 := o3.cell 3 _ rfl; have co34 := o3.cell 4 _ rfl
    go_wp2_with fail
    refine (HCL.out W (HRY.out.below hB (Nat.le_refl _))).mono ?_
    rintro e W1 ⟨_, rfl, rfl, hb1⟩
    clear co30 co31 co32 co33 co34 fo3 o2 o3
    have hsW1 : W.heap.size ≤ W1.heap.size := hb1.size; have hB := hB.trans (hb1.mono hB.size); have o4 := o4.below hb1 o4.lt
    have fo4 := o4.free; have co40 := o4.cell 0 _ rfl; have co41 := o4.cell 1 _ rfl; have co42 := o4.cell 2 _ rfl; have co43 := o4.cell 3 _ rfl; have co44 := o4.cell 4 _ rfl
    go_wp2_with fail
    exact bodyPost_ret (by simp [results, Tryz.results87, go_sem, co40, co41, co42, co43, co44]) rfl ⟨_, rfl, ⟨_, .inl ⟨H0.out.1, H0.out.2, rfl, num_nil⟩⟩, below5 hB (by omega)⟩
  · have hc : cqClear (cq a' b' d') = true := by
      unfold cqClear
      rw [Bool.not_eq_true', Bool.and_eq_false_iff, decide_eq_false_iff_not, decide_eq_false_iff_not]
      by_cases h1 : (cq a' b' d').re = 0
      · exact .inr fun h2 => h0 ⟨h1, h2⟩
      · exact .inl h1
    rw [hc] at HCL
    clear hc
    have hab : ¬ (a' = 0 ∧ b' = 0) := fun e => h0 ⟨(re_zero low'.1).2 e.1, (im_zero low'.1).2 e.2⟩
    obtain ⟨N, hN⟩ : ∃ N : Nat, (N : Int) = a' * a' + b' * b' := ⟨(a' * a' + b' * b').natAbs, by
      have h1 : 0 ≤ a' * a' := int_sq a'
      have h2 : 0 ≤ b' * b' := int_sq b'
      omega⟩
    have hN0 : 0 < N := by
      rcases Nat.eq_zero_or_pos N with e | e
      · exfalso
        subst e
        have h1 : 0 ≤ a' * a' := int_sq a'
        have h2 : 0 ≤ b' * b' := int_sq b'
        have h3 : a' * a' = 0 := by omega
        have h4 : b' * b' = 0 := by omega
        exact hab ⟨by rcases Int.mul_eq_zero.1 h3 with h | h <;> exact h, by rcases Int.mul_eq_zero.1 h4 with h | h <;> exact h⟩
      · exact e
    have B1 := Lib.hid (mul_small hs1' hs1')
    have B2 := Lib.hid (mul_small hs2' hs2')
    have hNs : (a' * a' + b' * b').natAbs < 2 ^ (2 * k + 1) := add_small B1.out B2.out
    have hNs2 : N < 2 ^ (2 * k + 1) := by omega
    have HN := Lib.hid hN
    have HN0 := Lib.hid hN0
    have HNS := Lib.hid hNs2
    have H0 := Lib.hid h0
    have HSX := Lib.hid hs
    clear h0 h' hab hN hN0 hNs hNs2
    go_enter Tryz.func87, Tryz.ntmps87
    go_upto_region 1 with (fail)
    obtain ⟨W, hW, o2, o3, o4, hB, hS⟩ := boxes3 w 40 40 40 [.bool s1, .slice a1 l1 c1, .bool s2, .slice a2 l2 c2, .slice a3 l3 c3] [.bool t1, .slice p1 m1 n1, .bool t2, .slice p2 m2 n2, .slice p3 m3 n3] [.bool false, .slice none 0 0, .bool false, .slice none 0 0, .slice none 0 0]
    rw [← hW]
    clear hW hS
    have h := h.below hB (Nat.le_refl _); have wa' := wa'.below hB (Nat.le_refl _); have wb' := wb'.below hB (Nat.le_refl _); have tri' := tri'.below hB (Nat.le_refl _)
    have fo3 := o3.free; have co30 := o3.cell 0 _ rfl; have co31 := o3.cell 1 _ rfl; have co32 := o3.cell 2 _ rfl; have co33 := o3.cell 3 _ rfl; have co34 := o3.cell 4 _ rfl
    go_wp2_with fail
    refine (HCL.out W (HRY.out.below hB (Nat.le_refl _))).mono ?_
    rintro e W1 ⟨_, rfl, rfl, hb1⟩
    clear co30 co31 co32 co33 co34 fo3
    have hsW1 : W.heap.size ≤ W1.heap.size := hb1.size; have hB := hB.trans (hb1.mono hB.size); have o2 := o2.below hb1 o2.lt; have o3 := o3.below hb1 o3.lt; have o4 := o4.below hb1 o4.lt; have h := h.below hb1 (Nat.le_refl _); have wa' := wa'.below hb1 (Nat.le_refl _); have wb' := wb'.below hb1 (Nat.le_refl _); have tri' := tri'.below hb1 (Nat.le_refl _)
    go_upto_region 3 with (fail)
    obtain ⟨W, rfl⟩ : ∃ W : World, W = W1 := ⟨_, rfl⟩
    have l4a := o4.lt
    go_cut [6] (fun s6 wx => BoxW W (a' * a' + b' * b') s6 wx)
    case first =>
      have hB := Below.refl W.heap.size W
      have qo20 := o2.cell 0 _ rfl; have qo21 := o2.cell 1 _ rfl; have qo22 := o2.cell 2 _ rfl; have qo23 := o2.cell 3 _ rfl; have qo24 := o2.cell 4 _ rfl; have qo30 := o3.cell 0 _ rfl; have qo31 := o3.cell 1 _ rfl; have qo32 := o3.cell 2 _ rfl; have qo33 := o3.cell 3 _ rfl; have qo34 := o3.cell 4 _ rfl
      have o2 : Own W.drew _ _ _ := o2; have o3 : Own W.drew _ _ _ := o3; have lto2 : _ < W.heap.size := o2.lt; have lto3 : _ < W.heap.size := o3.lt; have hB := hB.drew
      have wa' := wa'.below ((Below.refl W.heap.size W).drew) (Nat.le_refl _); have wb' := wb'.below ((Below.refl W.heap.size W).drew) (Nat.le_refl _)
      have tok1 : True := trivial
      have tok2 : True := trivial
      have tok3 : True := trivial
      go_region_held3 (fun w' => w'.cell? ⟨w.heap.size, 0, none⟩ = some (.bool s1) ∧ w'.cell? ⟨w.heap.size, 1, none⟩ = some (.slice a1 l1 c1) ∧ w'.cell? ⟨w.heap.size, 2, none⟩ = some (.bool s2) ∧ w'.cell? ⟨w.heap.size, 3, none⟩ = some (.slice a2 l2 c2) ∧ w'.cell? ⟨w.heap.size, 4, none⟩ = some (.slice a3 l3 c3) ∧ w'.cell? ⟨w.heap.size + 1, 0, none⟩ = some (.bool t1) ∧ w'.cell? ⟨w.heap.size + 1, 1, none⟩ = some (.slice p1 m1 n1) ∧ w'.cell? ⟨w.heap.size + 1, 2, none⟩ = some (.bool t2) ∧ w'.cell? ⟨w.heap.size + 1, 3, none⟩ = some (.slice p2 m2 n2) ∧ w'.cell? ⟨w.heap.size + 1, 4, none⟩ = some (.slice p3 m3 n3)) (first | (with_reducible exact ⟨o2.cell 0 _ rfl, o2.cell 1 _ rfl, o2.cell 2 _ rfl, o2.cell 3 _ rfl, o2.cell 4 _ rfl, o3.cell 0 _ rfl, o3.cell 1 _ rfl, o3.cell 2 _ rfl, o3.cell 3 _ rfl, o3.cell 4 _ rfl⟩) | (simp [go_sem, qo20, qo21, qo22, qo23, qo24, qo30, qo31, qo32, qo33, qo34, lto2, lto3]; done))
        (first
          | (go_at_call 136; have _t := tok1; refine (times_spec _ _ a' a' k _ (wa'.below (by first | exact Below.refl _ _ | exact (Below.refl _ _).alloc (Nat.le_refl _) _ | exact ((Below.refl _ _).alloc (Nat.le_refl _) _).alloc (by simp) _) (Nat.le_refl _)) (wa'.below (by first | exact Below.refl _ _ | exact (Below.refl _ _).alloc (Nat.le_refl _) _ | exact ((Below.refl _ _).alloc (Nat.le_refl _) _).alloc (by simp) _) (Nat.le_refl _)) hs1' hs1' (by omega)).mono ?_; rintro e W1 ⟨u1, rfl, hu1, hb1⟩; (try (have oN := oN.below hb1 oN.lt)); (try (first | have oN := own_behind hb1 | have oN := own_behindD hb1)); have hb1 := ext_step (W := W.drew) (by first | exact Below.refl _ _ | exact (Below.refl _ _).alloc (Nat.le_refl _) _ | exact ((Below.refl _ _).alloc (Nat.le_refl _) _).alloc (by simp) _) hb1; have hsW1 : W.heap.size ≤ W1.heap.size := hb1.size; have hB := hB.trans (hb1.mono hB.size); have o2 := o2.below hb1 o2.lt; have o3 := o3.below hb1 o3.lt; have lto2 := o2.lt; have lto3 := o3.lt; have qo20 := o2.cell 0 _ rfl; have qo21 := o2.cell 1 _ rfl; have qo22 := o2.cell 2 _ rfl; have qo23 := o2.cell 3 _ rfl; have qo24 := o2.cell 4 _ rfl; have qo30 := o3.cell 0 _ rfl; have qo31 := o3.cell 1 _ rfl; have qo32 := o3.cell 2 _ rfl; have qo33 := o3.cell 3 _ rfl; have qo34 := o3.cell 4 _ rfl; have wa' := wa'.below hb1 (Nat.le_refl _); have wb' := wb'.below hb1 (Nat.le_refl _); clear tok1 _t)
          | (go_at_call 136; have _t := tok2; refine (times_spec _ _ b' b' k _ (wb'.below (by first | exact Below.refl _ _ | exact (Below.refl _ _).alloc (Nat.le_refl _) _ | exact ((Below.refl _ _).alloc (Nat.le_refl _) _).alloc (by simp) _) (Nat.le_refl _)) (wb'.below (by first | exact Below.refl _ _ | exact (Below.refl _ _).alloc (Nat.le_refl _) _ | exact ((Below.refl _ _).alloc (Nat.le_refl _) _).alloc (by simp) _) (Nat.le_refl _)) hs2' hs2' (by omega)).mono ?_; rintro e W2 ⟨u2, rfl, hu2, hb2⟩; (try (have oN := oN.below hb2 oN.lt)); (try (first | have oN := own_behind hb2 | have oN := own_behindD hb2)); have hb2 := ext_step (W := W1) (by first | exact Below.refl _ _ | exact (Below.refl _ _).alloc (Nat.le_refl _) _ | exact ((Below.refl _ _).alloc (Nat.le_refl _) _).alloc (by simp) _) hb2; have hsW2 : W1.heap.size ≤ W2.heap.size := hb2.size; have hB := hB.trans (hb2.mono hB.size); have o2 := o2.below hb2 o2.lt; have o3 := o3.below hb2 o3.lt; have lto2 := o2.lt; have lto3 := o3.lt; have qo20 := o2.cell 0 _ rfl; have qo21 := o2.cell 1 _ rfl; have qo22 := o2.cell 2 _ rfl; have qo23 := o2.cell 3 _ rfl; have qo24 := o2.cell 4 _ rfl; have qo30 := o3.cell 0 _ rfl; have qo31 := o3.cell 1 _ rfl; have qo32 := o3.cell 2 _ rfl; have qo33 := o3.cell 3 _ rfl; have qo34 := o3.cell 4 _ rfl; have wa' := wa'.below hb2 (Nat.le_refl _); have wb' := wb'.below hb2 (Nat.le_refl _); have hu1 := hu1.below hb2 (Nat.le_refl _); clear tok2 _t)
          | (go_at_call 137; have _t := tok3; refine (plus_spec _ _ (a' * a') (b' * b') (2 * k) _ (hu1.below (by first | exact Below.refl _ _ | exact (Below.refl _ _).alloc (Nat.le_refl _) _ | exact ((Below.refl _ _).alloc (Nat.le_refl _) _).alloc (by simp) _) (Nat.le_refl _)) (hu2.below (by first | exact Below.refl _ _ | exact (Below.refl _ _).alloc (Nat.le_refl _) _ | exact ((Below.refl _ _).alloc (Nat.le_refl _) _).alloc (by simp) _) (Nat.le_refl _)) B1.out B2.out (by omega)).mono ?_; rintro e W3 ⟨u4, rfl, hu4, hb3⟩; (try (have oN := oN.below hb3 oN.lt)); (try (first | have oN := own_behind hb3 | have oN := own_behindD hb3)); have hb3 := ext_step (W := W2) (by first | exact Below.refl _ _ | exact (Below.refl _ _).alloc (Nat.le_refl _) _ | exact ((Below.refl _ _).alloc (Nat.le_refl _) _).alloc (by simp) _) hb3; have hsW3 : W2.heap.size ≤ W3.heap.size := hb3.size; have hB := hB.trans (hb3.mono hB.size); have o2 := o2.below hb3 o2.lt; have o3 := o3.below hb3 o3.lt; have lto2 := o2.lt; have lto3 := o3.lt; have qo20 := o2.cell 0 _ rfl; have qo21 := o2.cell 1 _ rfl; have qo22 := o2.cell 2 _ rfl; have qo23 := o2.cell 3 _ rfl; have qo24 := o2.cell 4 _ rfl; have qo30 := o3.cell 0 _ rfl; have qo31 := o3.cell 1 _ rfl; have qo32 := o3.cell 2 _ rfl; have qo33 := o3.cell 3 _ rfl; have qo34 := o3.cell 4 _ rfl; have wa' := wa'.below hb3 (Nat.le_refl _); have wb' := wb'.below hb3 (Nat.le_refl _); have hu1 := hu1.below hb3 (Nat.le_refl _); have hu2 := hu2.below hb3 (Nat.le_refl _); obtain ⟨_, _, _, _, rfl, _, _⟩ := hu4.open; (try (have foN := oN.free; have coN0 := oN.cell 0 _ rfl; have coN1 := oN.cell 1 _ rfl)); clear tok3 _t))
      all_goals go_wp2_with fail
      all_goals go_meet
      all_goals first | exact boxw_new hB hu4 | exact boxw_set hB hu4 oN (by first | exact Nat.le_refl _ | omega | (simp; done) | (simp; omega))
    case rest =>
      obtain ⟨g6, l6, c6, z6, b6, rfl, hg6, o6, r6, hcb⟩ := hcut
      have hscW : W.heap.size ≤ wc.heap.size := hcb.size; have hB := hB.trans (hcb.mono hB.size); have o2 := o2.below hcb o2.lt; have o3 := o3.below hcb o3.lt; have o4 := o4.below hcb o4.lt; have h := h.below hcb (Nat.le_refl _); have wa' := wa'.below hcb (Nat.le_refl _); have wb' := wb'.below hcb (Nat.le_refl _); have tri' := tri'.below hcb (Nat.le_refl _)
      obtain ⟨V, rfl⟩ : ∃ V : World, V = wc := ⟨_, rfl⟩
      go_upto_region 4 with (fail)
      have l4b := o4.lt
      refine only_of (ndreg4 V _ _ k x a' b' s1 s2 t1 t2 a1 a2 a3 p1 p2 p3 l1 c1 l2 c2 l3 c3 m1 n1 m2 n2 m3 n3 o2 o3 h wa' wb' hs hs1' hs2' (by omega) ?_)
      intro V1 g7 z1 z2 d1 d2 d3 i1 j1 i2 j2 i3 j3 x23 x24 x25 x26 x27 x28 x29 x30 x31 o7 hz hb7 hg7
      try simp only [Exit.then]
      have hsV1 : V.heap.size ≤ V1.heap.size := hb7.size; have hB := hB.trans (hb7.mono hB.size); have o2 := o2.below hb7 o2.lt; have o3 := o3.below hb7 o3.lt; have o4 := o4.below hb7 o4.lt; have o6 := o6.below hb7 o6.lt; have r6 := r6.below hb7 (Nat.le_refl _); have tri' := tri'.below hb7 (Nat.le_refl _)
      have hsz : Small (2 * (k + 1) + 1) (x.mul (cq a' (-b') 1)) := (HSX.out.mono (by omega)).mul (small_mk (by omega) (by have : (2 : Nat) ^ k ≤ 2 ^ (k + 1) := Nat.pow_le_pow_right (by omega) (by omega); omega) (by rw [Int.natAbs_neg]; have : (2 : Nat) ^ k ≤ 2 ^ (k + 1) := Nat.pow_le_pow_right (by omega) (by omega); omega) (Nat.one_lt_two_pow (by omega)))
      obtain ⟨A, B, D, trz, za, zb, lowz, hze⟩ := hz.parts
      rw [hze] at hsz
      obtain ⟨hz1, hz2, hz3⟩ := hsz.low lowz
      have HFIN := Lib.hid (cq_div_eq lowz.1 low'.1 HN0.out HN.out hze)
      have hpk : (2 : Nat) ^ k ≤ 2 ^ (2 * (k + 1) + 1) := Nat.pow_le_pow_right (by omega) (by omega)
      have hpk2 : (2 : Nat) ^ (2 * k + 1) ≤ 2 ^ (2 * (k + 1) + 1) := Nat.pow_le_pow_right (by omega) (by omega)
      have hd' : d' < 2 ^ (2 * (k + 1) + 1) := by omega
      have hNN : N < 2 ^ (2 * (k + 1) + 1) := by have := HNS.out; omega
      obtain ⟨K, hK⟩ : ∃ K, 2 * (k + 1) + 1 = K := ⟨_, rfl⟩
      have hKk : K ≤ 1000000000000 := by omega
      rw [hK] at hz1 hz2 hz3 hd' hNN
      have E1 := Lib.hid (mul_small' hz1 hd')
      have E2 := Lib.hid (mul_small' hz2 hd')
      have E3 := Lib.hid (nmul_small hz3 hNN)
      have hnN : NatRep V1 (.slice b6 l6 c6) N := by
        have := r6.mag
        rwa [← HN.out, Int.natAbs_natCast] at this
      clear hz hsz hpk hpk2 h wa' wb' r6
      go_upto_region 5 with (fail)
      have qo30 := o3.cell 0 _ rfl; have qo31 := o3.cell 1 _ rfl; have qo32 := o3.cell 2 _ rfl; have qo33 := o3.cell 3 _ rfl; have qo34 := o3.cell 4 _ rfl; have qo70 := o7.cell 0 _ rfl; have qo71 := o7.cell 1 _ rfl; have qo72 := o7.cell 2 _ rfl; have qo73 := o7.cell 3 _ rfl; have qo74 := o7.cell 4 _ rfl; have qo60 := o6.cell 0 _ rfl; have qo61 := o6.cell 1 _ rfl
      have o3 : Own V1.drew _ _ _ := o3; have o7 : Own V1.drew _ _ _ := o7; have o6 : Own V1.drew _ _ _ := o6; have o4 : Own V1.drew _ _ _ := o4; have lto3 : _ < V1.heap.size := o3.lt; have lto7 : _ < V1.heap.size := o7.lt; have lto6 : _ < V1.heap.size := o6.lt; have lto4 : _ < V1.heap.size := o4.lt; have hB := hB.drew
      have za := za.below ((Below.refl V1.heap.size V1).drew) (Nat.le_refl _); have zb := zb.below ((Below.refl V1.heap.size V1).drew) (Nat.le_refl _); have tri' := tri'.below ((Below.refl V1.heap.size V1).drew) (Nat.le_refl _); have trz := trz.below ((Below.refl V1.heap.size V1).drew) (Nat.le_refl _); have hnN := hnN.below ((Below.refl V1.heap.size V1).drew) (Nat.le_refl _)
      have tok1 : True := trivial
      have tok2 : True := trivial
      have tok3 : True := trivial
      have tok4 : True := trivial
      have tok5 : True := trivial
      have tok6 : True := trivial
      have tok7 : True := trivial
      go_region_held3 (fun w' => w'.cell? ⟨w.heap.size + 1, 0, none⟩ = some (.bool t1) ∧ w'.cell? ⟨w.heap.size + 1, 1, none⟩ = some (.slice p1 m1 n1) ∧ w'.cell? ⟨w.heap.size + 1, 2, none⟩ = some (.bool t2) ∧ w'.cell? ⟨w.heap.size + 1, 3, none⟩ = some (.slice p2 m2 n2) ∧ w'.cell? ⟨w.heap.size + 1, 4, none⟩ = some (.slice p3 m3 n3) ∧ w'.cell? ⟨g7, 0, none⟩ = some (.bool z1) ∧ w'.cell? ⟨g7, 1, none⟩ = some (.slice d1 i1 j1) ∧ w'.cell? ⟨g7, 2, none⟩ = some (.bool z2) ∧ w'.cell? ⟨g7, 3, none⟩ = some (.slice d2 i2 j2) ∧ w'.cell? ⟨g7, 4, none⟩ = some (.slice d3 i3 j3) ∧ w'.cell? ⟨g6, 0, none⟩ = some (.bool z6) ∧ w'.cell? ⟨g6, 1, none⟩ = some (.slice b6 l6 c6)) (first | (with_reducible exact ⟨o3.cell 0 _ rfl, o3.cell 1 _ rfl, o3.cell 2 _ rfl, o3.cell 3 _ rfl, o3.cell 4 _ rfl, o7.cell 0 _ rfl, o7.cell 1 _ rfl, o7.cell 2 _ rfl, o7.cell 3 _ rfl, o7.cell 4 _ rfl, o6.cell 0 _ rfl, o6.cell 1 _ rfl⟩) | (simp [go_sem, qo30, qo31, qo32, qo33, qo34, qo70, qo71, qo72, qo73, qo74, qo60, qo61, lto3, lto7, lto6]; done))
        (first
          | (go_at_call 75; have _t := tok1; refine (den_spec _ a' b' d' _ tri').mono ?_; rintro e V11 ⟨y1, rfl, hy1, hb1⟩; have hsV11 : V1.heap.size ≤ V11.heap.size := hb1.size; have hB := hB.trans (hb1.mono hB.size); have o3 := o3.below hb1 o3.lt; have o7 := o7.below hb1 o7.lt; have o6 := o6.below hb1 o6.lt; have o4 := o4.below hb1 o4.lt; have lto3 := o3.lt; have lto7 := o7.lt; have lto6 := o6.lt; have lto4 := o4.lt; have qo30 := o3.cell 0 _ rfl; have qo31 := o3.cell 1 _ rfl; have qo32 := o3.cell 2 _ rfl; have qo33 := o3.cell 3 _ rfl; have qo34 := o3.cell 4 _ rfl; have qo70 := o7.cell 0 _ rfl; have qo71 := o7.cell 1 _ rfl; have qo72 := o7.cell 2 _ rfl; have qo73 := o7.cell 3 _ rfl; have qo74 := o7.cell 4 _ rfl; have qo60 := o6.cell 0 _ rfl; have qo61 := o6.cell 1 _ rfl; have za := za.below hb1 (Nat.le_refl _); have zb := zb.below hb1 (Nat.le_refl _); have tri' := tri'.below hb1 (Nat.le_refl _); have trz := trz.below hb1 (Nat.le_refl _); have hnN := hnN.below hb1 (Nat.le_refl _); clear tok1 _t)
          | (go_at_call 104; have _t := tok2; refine (scaled_spec _ _ A d' K _ za hy1 hz1 hd' (by omega)).mono ?_; rintro e V12 ⟨y2, rfl, hy2, hb2⟩; have hsV12 : V11.heap.size ≤ V12.heap.size := hb2.size; have hB := hB.trans (hb2.mono hB.size); have o3 := o3.below hb2 o3.lt; have o7 := o7.below hb2 o7.lt; have o6 := o6.below hb2 o6.lt; have o4 := o4.below hb2 o4.lt; have lto3 := o3.lt; have lto7 := o7.lt; have lto6 := o6.lt; have lto4 := o4.lt; have qo30 := o3.cell 0 _ rfl; have qo31 := o3.cell 1 _ rfl; have qo32 := o3.cell 2 _ rfl; have qo33 := o3.cell 3 _ rfl; have qo34 := o3.cell 4 _ rfl; have qo70 := o7.cell 0 _ rfl; have qo71 := o7.cell 1 _ rfl; have qo72 := o7.cell 2 _ rfl; have qo73 := o7.cell 3 _ rfl; have qo74 := o7.cell 4 _ rfl; have qo60 := o6.cell 0 _ rfl; have qo61 := o6.cell 1 _ rfl; have za := za.below hb2 (Nat.le_refl _); have zb := zb.below hb2 (Nat.le_refl _); have tri' := tri'.below hb2 (Nat.le_refl _); have trz := trz.below hb2 (Nat.le_refl _); have hnN := hnN.below hb2 (Nat.le_refl _); have hy1 := hy1.below hb2 (Nat.le_refl _); clear tok2 _t)
          | (go_at_call 75; have _t := tok3; refine (den_spec _ a' b' d' _ tri').mono ?_; rintro e V13 ⟨y3, rfl, hy3, hb3⟩; have hsV13 : V12.heap.size ≤ V13.heap.size := hb3.size; have hB := hB.trans (hb3.mono hB.size); have o3 := o3.below hb3 o3.lt; have o7 := o7.below hb3 o7.lt; have o6 := o6.below hb3 o6.lt; have o4 := o4.below hb3 o4.lt; have lto3 := o3.lt; have lto7 := o7.lt; have lto6 := o6.lt; have lto4 := o4.lt; have qo30 := o3.cell 0 _ rfl; have qo31 := o3.cell 1 _ rfl; have qo32 := o3.cell 2 _ rfl; have qo33 := o3.cell 3 _ rfl; have qo34 := o3.cell 4 _ rfl; have qo70 := o7.cell 0 _ rfl; have qo71 := o7.cell 1 _ rfl; have qo72 := o7.cell 2 _ rfl; have qo73 := o7.cell 3 _ rfl; have qo74 := o7.cell 4 _ rfl; have qo60 := o6.cell 0 _ rfl; have qo61 := o6.cell 1 _ rfl; have za := za.below hb3 (Nat.le_refl _); have zb := zb.below hb3 (Nat.le_refl _); have tri' := tri'.below hb3 (Nat.le_refl _); have trz := trz.below hb3 (Nat.le_refl _); have hnN := hnN.below hb3 (Nat.le_refl _); have hy1 := hy1.below hb3 (Nat.le_refl _); have hy2 := hy2.below hb3 (Nat.le_refl _); clear tok3 _t)
          | (go_at_call 104; have _t := tok4; refine (scaled_spec _ _ B d' K _ zb hy3 hz2 hd' (by omega)).mono ?_; rintro e V14 ⟨y4, rfl, hy4, hb4⟩; have hsV14 : V13.heap.size ≤ V14.heap.size := hb4.size; have hB := hB.trans (hb4.mono hB.size); have o3 := o3.below hb4 o3.lt; have o7 := o7.below hb4 o7.lt; have o6 := o6.below hb4 o6.lt; have o4 := o4.below hb4 o4.lt; have lto3 := o3.lt; have lto7 := o7.lt; have lto6 := o6.lt; have lto4 := o4.lt; have qo30 := o3.cell 0 _ rfl; have qo31 := o3.cell 1 _ rfl; have qo32 := o3.cell 2 _ rfl; have qo33 := o3.cell 3 _ rfl; have qo34 := o3.cell 4 _ rfl; have qo70 := o7.cell 0 _ rfl; have qo71 := o7.cell 1 _ rfl; have qo72 := o7.cell 2 _ rfl; have qo73 := o7.cell 3 _ rfl; have qo74 := o7.cell 4 _ rfl; have qo60 := o6.cell 0 _ rfl; have qo61 := o6.cell 1 _ rfl; have za := za.below hb4 (Nat.le_refl _); have zb := zb.below hb4 (Nat.le_refl _); have tri' := tri'.below hb4 (Nat.le_refl _); have trz := trz.below hb4 (Nat.le_refl _); have hnN := hnN.below hb4 (Nat.le_refl _); have hy1 := hy1.below hb4 (Nat.le_refl _); have hy2 := hy2.below hb4 (Nat.le_refl _); have hy3 := hy3.below hb4 (Nat.le_refl _); clear tok4 _t)
          | (go_at_call 75; have _t := tok5; refine (den_spec _ A B D _ trz).mono ?_; rintro e V15 ⟨y5, rfl, hy5, hb5⟩; have hsV15 : V14.heap.size ≤ V15.heap.size := hb5.size; have hB := hB.trans (hb5.mono hB.size); have o3 := o3.below hb5 o3.lt; have o7 := o7.below hb5 o7.lt; have o6 := o6.below hb5 o6.lt; have o4 := o4.below hb5 o4.lt; have lto3 := o3.lt; have lto7 := o7.lt; have lto6 := o6.lt; have lto4 := o4.lt; have qo30 := o3.cell 0 _ rfl; have qo31 := o3.cell 1 _ rfl; have qo32 := o3.cell 2 _ rfl; have qo33 := o3.cell 3 _ rfl; have qo34 := o3.cell 4 _ rfl; have qo70 := o7.cell 0 _ rfl; have qo71 := o7.cell 1 _ rfl; have qo72 := o7.cell 2 _ rfl; have qo73 := o7.cell 3 _ rfl; have qo74 := o7.cell 4 _ rfl; have qo60 := o6.cell 0 _ rfl; have qo61 := o6.cell 1 _ rfl; have za := za.below hb5 (Nat.le_refl _); have zb := zb.below hb5 (Nat.le_refl _); have tri' := tri'.below hb5 (Nat.le_refl _); have trz := trz.below hb5 (Nat.le_refl _); have hnN := hnN.below hb5 (Nat.le_refl _); have hy1 := hy1.below hb5 (Nat.le_refl _); have hy2 := hy2.below hb5 (Nat.le_refl _); have hy3 := hy3.below hb5 (Nat.le_refl _); have hy4 := hy4.below hb5 (Nat.le_refl _); clear tok5 _t)
          | (go_at_call 138; have _t := tok6; refine (mul_spec _ _ D N K _ hy5 hnN hz3 hNN (by omega)).mono ?_; rintro e V16 ⟨y6, rfl, hy6, hb6⟩; have hsV16 : V15.heap.size ≤ V16.heap.size := hb6.size; have hB := hB.trans (hb6.mono hB.size); have o3 := o3.below hb6 o3.lt; have o7 := o7.below hb6 o7.lt; have o6 := o6.below hb6 o6.lt; have o4 := o4.below hb6 o4.lt; have lto3 := o3.lt; have lto7 := o7.lt; have lto6 := o6.lt; have lto4 := o4.lt; have qo30 := o3.cell 0 _ rfl; have qo31 := o3.cell 1 _ rfl; have qo32 := o3.cell 2 _ rfl; have qo33 := o3.cell 3 _ rfl; have qo34 := o3.cell 4 _ rfl; have qo70 := o7.cell 0 _ rfl; have qo71 := o7.cell 1 _ rfl; have qo72 := o7.cell 2 _ rfl; have qo73 := o7.cell 3 _ rfl; have qo74 := o7.cell 4 _ rfl; have qo60 := o6.cell 0 _ rfl; have qo61 := o6.cell 1 _ rfl; have za := za.below hb6 (Nat.le_refl _); have zb := zb.below hb6 (Nat.le_refl _); have tri' := tri'.below hb6 (Nat.le_refl _); have trz := trz.below hb6 (Nat.le_refl _); have hnN := hnN.below hb6 (Nat.le_refl _); have hy1 := hy1.below hb6 (Nat.le_refl _); have hy2 := hy2.below hb6 (Nat.le_refl _); have hy3 := hy3.below hb6 (Nat.le_refl _); have hy4 := hy4.below hb6 (Nat.le_refl _); have hy5 := hy5.below hb6 (Nat.le_refl _); clear tok6 _t)
          | (go_at_call 91; have _t := tok7; refine (over_spec _ _ _ (A * d') (B * d') (D * N) (2 * K) _ hy2 hy4 hy6 (Nat.mul_pos lowz.1 HN0.out) E1.out E2.out E3.out (by omega)).mono ?_; rintro e V17 ⟨u8, rfl, hu8, hb7⟩; have hsV17 : V16.heap.size ≤ V17.heap.size := hb7.size; have hB := hB.trans (hb7.mono hB.size); have o3 := o3.below hb7 o3.lt; have o7 := o7.below hb7 o7.lt; have o6 := o6.below hb7 o6.lt; have o4 := o4.below hb7 o4.lt; have lto3 := o3.lt; have lto7 := o7.lt; have lto6 := o6.lt; have lto4 := o4.lt; have qo30 := o3.cell 0 _ rfl; have qo31 := o3.cell 1 _ rfl; have qo32 := o3.cell 2 _ rfl; have qo33 := o3.cell 3 _ rfl; have qo34 := o3.cell 4 _ rfl; have qo70 := o7.cell 0 _ rfl; have qo71 := o7.cell 1 _ rfl; have qo72 := o7.cell 2 _ rfl; have qo73 := o7.cell 3 _ rfl; have qo74 := o7.cell 4 _ rfl; have qo60 := o6.cell 0 _ rfl; have qo61 := o6.cell 1 _ rfl; have za := za.below hb7 (Nat.le_refl _); have zb := zb.below hb7 (Nat.le_refl _); have tri' := tri'.below hb7 (Nat.le_refl _); have trz := trz.below hb7 (Nat.le_refl _); have hnN := hnN.below hb7 (Nat.le_refl _); have hy1 := hy1.below hb7 (Nat.le_refl _); have hy2 := hy2.below hb7 (Nat.le_refl _); have hy3 := hy3.below hb7 (Nat.le_refl _); have hy4 := hy4.below hb7 (Nat.le_refl _); have hy5 := hy5.below hb7 (Nat.le_refl _); have hy6 := hy6.below hb7 (Nat.le_refl _); obtain ⟨_, _, _, _, _, _, _, _, _, _, _, rfl⟩ := hu8.open; have fo4 := o4.free; have co40 := o4.cell 0 _ rfl; have co41 := o4.cell 1 _ rfl; have co42 := o4.cell 2 _ rfl; have co43 := o4.cell 3 _ rfl; have co44 := o4.cell 4 _ rfl; clear tok7 _t))
      go_wp2_with fail
      rw [HFIN.out] at hu8
      exact bodyPost_ret (by simp [results, Tryz.results87, go_sem, co40, co41, co42, co43, co44]) rfl ⟨_, rfl, ⟨_, .inr ⟨H0.out, rfl, num_ret hu8 o4⟩⟩, below5 hB (by omega)⟩
end Go.Proofs.YtfkogkcpndaoeaaGreat
