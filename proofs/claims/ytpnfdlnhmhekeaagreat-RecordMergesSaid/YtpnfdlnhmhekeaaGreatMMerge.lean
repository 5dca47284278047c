/- Sweeps as lists of points; merging them; plain. Conditions: none. The drawn region of Merge. Conditions: bits. record.Merge. Conditions: bits. -/
import Derived.Test.YtpnfdlnhmhekeaaGreatMPut
import Derived.Test.YtpnfdlnhmhekeaaGreatMVWaves
set_option linter.all false
namespace Go.Proofs.YtpnfdlnhmhekeaaGreat
open Go.RowKit
structure Pt where
  f : CQ
  a : List (List CQ)
  b : List (List CQ)
def Wv.of (l : List Pt) : Wv := ⟨l.map Pt.f, l.map Pt.a, l.map Pt.b⟩
def Wv.pts (x : Wv) : List Pt := (List.range x.fr.length).map fun i => ⟨x.fr.getD i (cq 0 0 1), x.a.getD i [], x.b.getD i []⟩
theorem Wv.pts_len (x : Wv) : x.pts.length = x.fr.length := by simp [Wv.pts]
theorem Wv.pts_at {x : Wv} {i : Nat} {p : Pt} (h : x.pts[i]? = some p) (ha : x.a.length = x.fr.length) (hb : x.b.length = x.fr.length) : x.fr[i]? = some p.f ∧ x.a[i]? = some p.a ∧ x.b[i]? = some p.b := by
  have hi : i < x.fr.length := by rw [← Wv.pts_len]; exact (List.getElem?_eq_some_iff.1 h).1
  unfold Wv.pts at h
  rw [List.getElem?_map, List.getElem?_range hi] at h
  obtain rfl := Option.some.inj h
  refine ⟨?_, ?_, ?_⟩
  · rw [List.getElem?_eq_getElem hi]; simp [List.getD, List.getElem?_eq_getElem hi]
  · rw [List.getElem?_eq_getElem (by omega)]; simp [List.getD, List.getElem?_eq_getElem (show i < x.a.length by omega)]
  · rw [List.getElem?_eq_getElem (by omega)]; simp [List.getD, List.getElem?_eq_getElem (show i < x.b.length by omega)]
theorem Wv.of_snoc (l : List Pt) (p : Pt) : Wv.of (l ++ [p]) = ⟨(Wv.of l).fr ++ [p.f], (Wv.of l).a ++ [p.a], (Wv.of l).b ++ [p.b]⟩ := by simp [Wv.of]
def mergeP : List Pt → List Pt → Option (List Pt)
  | [], ys => some ys
  | x :: xs, [] => some (x :: xs)
  | x :: xs, y :: ys => if qcmp x.f y.f = 0 then none else if qcmp x.f y.f = -1 then (mergeP xs (y :: ys)).map (x :: ·) else (mergeP (x :: xs) ys).map (y :: ·)
  termination_by l m => l.length + m.length
theorem mergeP_nil (l : List Pt) : mergeP l [] = some l := by cases l <;> simp [mergeP]
theorem mergeP_left {xs ys : List Pt} {i k : Nat} {x : Pt} (hx : xs[i]? = some x) (h : ys.length = k ∨ ∃ y, ys[k]? = some y ∧ qcmp x.f y.f = -1) : mergeP (xs.drop i) (ys.drop k) = (mergeP (xs.drop (i + 1)) (ys.drop k)).map (x :: ·) := by
  have hi : i < xs.length := (List.getElem?_eq_some_iff.1 hx).1
  have h1 : xs.drop i = x :: xs.drop (i + 1) := by
    rw [List.drop_eq_getElem_cons hi]
    rw [List.getElem?_eq_getElem hi] at hx
    rw [Option.some.inj hx]
  rcases h with h | ⟨y, hy, hc⟩
  · rw [show ys.drop k = [] from List.drop_of_length_le (by omega), mergeP_nil, mergeP_nil, h1]
    rfl
  · have hk : k < ys.length := (List.getElem?_eq_some_iff.1 hy).1
    have h2 : ys.drop k = y :: ys.drop (k + 1) := by
      rw [List.drop_eq_getElem_cons hk]
      rw [List.getElem?_eq_getElem hk] at hy
      rw [Option.some.inj hy]
    rw [h1, h2, mergeP, if_neg (by rw [hc]; decide), if_pos hc]
theorem mergeP_right {xs ys : List Pt} {i k : Nat} {y : Pt} (hy : ys[k]? = some y) (h : xs.length = i ∨ ∃ x, xs[i]? = some x ∧ qcmp x.f y.f ≠ 0 ∧ qcmp x.f y.f ≠ -1) : mergeP (xs.drop i) (ys.drop k) = (mergeP (xs.drop i) (ys.drop (k + 1))).map (y :: ·) := by
  have hk : k < ys.length := (List.getElem?_eq_some_iff.1 hy).1
  have h2 : ys.drop k = y :: ys.drop (k + 1) := by
    rw [List.drop_eq_getElem_cons hk]
    rw [List.getElem?_eq_getElem hk] at hy
    rw [Option.some.inj hy]
  rcases h with h | ⟨x, hx, hc, hd⟩
  · rw [show xs.drop i = [] from List.drop_of_length_le (by omega)]
    simp [mergeP, h2]
  · have hi : i < xs.length := (List.getElem?_eq_some_iff.1 hx).1
    have h1 : xs.drop i = x :: xs.drop (i + 1) := by
      rw [List.drop_eq_getElem_cons hi]
      rw [List.getElem?_eq_getElem hi] at hx
      rw [Option.some.inj hx]
    rw [h1, h2, mergeP, if_neg hc, if_neg hd]
theorem mergeP_twice {xs ys : List Pt} {i k : Nat} {x y : Pt} (hx : xs[i]? = some x) (hy : ys[k]? = some y) (hc : qcmp x.f y.f = 0) : mergeP (xs.drop i) (ys.drop k) = none := by
  have hi : i < xs.length := (List.getElem?_eq_some_iff.1 hx).1
  have hk : k < ys.length := (List.getElem?_eq_some_iff.1 hy).1
  rw [List.drop_eq_getElem_cons hi, List.drop_eq_getElem_cons hk]
  rw [List.getElem?_eq_getElem hi] at hx
  rw [List.getElem?_eq_getElem hk] at hy
  rw [Option.some.inj hx, Option.some.inj hy, mergeP, if_pos hc]
theorem mergeP_end {xs ys : List Pt} {i k : Nat} (hi : xs.length ≤ i) (hk : ys.length ≤ k) : mergeP (xs.drop i) (ys.drop k) = some [] := by
  rw [List.drop_of_length_le hi, List.drop_of_length_le hk, mergeP]
def mergeErr (v w : Wv) : Nat :=
  if vwB v = true ∧ vwB w = true then
    if (v.a.getD 0 []).length = (w.a.getD 0 []).length then
      match mergeP v.pts w.pts with
      | none => 8
      | some l => if l.length ≤ 1024 then 0 else 9
    else 4
  else 1
def mergeRes (v w : Wv) : Wv := if mergeErr v w = 0 then Wv.of ((mergeP v.pts w.pts).getD []) else Wv.of []
theorem vw_parts {x : Wv} (h : vwB x = true) : 0 < x.fr.length ∧ x.fr.length ≤ 1024 ∧ x.a.length = x.fr.length ∧ x.b.length = x.fr.length ∧ (∀ m ∈ x.a, matFit m) ∧ (∀ m ∈ x.b, matFit m) := by
  unfold vwB at h
  rw [Bool.and_eq_true, Bool.and_eq_true, Bool.and_eq_true, decide_eq_true_iff, decide_eq_true_iff] at h
  obtain ⟨⟨⟨h1, h2⟩, h3⟩, h4⟩ := h
  obtain ⟨h5, h6⟩ := vf_len h1
  have key : ∀ m ∈ x.a ++ x.b, matFit m := by
    cases hl : x.a ++ x.b with
    | nil => intro m hm; cases hm
    | cons m0 l =>
      rw [hl] at h4
      have h7 : (m0 :: l).all (matN m0.length) = true := h4
      rw [List.all_eq_true] at h7
      intro m hm
      have h8 := h7 m hm
      unfold matN inR at h8
      simp at h8
      obtain ⟨⟨h9, h10, h11⟩, h12⟩ := h8
      exact ⟨by omega, fun r hr => by have := h12 r hr; omega⟩
  exact ⟨h5, h6, h2, h3, fun m hm => key m (List.mem_append_left _ hm), fun m hm => key m (List.mem_append_right _ hm)⟩
end Go.Proofs.YtpnfdlnhmhekeaaGreat
namespace Go.Proofs.YtpnfdlnhmhekeaaGreat
open Go.RowKit
noncomputable def mergeregion12 : Code := (Tryz.f9.body.bind (findRegion 12)).getD .skip
set_option maxRecDepth 100000 in
set_option maxHeartbeats 6400000 in
theorem mergereg12 (w : World) (g2 g3 b1 o1 b2 o2 n ca m cb i k e : Nat) (x y : CQ) (s0 s2 t0 t2 : Bool) (a1 a3 a4 d1 d3 d4 : Option Addr) (l1 m1 l3 m3 l4 m4 p1 q1 p3 q3 p4 q4 : Nat) {R : Act → World → Prop} {u0 u1 u4 u5 u6 u9 u10 u11 u12 u13 u14 u15 u16 u17 u18 u19 u20 u21 u22 u23 u24 u25 u26 u27 u28 u29 u30 u31 u32 u33 u34 u35 u36 u37 u38 u39 u40 u41 u42 u43 u44 u45 u46 u47 u48 u49 u50 u51 u52 u53 u54 u55 u56 u57 u58 u59 u60 u61 u62 u63 u64 u65 u66 u67 u68 u69 u70 u71 u72 u73 u74 u75 u76 u77 u78 u79 u80 u81 u82 u83 u84 u85 u86 u87 : Value}
    (hi : i < n) (hn : n ≤ 100000) (hk : k < m) (hm : m ≤ 100000) (hs1 : Small e x) (hs2 : Small e y) (he : e ≤ 100000)
    (hx : NumRep w (.agg #[.bool s0, .slice a1 l1 m1, .bool s2, .slice a3 l3 m3, .slice a4 l4 m4]) x) (hy : NumRep w (.agg #[.bool t0, .slice d1 p1 q1, .bool t2, .slice d3 p3 q3, .slice d4 p4 q4]) y)
    (c2 : w.cell? ⟨g2, 0, none⟩ = some (.slice (some ⟨b1, o1, none⟩) n ca)) (c3 : w.cell? ⟨g3, 0, none⟩ = some (.slice (some ⟨b2, o2, none⟩) m cb)) (e0 : w.cell? ⟨b1, o1 + i * 5, none⟩ = some (.bool s0)) (e1 : w.cell? ⟨b1, o1 + i * 5 + 1, none⟩ = some (.slice a1 l1 m1)) (e2 : w.cell? ⟨b1, o1 + i * 5 + 2, none⟩ = some (.bool s2)) (e3 : w.cell? ⟨b1, o1 + i * 5 + 3, none⟩ = some (.slice a3 l3 m3)) (e4 : w.cell? ⟨b1, o1 + i * 5 + 4, none⟩ = some (.slice a4 l4 m4)) (f0 : w.cell? ⟨b2, o2 + k * 5, none⟩ = some (.bool t0)) (f1 : w.cell? ⟨b2, o2 + k * 5 + 1, none⟩ = some (.slice d1 p1 q1)) (f2 : w.cell? ⟨b2, o2 + k * 5 + 2, none⟩ = some (.bool t2)) (f3 : w.cell? ⟨b2, o2 + k * 5 + 3, none⟩ = some (.slice d3 p3 q3)) (f4 : w.cell? ⟨b2, o2 + k * 5 + 4, none⟩ = some (.slice d4 p4 q4))
    (hQ : ∀ (w' : World) (x55 x56 x57 x58 x59 x60 x61 x62 x63 x64 x65 : Value), Below w.heap.size w w' → R ⟨List.toArray (u0 :: u1 :: .pointer (some ⟨g2, 0, none⟩) :: .pointer (some ⟨g3, 0, none⟩) :: u4 :: u5 :: u6 :: .int .i64 (i : Int) :: .int .i64 (k : Int) :: .int .i64 (qcmp x y) :: u10 :: u11 :: u12 :: u13 :: u14 :: u15 :: u16 :: u17 :: u18 :: u19 :: u20 :: u21 :: u22 :: u23 :: u24 :: u25 :: u26 :: u27 :: u28 :: u29 :: u30 :: u31 :: u32 :: u33 :: u34 :: u35 :: u36 :: u37 :: u38 :: u39 :: u40 :: u41 :: u42 :: u43 :: u44 :: u45 :: u46 :: u47 :: u48 :: u49 :: u50 :: u51 :: u52 :: u53 :: u54 :: x55 :: x56 :: x57 :: x58 :: x59 :: x60 :: x61 :: x62 :: x63 :: x64 :: x65 :: u66 :: u67 :: u68 :: u69 :: u70 :: u71 :: u72 :: u73 :: u74 :: u75 :: u76 :: u77 :: u78 :: u79 :: u80 :: u81 :: u82 :: u83 :: u84 :: u85 :: u86 :: u87 :: []), []⟩ w') :
    Code.wp Tryz.prog mergeregion12 (Only R) ⟨List.toArray (u0 :: u1 :: .pointer (some ⟨g2, 0, none⟩) :: .pointer (some ⟨g3, 0, none⟩) :: u4 :: u5 :: u6 :: .int .i64 (i : Int) :: .int .i64 (k : Int) :: u9 :: u10 :: u11 :: u12 :: u13 :: u14 :: u15 :: u16 :: u17 :: u18 :: u19 :: u20 :: u21 :: u22 :: u23 :: u24 :: u25 :: u26 :: u27 :: u28 :: u29 :: u30 :: u31 :: u32 :: u33 :: u34 :: u35 :: u36 :: u37 :: u38 :: u39 :: u40 :: u41 :: u42 :: u43 :: u44 :: u45 :: u46 :: u47 :: u48 :: u49 :: u50 :: u51 :: u52 :: u53 :: u54 :: u55 :: u56 :: u57 :: u58 :: u59 :: u60 :: u61 :: u62 :: u63 :: u64 :: u65 :: u66 :: u67 :: u68 :: u69 :: u70 :: u71 :: u72 :: u73 :: u74 :: u75 :: u76 :: u77 :: u78 :: u79 :: u80 :: u81 :: u82 :: u83 :: u84 :: u85 :: u86 :: u87 :: []), []⟩ w := by
  conv => arg 2; whnf
  have hkw : Below w.heap.size w w.drew := (Below.refl _ _).drew
  have HC := Lib.hid (ncmp_spec _ _ x y e w.drew (hx.below hkw (Nat.le_refl _)) (hy.below hkw (Nat.le_refl _)) hs1 hs2 (by omega))
  clear hx hy hs1 hs2
  have lt2 := World.block_lt_of_cell? w _ c2
  have lt3 := World.block_lt_of_cell? w _ c3
  have ltx := World.block_lt_of_cell? w _ e0
  have lty := World.block_lt_of_cell? w _ f0
  have hin : (i : Int) < (n : Int) := by omega
  have hkm : (k : Int) < (m : Int) := by omega
  have hi0 : (0 : Int) ≤ (i : Int) := by omega
  have hk0 : (0 : Int) ≤ (k : Int) := by omega
  have Gc2 := Lib.hid c2; have Gc3 := Lib.hid c3; have Ge0 := Lib.hid e0; have Ge1 := Lib.hid e1; have Ge2 := Lib.hid e2; have Ge3 := Lib.hid e3; have Ge4 := Lib.hid e4; have Gf0 := Lib.hid f0; have Gf1 := Lib.hid f1; have Gf2 := Lib.hid f2; have Gf3 := Lib.hid f3; have Gf4 := Lib.hid f4
  have tok1 : True := trivial
  go_region_held3 (fun w' => w'.cell? ⟨g2, 0, none⟩ = some (.slice (some ⟨b1, o1, none⟩) n ca) ∧ w'.cell? ⟨g3, 0, none⟩ = some (.slice (some ⟨b2, o2, none⟩) m cb) ∧ w'.cell? ⟨b1, o1 + i * 5, none⟩ = some (.bool s0) ∧ w'.cell? ⟨b1, o1 + i * 5 + 1, none⟩ = some (.slice a1 l1 m1) ∧ w'.cell? ⟨b1, o1 + i * 5 + 2, none⟩ = some (.bool s2) ∧ w'.cell? ⟨b1, o1 + i * 5 + 3, none⟩ = some (.slice a3 l3 m3) ∧ w'.cell? ⟨b1, o1 + i * 5 + 4, none⟩ = some (.slice a4 l4 m4) ∧ w'.cell? ⟨b2, o2 + k * 5, none⟩ = some (.bool t0) ∧ w'.cell? ⟨b2, o2 + k * 5 + 1, none⟩ = some (.slice d1 p1 q1) ∧ w'.cell? ⟨b2, o2 + k * 5 + 2, none⟩ = some (.bool t2) ∧ w'.cell? ⟨b2, o2 + k * 5 + 3, none⟩ = some (.slice d3 p3 q3) ∧ w'.cell? ⟨b2, o2 + k * 5 + 4, none⟩ = some (.slice d4 p4 q4)) (first | (with_reducible exact ⟨c2, c3, e0, e1, e2, e3, e4, f0, f1, f2, f3, f4⟩) | (simp [go_sem, c2, c3, e0, e1, e2, e3, e4, f0, f1, f2, f3, f4, lt2, lt3, ltx, lty]; done)) (first
    | (go_simp; go_at_call 38; have _t := tok1; (with_reducible refine HC.out.mono ?_); rintro e1 W1 ⟨_, rfl, rfl, hbx1⟩; have hbb1 : Below w.heap.size w W1 := hkw.trans hbx1; have c2 := (hbb1.cell (World.block_lt_of_cell? w _ Gc2.out)).trans Gc2.out; have c3 := (hbb1.cell (World.block_lt_of_cell? w _ Gc3.out)).trans Gc3.out; have e0 := (hbb1.cell (World.block_lt_of_cell? w _ Ge0.out)).trans Ge0.out; have e1 := (hbb1.cell (World.block_lt_of_cell? w _ Ge1.out)).trans Ge1.out; have e2 := (hbb1.cell (World.block_lt_of_cell? w _ Ge2.out)).trans Ge2.out; have e3 := (hbb1.cell (World.block_lt_of_cell? w _ Ge3.out)).trans Ge3.out; have e4 := (hbb1.cell (World.block_lt_of_cell? w _ Ge4.out)).trans Ge4.out; have f0 := (hbb1.cell (World.block_lt_of_cell? w _ Gf0.out)).trans Gf0.out; have f1 := (hbb1.cell (World.block_lt_of_cell? w _ Gf1.out)).trans Gf1.out; have f2 := (hbb1.cell (World.block_lt_of_cell? w _ Gf2.out)).trans Gf2.out; have f3 := (hbb1.cell (World.block_lt_of_cell? w _ Gf3.out)).trans Gf3.out; have f4 := (hbb1.cell (World.block_lt_of_cell? w _ Gf4.out)).trans Gf4.out; have lt2 := World.block_lt_of_cell? W1 _ c2; have lt3 := World.block_lt_of_cell? W1 _ c3; have ltx := World.block_lt_of_cell? W1 _ e0; have lty := World.block_lt_of_cell? W1 _ f0; clear tok1 _t))
  all_goals
    show R _ _
    exact hQ _ _ _ _ _ _ _ _ _ _ _ _ hbb1
end Go.Proofs.YtpnfdlnhmhekeaaGreat
namespace Go.Proofs.YtpnfdlnhmhekeaaGreat
open Go.RowKit
theorem zeroW (w : World) : WvT w (.agg #[.slice none 0 0, .slice none 0 0, .slice none 0 0]) (Wv.of []) := ⟨_, _, _, rfl, nil_slT, nil_slT, nil_slT⟩
theorem below3 {B : Nat} {a w : World} {g : Nat} {v0 v1 v2 : Value} (h : Below B a w) (hg : B ≤ g) : Below B a (((w.setCell ⟨g, 0, none⟩ v0).setCell ⟨g, 1, none⟩ v1).setCell ⟨g, 2, none⟩ v2) := ((h.setCell hg _).setCell hg _).setCell hg _
def SweepRet (e : Nat) (x : Wv) (w : World) (r : Value) : Prop := ∃ z, r = .tuple #[z, .int .i64 (e : Int)] ∧ WvT w z x
theorem out_box {w : World} {g base : Nat} {sf sa sb : Value} {x : Wv} (h : OutP w g base sf sa sb x.fr x.a x.b) {h4 : Nat} {cs : List Value} (o4 : Own w 33 h4 cs) (hl : cs.length = 3) :
    WvT (((w.setCell ⟨h4, 0, none⟩ sf).setCell ⟨h4, 1, none⟩ sa).setCell ⟨h4, 2, none⟩ sb) (.agg #[sf, sa, sb]) x := by
  have h1 := h.rows.set (i := 0) (y := sf) o4 hl
  have h2 := h1.set (i := 1) (y := sa) (o4.set 0 sf) (by simpa using hl)
  have h3 := h2.set (i := 2) (y := sb) ((o4.set 0 sf).set 1 sa) (by simpa using hl)
  exact ⟨_, _, _, rfl, h3.rf.slT, NumStP.plain h3.ra.slT, NumStP.plain h3.rb.slT⟩
theorem first_len {l : List (List (List CQ))} {m : List (List CQ)} (h : l[0]? = some m) : (l.getD 0 []).length = m.length := by simp [List.getD, h]
set_option maxRecDepth 100000 in
set_option maxHeartbeats 6400000 in
theorem merge_spec (vv wv : Value) (v u : Wv) (e : Nat) (w : World) (hv : WvT w vv v) (hu : WvT w wv u) (hsv : ∀ y ∈ v.fr, Small e y) (hsu : ∀ y ∈ u.fr, Small e y) (he : e ≤ 100000) :
    Calls Tryz.prog 9 #[vv, wv] w (Ret w (SweepRet (mergeErr v u) (mergeRes v u))) := by
  have HVV := Lib.hid (fun w h => validWaves_spec vv v e w h hsv he)
  have HVU := Lib.hid (fun w h => validWaves_spec wv u e w h hsu he)
  have HPV := Lib.hid (vw_parts (x := v))
  have HPU := Lib.hid (vw_parts (x := u))
  have HSV := Lib.hid hsv
  have HSU := Lib.hid hsu
  have HV0 := Lib.hid hv
  have HU0 := Lib.hid hu
  clear hsv hsu
  obtain ⟨vf, va, vb, rfl, hvf, hva, hvb⟩ := hv
  obtain ⟨uf, ua, ub, rfl, huf, hua, hub⟩ := hu
  obtain ⟨afv, cfv, rfl, -, -⟩ := hvf.dims
  obtain ⟨aav, cav, rfl, -, -⟩ := hva.dims
  obtain ⟨abv, cbv, rfl, -, -⟩ := hvb.dims
  obtain ⟨afu, cfu, rfl, -, -⟩ := huf.dims
  obtain ⟨aau, cau, rfl, -, -⟩ := hua.dims
  obtain ⟨abu, cbu, rfl, -, -⟩ := hub.dims
  by_cases h1 : vwB v = true
  · by_cases h2 : vwB u = true
    · obtain ⟨hn0, hn1, hna, hnb, hfa, hfb⟩ := HPV.out h1
      obtain ⟨hm0, hm1, hma, hmb, hga, hgb⟩ := HPU.out h2
      obtain ⟨A0, hA0⟩ : ∃ A0, v.a[0]? = some A0 := ⟨_, List.getElem?_eq_getElem (by omega)⟩
      obtain ⟨B0, hB0⟩ : ∃ B0, u.a[0]? = some B0 := ⟨_, List.getElem?_eq_getElem (by omega)⟩
      obtain ⟨bf, of', _, _, _, _, _, _, _, _, _, _, _, rfl, hbf, -⟩ := hvf.num (List.getElem?_eq_getElem (show 0 < v.fr.length by omega))
      obtain ⟨bu, ou, _, _, _, _, _, _, _, _, _, _, _, rfl, hbu, -⟩ := huf.num (List.getElem?_eq_getElem (show 0 < u.fr.length by omega))
      obtain ⟨b1, o1, a1, c1, rfl, l1, q1, -, hc1, hc12⟩ := hva.mat hA0
      obtain ⟨b2, o2', a2, c2, rfl, l2, q2, -, hc2, hc22⟩ := hua.mat hB0
      rw [Nat.add_zero] at q1 q2
      obtain ⟨p, hp⟩ : ∃ p, A0.length = p := ⟨_, rfl⟩
      obtain ⟨q, hq⟩ : ∃ q, B0.length = q := ⟨_, rfl⟩
      rw [hp] at q1 hc1
      rw [hq] at q2 hc2
      have hd1 : (v.a.getD 0 []).length = p := by rw [first_len hA0, hp]
      have hd2 : (u.a.getD 0 []).length = q := by rw [first_len hB0, hq]
      rw [h1] at HVV
      rw [h2] at HVU
      obtain ⟨n, hn⟩ : ∃ n, v.fr.length = n := ⟨_, rfl⟩
      obtain ⟨m, hm⟩ : ∃ m, u.fr.length = m := ⟨_, rfl⟩
      rw [hna, hnb, hn] at HVV HV0
      rw [hma, hmb, hm] at HVU HU0
      have HVF := Lib.hid hvf
      have HUF := Lib.hid huf
      rw [hn] at HVF
      rw [hm] at HUF
      have HPn := Lib.hid (show v.pts.length = n by rw [Wv.pts_len, hn])
      have HPm := Lib.hid (show u.pts.length = m by rw [Wv.pts_len, hm])
      have HPA := Lib.hid (fun i p h => Wv.pts_at (x := v) (i := i) (p := p) h hna hnb)
      have HPB := Lib.hid (fun i p h => Wv.pts_at (x := u) (i := i) (p := p) h hma hmb)
      have HLA := Lib.hid (And.intro hna hnb)
      have HLB := Lib.hid (And.intro hma hmb)
      have HFA := Lib.hid (And.intro hfa hfb)
      have HFB := Lib.hid (And.intro hga hgb)
      have HE4 := Lib.hid (show ¬ p = q → mergeErr v u = 4 ∧ mergeRes v u = Wv.of [] from fun h => by
        have hE : mergeErr v u = 4 := by unfold mergeErr; rw [if_pos ⟨h1, h2⟩, hd1, hd2, if_neg h]
        exact ⟨hE, by unfold mergeRes; rw [hE]; rfl⟩)
      have HE8 := Lib.hid (show p = q → mergeP v.pts u.pts = none → mergeErr v u = 8 ∧ mergeRes v u = Wv.of [] from fun h hn => by
        have hE : mergeErr v u = 8 := by unfold mergeErr; rw [if_pos ⟨h1, h2⟩, hd1, hd2, if_pos h, hn]
        exact ⟨hE, by unfold mergeRes; rw [hE]; rfl⟩)
      have HE0 := Lib.hid (show p = q → ∀ l, mergeP v.pts u.pts = some l → l.length ≤ 1024 → mergeErr v u = 0 ∧ mergeRes v u = Wv.of l from fun h l hl hle => by
        have hE : mergeErr v u = 0 := by unfold mergeErr; rw [if_pos ⟨h1, h2⟩, hd1, hd2, if_pos h, hl]; exact if_pos hle
        exact ⟨hE, by unfold mergeRes; rw [hE, if_pos rfl, hl]; rfl⟩)
      have HE9 := Lib.hid (show p = q → ∀ l, mergeP v.pts u.pts = some l → ¬ l.length ≤ 1024 → mergeErr v u = 9 ∧ mergeRes v u = Wv.of [] from fun h l hl hle => by
        have hE : mergeErr v u = 9 := by unfold mergeErr; rw [if_pos ⟨h1, h2⟩, hd1, hd2, if_pos h, hl]; exact if_neg hle
        exact ⟨hE, by unfold mergeRes; rw [hE]; rfl⟩)
      rw [hn] at hn0 hn1
      rw [hm] at hm0 hm1
      have HLn := Lib.hid hn
      have HLm := Lib.hid hm
      clear h1 h2 hd1 hd2 hp hq hA0 hB0 hna hnb hfa hfb hma hmb hga hgb HPV HPU hvf hva hvb huf hua hub hn hm
      generalize mergeErr v u = E at *
      generalize mergeRes v u = X at *
      rw [HLn.out, HLA.out.1, HLA.out.2, HLm.out, HLB.out.1, HLB.out.2]
      rw [HLn.out, HLm.out]
      go_enter Tryz.func9, Tryz.ntmps9
      go_upto_region 1 with (fail)
      obtain ⟨W, hW, o2, o3, o4, hB, hS⟩ := boxes3 w 33 33 33 [.slice (some ⟨bf, of', none⟩) n cfv, .slice (some ⟨b1, o1, none⟩) n cav, .slice abv n cbv] [.slice (some ⟨bu, ou, none⟩) m cfu, .slice (some ⟨b2, o2', none⟩) m cau, .slice abu m cbu] [.slice none 0 0, .slice none 0 0, .slice none 0 0]
      rw [← hW]
      clear hW
      have fo2 := o2.free; have co20 := o2.cell 0 _ rfl; have co21 := o2.cell 1 _ rfl; have co22 := o2.cell 2 _ rfl; have fo3 := o3.free; have co30 := o3.cell 0 _ rfl; have co31 := o3.cell 1 _ rfl; have co32 := o3.cell 2 _ rfl; have fo4 := o4.free; have co40 := o4.cell 0 _ rfl; have co41 := o4.cell 1 _ rfl; have co42 := o4.cell 2 _ rfl
      go_wp2_with fail
      refine (HVV.out W (HV0.out.below hB (Nat.le_refl _))).mono ?_
      rintro e1 W1 ⟨_, rfl, rfl, hb1⟩
      clear co20 co21 co22 fo2 co30 co31 co32 fo3 co40 co41 co42 fo4
      have hsW1 : W.heap.size ≤ W1.heap.size := hb1.size; have hB := hB.trans (hb1.mono hB.size); have o2 := o2.below hb1 o2.lt; have o3 := o3.below hb1 o3.lt; have o4 := o4.below hb1 o4.lt; have fo2 := o2.free; have co20 := o2.cell 0 _ rfl; have co21 := o2.cell 1 _ rfl; have co22 := o2.cell 2 _ rfl; have fo3 := o3.free; have co30 := o3.cell 0 _ rfl; have co31 := o3.cell 1 _ rfl; have co32 := o3.cell 2 _ rfl
      go_wp2_with fail
      refine (HVU.out W1 (HU0.out.below hB (Nat.le_refl _))).mono ?_
      rintro e1 W2 ⟨_, rfl, rfl, hb2⟩
      clear co20 co21 co22 fo2 co30 co31 co32 fo3
      have hsW2 : W1.heap.size ≤ W2.heap.size := hb2.size; have hB := hB.trans (hb2.mono hB.size); have o2 := o2.below hb2 o2.lt; have o3 := o3.below hb2 o3.lt; have o4 := o4.below hb2 o4.lt
      have d1 : W2.cell? ⟨b1, o1, none⟩ = some (.slice a1 p c1) := (hB.cell l1).trans q1
      have d2 : W2.cell? ⟨b2, o2', none⟩ = some (.slice a2 q c2) := (hB.cell l2).trans q2
      have co21 := o2.cell 1 _ rfl
      have co31 := o3.cell 1 _ rfl
      go_upto_region 3 with (fail)
      go_region_held3 (fun w' => w'.cell? ⟨w.heap.size, 1, none⟩ = some (.slice (some ⟨b1, o1, none⟩) n cav) ∧ w'.cell? ⟨w.heap.size + 1, 1, none⟩ = some (.slice (some ⟨b2, o2', none⟩) m cau) ∧ w'.cell? ⟨b1, o1, none⟩ = some (.slice a1 p c1) ∧ w'.cell? ⟨b2, o2', none⟩ = some (.slice a2 q c2)) (exact ⟨co21, co31, d1, d2⟩) (fail)
      have hB2 := hB.drew
      have o22 : Own W2.drew 33 _ _ := o2
      have o32 : Own W2.drew 33 _ _ := o3
      have o42 : Own W2.drew 33 _ _ := o4
      clear co21 co31 d1 d2 o2 o3 o4 hB
      obtain ⟨W3, hW3⟩ : ∃ W3 : World, W3 = W2.drew := ⟨_, rfl⟩
      rw [← hW3] at o22 o32 o42 hB2
      rw [← hW3]
      clear hW3
      by_cases hpq : p = q
      · subst hpq
        try simp only [bne_self_eq_false]
        clear HE4
        have HE8' := Lib.hid (HE8.out rfl)
        have HE0' := Lib.hid (HE0.out rfl)
        have HE9' := Lib.hid (HE9.out rfl)
        clear HE8 HE0 HE9
        go_upto_region 6 with (fail)
        obtain ⟨V, hV, o6, hBV, hSV⟩ := boxes1 W3 33 [.slice none 0 0, .slice none 0 0, .slice none 0 0]
        rw [← hV]
        clear hV
        have hO0 : OutW V W3.heap.size V.heap.size (Wv.of []) := ⟨_, _, _, ⟨o6, RowOf.nil _ _ _ _ _, RowOf.nil _ _ _ _ _, RowOf.nil _ _ _ _ _, .inl rfl, o6.lt, Nat.le_refl _⟩⟩
        have h3g := o42.lt
        have o22 := o22.below hBV o22.lt; have o32 := o32.below hBV o32.lt; have o42 := o42.below hBV o42.lt
        have hB3 := hB2.trans (hBV.mono hB2.size)
        have hw3 : w.heap.size ≤ W3.heap.size := hB2.size
        generalize W3.heap.size = g6 at *
        have hbase : g6 < V.heap.size := o6.lt
        clear o6 hBV hSV
        go_wp2_with fail
        go_loopw [7, 8] (fun si sk wr => ∃ (i k : Nat) (P : List Pt), i ≤ n ∧ k ≤ m ∧ si = .int .i64 (i : Int) ∧ sk = .int .i64 (k : Int) ∧ OutW wr g6 V.heap.size (Wv.of P) ∧ P.length = i + k ∧ Below g6 V wr ∧ Hid (mergeP v.pts u.pts = (mergeP (v.pts.drop i) (u.pts.drop k)).map (P ++ ·))) (fun si sk _ => (n - (intOf si).toNat) + (m - (intOf sk).toNat))
        case atStart => exact ⟨0, 0, [], Nat.zero_le _, Nat.zero_le _, rfl, rfl, hO0, rfl, Below.refl _ _, (by simp : mergeP v.pts u.pts = (mergeP (v.pts.drop 0) (u.pts.drop 0)).map ([] ++ ·))⟩
        case round =>
          clear hO0
          obtain ⟨i, k, P, hi, hk, rfl, rfl, hO, hPl, hBL, hM⟩ := hrel
          have r2 := o22.below hBL (by omega)
          have r3 := o32.below hBL (by omega)
          have hBW : Below w.heap.size w wr := hB3.trans (hBL.mono hw3)
          by_cases hin : i < n
          · obtain ⟨X1, hX1⟩ : ∃ x, v.pts[i]? = some x := ⟨_, List.getElem?_eq_getElem (by have := HPn.out; omega)⟩
            obtain ⟨x1, x2, x3⟩ := HPA.out i X1 hX1
            by_cases hkm : k < m
            · obtain ⟨Y1, hY1⟩ : ∃ x, u.pts[k]? = some x := ⟨_, List.getElem?_eq_getElem (by have := HPm.out; omega)⟩
              obtain ⟨y1, y2, y3⟩ := HPB.out k Y1 hY1
              obtain ⟨b', o', s0, s2, a1', a3, a4, j1, m1, j3, m3, j4, m4, hab, -, hrep, e0, e1, e2, e3, e4⟩ := (HVF.out.below hBW (Nat.le_refl _)).num x1
              injection hab with hab
              injection hab with hb1' ho1' _
              subst hb1' ho1'
              obtain ⟨b'', o'', t0, t2, d1, d3, d4, p1, r1, p3, r3', p4, r4, hab2, -, hrep2, f0, f1, f2, f3, f4⟩ := (HUF.out.below hBW (Nat.le_refl _)).num y1
              injection hab2 with hab2
              injection hab2 with hb2' ho2' _
              subst hb2' ho2'
              have hsx := HSV.out _ (List.mem_of_getElem? x1)
              have hsy := HSU.out _ (List.mem_of_getElem? y1)
              have K2 := Lib.hid r2
              have K3 := Lib.hid r3
              have KO := Lib.hid hO
              have KX := Lib.hid (And.intro x1 (And.intro x2 x3))
              have KY := Lib.hid (And.intro y1 (And.intro y2 y3))
              have fr2 := r2.free; have cr20 := r2.cell 0 _ rfl; have cr21 := r2.cell 1 _ rfl; have cr22 := r2.cell 2 _ rfl; have fr3 := r3.free; have cr30 := r3.cell 0 _ rfl; have cr31 := r3.cell 1 _ rfl; have cr32 := r3.cell 2 _ rfl
              go_upto_region 12 with (fail)
              clear cr20 cr21 cr22 cr30 cr31 cr32 fr2 fr3
              refine only_of (mergereg12 wr w.heap.size (w.heap.size + 1) bf of' bu ou n cfv m cfu i k e X1.f Y1.f s0 s2 t0 t2 a1' a3 a4 d1 d3 d4 j1 m1 j3 m3 j4 m4 p1 r1 p3 r3' p4 r4 hin (by omega) hkm (by omega) hsx hsy he hrep hrep2 (r2.cell 0 _ rfl) (r3.cell 0 _ rfl) e0 e1 e2 e3 e4 f0 f1 f2 f3 f4 ?_)
              clear hrep hrep2 e0 e1 e2 e3 e4 f0 f1 f2 f3 f4 hsx hsy r2 r3 hO x1 x2 x3 y1 y2 y3
              intro W6 z55 z56 z57 z58 z59 z60 z61 z62 z63 z64 z65 hb6
              try simp only [Exit.then]
              have hO := KO.out.below hb6
              have hwrs := KO.out
              have hg6r : g6 < wr.heap.size := by obtain ⟨_, _, _, h⟩ := KO.out; exact h.box.lt
              clear hwrs
              have r2 := K2.out.below hb6 (by omega)
              have r3 := K3.out.below hb6 (by omega)
              have r4 := (o42.below hBL (by omega)).below hb6 (by omega)
              have hBL6 : Below g6 V W6 := hBL.trans (hb6.mono (by omega))
              have hBW6 : Below w.heap.size w W6 := hBW.trans (hb6.mono (by omega))
              obtain ⟨x1, x2, x3⟩ := KX.out
              obtain ⟨y1, y2, y3⟩ := KY.out
              obtain ⟨z, hz⟩ : ∃ z, qcmp X1.f Y1.f = z := ⟨_, rfl⟩
              rw [hz]
              by_cases hz0 : z = 0
              · subst hz0
                have hno := hM.out
                rw [mergeP_twice hX1 hY1 hz] at hno
                obtain ⟨rfl, rfl⟩ := HE8'.out hno
                clear hno hM hX1 hY1 x1 x2 x3 y1 y2 y3 hO hz KX KY KO K2 K3 HE8' HE0' HE9'
                have fr4 := r4.free; have cr40 := r4.cell 0 _ rfl; have cr41 := r4.cell 1 _ rfl; have cr42 := r4.cell 2 _ rfl
                go_wp2_with fail
                exact bodyPost_ret (by simp [results, Tryz.results9, go_sem, cr40, cr41, cr42]) rfl ⟨_, rfl, ⟨_, rfl, zeroW _⟩, below3 hBW6 (by omega)⟩
              · by_cases hz1 : z = -1
                · subst hz1
                  have hM2 : Hid (mergeP v.pts u.pts = (mergeP (v.pts.drop (i + 1)) (u.pts.drop k)).map ((P ++ [X1]) ++ ·)) := show _ = _ by
                    have hstep := hM.out.trans (congrArg (Option.map (P ++ ·)) (mergeP_left hX1 (.inr ⟨Y1, hY1, hz⟩)))
                    rw [Option.map_map] at hstep
                    rw [hstep]
                    congr 1
                    funext l
                    simp
                  have HPUT := Lib.hid (put_spec g6 V.heap.size i _ v (Wv.of P) X1.f X1.a X1.b w W6 hO HV0.out hBW6 hw3 x1 x2 x3 (HFA.out.1 _ (List.mem_of_getElem? x2)) (HFA.out.2 _ (List.mem_of_getElem? x3)) (by have := HLn.out; omega) (by have := HLn.out; have := HLA.out.1; omega) (by have := HLn.out; have := HLA.out.2; omega) (i + k) (by simp [Wv.of, hPl]) (by simp [Wv.of, hPl]) (by simp [Wv.of, hPl]) (by omega))
                  rw [← Wv.of_snoc] at HPUT
                  have hPl2 : (P ++ [X1]).length = i + 1 + k := by simp [hPl]; omega
                  clear hM hX1 hY1 x1 x2 x3 y1 y2 y3 hO hz KX KY KO K2 K3 r4
                  have fr2 := r2.free; have cr20 := r2.cell 0 _ rfl; have cr21 := r2.cell 1 _ rfl; have cr22 := r2.cell 2 _ rfl; have fr3 := r3.free; have cr30 := r3.cell 0 _ rfl; have cr31 := r3.cell 1 _ rfl; have cr32 := r3.cell 2 _ rfl
                  go_wp2_with fail
                  refine HPUT.out.mono ?_
                  rintro e1 W7 ⟨⟨rr, rfl⟩, hO7, hb7⟩
                  clear cr20 cr21 cr22 cr30 cr31 cr32 fr2 fr3 r2 r3
                  go_wp2_with fail
                  go_roundw
                  case rel => first | exact ⟨i + 1, k, P ++ [X1], by omega, by omega, by go_num, rfl, hO7, hPl2, hBL6.trans hb7, hM2⟩ | ((repeat apply Exists.intro); exact ⟨⟨i + 1, k, P ++ [X1], by omega, by omega, by go_num, rfl, hO7, hPl2, hBL6.trans hb7, hM2⟩, rfl⟩)
                  case measure => simp [intOf]; omega
                · have hM2 : Hid (mergeP v.pts u.pts = (mergeP (v.pts.drop i) (u.pts.drop (k + 1))).map ((P ++ [Y1]) ++ ·)) := show _ = _ by
                    have hstep := hM.out.trans (congrArg (Option.map (P ++ ·)) (mergeP_right hY1 (.inr ⟨X1, hX1, by rw [hz]; exact hz0, by rw [hz]; exact hz1⟩)))
                    rw [Option.map_map] at hstep
                    rw [hstep]
                    congr 1
                    funext l
                    simp
                  have HPUT := Lib.hid (put_spec g6 V.heap.size k _ u (Wv.of P) Y1.f Y1.a Y1.b w W6 hO HU0.out hBW6 hw3 y1 y2 y3 (HFB.out.1 _ (List.mem_of_getElem? y2)) (HFB.out.2 _ (List.mem_of_getElem? y3)) (by have := HLm.out; omega) (by have := HLm.out; have := HLB.out.1; omega) (by have := HLm.out; have := HLB.out.2; omega) (i + k) (by simp [Wv.of, hPl]) (by simp [Wv.of, hPl]) (by simp [Wv.of, hPl]) (by omega))
                  rw [← Wv.of_snoc] at HPUT
                  have hPl2 : (P ++ [Y1]).length = i + (k + 1) := by simp [hPl]; omega
                  clear hM hX1 hY1 x1 x2 x3 y1 y2 y3 hO hz KX KY KO K2 K3 r4
                  have fr2 := r2.free; have cr20 := r2.cell 0 _ rfl; have cr21 := r2.cell 1 _ rfl; have cr22 := r2.cell 2 _ rfl; have fr3 := r3.free; have cr30 := r3.cell 0 _ rfl; have cr31 := r3.cell 1 _ rfl; have cr32 := r3.cell 2 _ rfl
                  go_wp2_with fail
                  refine HPUT.out.mono ?_
                  rintro e1 W7 ⟨⟨rr, rfl⟩, hO7, hb7⟩
                  clear cr20 cr21 cr22 cr30 cr31 cr32 fr2 fr3 r2 r3
                  go_wp2_with fail
                  go_roundw
                  case rel => first | exact ⟨i, k + 1, P ++ [Y1], by omega, by omega, rfl, by go_num, hO7, hPl2, hBL6.trans hb7, hM2⟩ | ((repeat apply Exists.intro); exact ⟨⟨i, k + 1, P ++ [Y1], by omega, by omega, rfl, by go_num, hO7, hPl2, hBL6.trans hb7, hM2⟩, rfl⟩)
                  case measure => simp [intOf]; omega
            · obtain rfl : k = m := by omega
              have hstep := hM.out.trans (congrArg (Option.map (P ++ ·)) (mergeP_left hX1 (.inl HPm.out)))
              rw [Option.map_map] at hstep
              have hM2 : Hid (mergeP v.pts u.pts = (mergeP (v.pts.drop (i + 1)) (u.pts.drop k)).map ((P ++ [X1]) ++ ·)) := show _ = _ by
                rw [hstep]
                congr 1
                funext l
                simp
              have HPUT := Lib.hid (put_spec g6 V.heap.size i _ v (Wv.of P) X1.f X1.a X1.b w wr hO HV0.out hBW hw3 x1 x2 x3 (HFA.out.1 _ (List.mem_of_getElem? x2)) (HFA.out.2 _ (List.mem_of_getElem? x3)) (by have := HLn.out; omega) (by have := HLn.out; have := HLA.out.1; omega) (by have := HLn.out; have := HLA.out.2; omega) (i + k) (by simp [Wv.of, hPl]) (by simp [Wv.of, hPl]) (by simp [Wv.of, hPl]) (by omega))
              rw [← Wv.of_snoc] at HPUT
              have hPl2 : (P ++ [X1]).length = i + 1 + k := by simp [hPl]; omega
              clear hM hstep hX1 x1 x2 x3 hO
              have fr2 := r2.free; have cr20 := r2.cell 0 _ rfl; have cr21 := r2.cell 1 _ rfl; have cr22 := r2.cell 2 _ rfl; have fr3 := r3.free; have cr30 := r3.cell 0 _ rfl; have cr31 := r3.cell 1 _ rfl; have cr32 := r3.cell 2 _ rfl
              go_wp2_with fail
              refine HPUT.out.mono ?_
              rintro e1 W7 ⟨⟨rr, rfl⟩, hO7, hb7⟩
              clear cr20 cr21 cr22 cr30 cr31 cr32 fr2 fr3 r2 r3
              go_wp2_with fail
              go_roundw
              case rel => first | exact ⟨i + 1, k, P ++ [X1], by omega, by omega, by go_num, rfl, hO7, hPl2, hBL.trans hb7, hM2⟩ | ((repeat apply Exists.intro); exact ⟨⟨i + 1, k, P ++ [X1], by omega, by omega, by go_num, rfl, hO7, hPl2, hBL.trans hb7, hM2⟩, rfl⟩)
              case measure => simp [intOf]; omega
          · obtain rfl : i = n := by omega
            by_cases hkm : k < m
            · obtain ⟨Y1, hY1⟩ : ∃ x, u.pts[k]? = some x := ⟨_, List.getElem?_eq_getElem (by have := HPm.out; omega)⟩
              obtain ⟨y1, y2, y3⟩ := HPB.out k Y1 hY1
              have hM2 : Hid (mergeP v.pts u.pts = (mergeP (v.pts.drop i) (u.pts.drop (k + 1))).map ((P ++ [Y1]) ++ ·)) := show _ = _ by
                have hstep := hM.out.trans (congrArg (Option.map (P ++ ·)) (mergeP_right hY1 (.inl HPn.out)))
                rw [Option.map_map] at hstep
                rw [hstep]
                congr 1
                funext l
                simp
              have HPUT := Lib.hid (put_spec g6 V.heap.size k _ u (Wv.of P) Y1.f Y1.a Y1.b w wr hO HU0.out hBW hw3 y1 y2 y3 (HFB.out.1 _ (List.mem_of_getElem? y2)) (HFB.out.2 _ (List.mem_of_getElem? y3)) (by have := HLm.out; omega) (by have := HLm.out; have := HLB.out.1; omega) (by have := HLm.out; have := HLB.out.2; omega) (i + k) (by simp [Wv.of, hPl]) (by simp [Wv.of, hPl]) (by simp [Wv.of, hPl]) (by omega))
              rw [← Wv.of_snoc] at HPUT
              have hPl2 : (P ++ [Y1]).length = i + (k + 1) := by simp [hPl]; omega
              clear hM hY1 y1 y2 y3 hO
              have fr2 := r2.free; have cr20 := r2.cell 0 _ rfl; have cr21 := r2.cell 1 _ rfl; have cr22 := r2.cell 2 _ rfl; have fr3 := r3.free; have cr30 := r3.cell 0 _ rfl; have cr31 := r3.cell 1 _ rfl; have cr32 := r3.cell 2 _ rfl
              go_wp2_with fail
              refine HPUT.out.mono ?_
              rintro e1 W7 ⟨⟨rr, rfl⟩, hO7, hb7⟩
              clear cr20 cr21 cr22 cr30 cr31 cr32 fr2 fr3 r2 r3
              go_wp2_with fail
              go_roundw
              case rel => first | exact ⟨i, k + 1, P ++ [Y1], by omega, by omega, rfl, by go_num, hO7, hPl2, hBL.trans hb7, hM2⟩ | ((repeat apply Exists.intro); exact ⟨⟨i, k + 1, P ++ [Y1], by omega, by omega, rfl, by go_num, hO7, hPl2, hBL.trans hb7, hM2⟩, rfl⟩)
              case measure => simp [intOf]; omega
            · obtain rfl : k = m := by omega
              have hend := hM.out
              rw [mergeP_end (by have := HPn.out; omega) (by have := HPm.out; omega)] at hend
              simp only [Option.map_some, List.append_nil] at hend
              obtain ⟨sf, sa, sb, hO⟩ := hO
              obtain ⟨fa, fc, rfl⟩ := RowOf.shape hO.rf
              obtain ⟨ha, hc, rfl⟩ := RowOf.shape hO.ra
              obtain ⟨ia, ic, rfl⟩ := RowOf.shape hO.rb
              have hfl : (Wv.of P).fr.length = i + k := by simp [Wv.of, hPl]
              rw [hfl] at hO
              have hbx := hO.box
              have hik : i + k ≤ 100000 := by omega
              have r4 := o42.below hBL (by omega)
              have hBfin : Below w.heap.size w wr := hBW
              by_cases hle : i + k ≤ 1024
              · obtain ⟨rfl, rfl⟩ := HE0'.out P hend (by omega)
                have hle' : ¬ (1024 < i + k) := by omega
                have hfin := out_box hO r4 rfl
                clear hM hend HE8' HE0' HE9' hfl
                generalize i + k = ik at *
                have fr2 := r2.free; have cr20 := r2.cell 0 _ rfl; have cr21 := r2.cell 1 _ rfl; have cr22 := r2.cell 2 _ rfl; have fr3 := r3.free; have cr30 := r3.cell 0 _ rfl; have cr31 := r3.cell 1 _ rfl; have cr32 := r3.cell 2 _ rfl; have fr4 := r4.free; have cr40 := r4.cell 0 _ rfl; have cr41 := r4.cell 1 _ rfl; have cr42 := r4.cell 2 _ rfl; have fhbx := hbx.free; have chbx0 := hbx.cell 0 _ rfl; have chbx1 := hbx.cell 1 _ rfl; have chbx2 := hbx.cell 2 _ rfl
                go_wp2_with fail
                exact bodyPost_ret (by simp [results, Tryz.results9, go_sem, cr40, cr41, cr42]) rfl ⟨_, rfl, ⟨_, rfl, hfin⟩, below3 hBfin (by omega)⟩
              · obtain ⟨rfl, rfl⟩ := HE9'.out P hend (by omega)
                have hle' : 1024 < i + k := by omega
                clear hM hend HE8' HE0' HE9' hfl
                generalize i + k = ik at *
                have fr2 := r2.free; have cr20 := r2.cell 0 _ rfl; have cr21 := r2.cell 1 _ rfl; have cr22 := r2.cell 2 _ rfl; have fr3 := r3.free; have cr30 := r3.cell 0 _ rfl; have cr31 := r3.cell 1 _ rfl; have cr32 := r3.cell 2 _ rfl; have fr4 := r4.free; have cr40 := r4.cell 0 _ rfl; have cr41 := r4.cell 1 _ rfl; have cr42 := r4.cell 2 _ rfl; have fhbx := hbx.free; have chbx0 := hbx.cell 0 _ rfl; have chbx1 := hbx.cell 1 _ rfl; have chbx2 := hbx.cell 2 _ rfl
                go_wp2_with fail
                exact bodyPost_ret (by simp [results, Tryz.results9, go_sem, cr40, cr41, cr42]) rfl ⟨_, rfl, ⟨_, rfl, zeroW _⟩, below3 hBfin (by omega)⟩
      · have hpq' : ¬ ((p : Int) = (q : Int)) := by omega
        obtain ⟨rfl, rfl⟩ := HE4.out hpq
        have fo42 := o42.free; have co420 := o42.cell 0 _ rfl; have co421 := o42.cell 1 _ rfl; have co422 := o42.cell 2 _ rfl
        go_wp2_with fail
        exact bodyPost_ret (by simp [results, Tryz.results9, go_sem, co420, co421, co422]) rfl ⟨_, rfl, ⟨_, rfl, zeroW _⟩, below3 hB2 (by omega)⟩
    · have hE : mergeErr v u = 1 := by unfold mergeErr; rw [if_neg (fun h => h2 h.2)]
      have hR : mergeRes v u = Wv.of [] := by unfold mergeRes; rw [hE]; rfl
      have h2' : vwB u = false := by simpa using h2
      rw [hE, hR]
      rw [h1] at HVV
      rw [h2'] at HVU
      clear h1 h2 h2' hE hR HPV HPU
      generalize v.fr.length = nv at *
      generalize v.a.length = nva at *
      generalize v.b.length = nvb at *
      generalize u.fr.length = nu at *
      generalize u.a.length = nua at *
      generalize u.b.length = nub at *
      clear hvf hva hvb huf hua hub
      go_enter Tryz.func9, Tryz.ntmps9
      go_upto_region 1 with (fail)
      obtain ⟨W, hW, o2, o3, o4, hB, hS⟩ := boxes3 w 33 33 33 [.slice afv nv cfv, .slice aav nva cav, .slice abv nvb cbv] [.slice afu nu cfu, .slice aau nua cau, .slice abu nub cbu] [.slice none 0 0, .slice none 0 0, .slice none 0 0]
      rw [← hW]
      clear hW
      have fo2 := o2.free; have co20 := o2.cell 0 _ rfl; have co21 := o2.cell 1 _ rfl; have co22 := o2.cell 2 _ rfl; have fo3 := o3.free; have co30 := o3.cell 0 _ rfl; have co31 := o3.cell 1 _ rfl; have co32 := o3.cell 2 _ rfl; have fo4 := o4.free; have co40 := o4.cell 0 _ rfl; have co41 := o4.cell 1 _ rfl; have co42 := o4.cell 2 _ rfl
      go_wp2_with fail
      refine (HVV.out W (HV0.out.below hB (Nat.le_refl _))).mono ?_
      rintro e1 W1 ⟨_, rfl, rfl, hb1⟩
      clear co20 co21 co22 fo2 co30 co31 co32 fo3
      have hsW1 : W.heap.size ≤ W1.heap.size := hb1.size; have hB := hB.trans (hb1.mono hB.size); have o2 := o2.below hb1 o2.lt; have o3 := o3.below hb1 o3.lt; have o4 := o4.below hb1 o4.lt; have fo2 := o2.free; have co20 := o2.cell 0 _ rfl; have co21 := o2.cell 1 _ rfl; have co22 := o2.cell 2 _ rfl; have fo3 := o3.free; have co30 := o3.cell 0 _ rfl; have co31 := o3.cell 1 _ rfl; have co32 := o3.cell 2 _ rfl; have fo4 := o4.free; have co40 := o4.cell 0 _ rfl; have co41 := o4.cell 1 _ rfl; have co42 := o4.cell 2 _ rfl
      go_wp2_with fail
      refine (HVU.out W1 (HU0.out.below hB (Nat.le_refl _))).mono ?_
      rintro e1 W2 ⟨_, rfl, rfl, hb2⟩
      clear co20 co21 co22 fo2 co30 co31 co32 fo3 co40 co41 co42 fo4
      have hsW2 : W1.heap.size ≤ W2.heap.size := hb2.size; have hB := hB.trans (hb2.mono hB.size); have o4 := o4.below hb2 o4.lt; have fo4 := o4.free; have co40 := o4.cell 0 _ rfl; have co41 := o4.cell 1 _ rfl; have co42 := o4.cell 2 _ rfl
      go_wp2_with fail
      exact bodyPost_ret (by simp [results, Tryz.results9, go_sem, co40, co41, co42]) rfl ⟨_, rfl, ⟨_, rfl, zeroW _⟩, below3 hB (by omega)⟩
  · have hE : mergeErr v u = 1 := by unfold mergeErr; rw [if_neg (fun h => h1 h.1)]
    have hR : mergeRes v u = Wv.of [] := by unfold mergeRes; rw [hE]; rfl
    have h1' : vwB v = false := by simpa using h1
    rw [hE, hR]
    rw [h1'] at HVV
    clear h1 h1' hE hR HPV HPU
    generalize v.fr.length = nv at *
    generalize v.a.length = nva at *
    generalize v.b.length = nvb at *
    generalize u.fr.length = nu at *
    generalize u.a.length = nua at *
    generalize u.b.length = nub at *
    clear hvf hva hvb huf hua hub
    go_enter Tryz.func9, Tryz.ntmps9
    go_upto_region 1 with (fail)
    obtain ⟨W, hW, o2, o3, o4, hB, hS⟩ := boxes3 w 33 33 33 [.slice afv nv cfv, .slice aav nva cav, .slice abv nvb cbv] [.slice afu nu cfu, .slice aau nua cau, .slice abu nub cbu] [.slice none 0 0, .slice none 0 0, .slice none 0 0]
    rw [← hW]
    clear hW
    have fo2 := o2.free; have co20 := o2.cell 0 _ rfl; have co21 := o2.cell 1 _ rfl; have co22 := o2.cell 2 _ rfl; have fo3 := o3.free; have co30 := o3.cell 0 _ rfl; have co31 := o3.cell 1 _ rfl; have co32 := o3.cell 2 _ rfl; have fo4 := o4.free; have co40 := o4.cell 0 _ rfl; have co41 := o4.cell 1 _ rfl; have co42 := o4.cell 2 _ rfl
    go_wp2_with fail
    refine (HVV.out W (HV0.out.below hB (Nat.le_refl _))).mono ?_
    rintro e1 W1 ⟨_, rfl, rfl, hb1⟩
    clear co20 co21 co22 fo2 co30 co31 co32 fo3 co40 co41 co42 fo4
    have hsW1 : W.heap.size ≤ W1.heap.size := hb1.size; have hB := hB.trans (hb1.mono hB.size); have o4 := o4.below hb1 o4.lt; have fo4 := o4.free; have co40 := o4.cell 0 _ rfl; have co41 := o4.cell 1 _ rfl; have co42 := o4.cell 2 _ rfl
    go_wp2_with fail
    exact bodyPost_ret (by simp [results, Tryz.results9, go_sem, co40, co41, co42]) rfl ⟨_, rfl, ⟨_, rfl, zeroW _⟩, below3 hB (by omega)⟩
end Go.Proofs.YtpnfdlnhmhekeaaGreat
