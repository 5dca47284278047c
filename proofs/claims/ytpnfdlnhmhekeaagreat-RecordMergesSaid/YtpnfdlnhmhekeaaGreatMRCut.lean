/- The reference's Cut. Conditions: bits. -/
import Derived.Test.YtpnfdlnhmhekeaaGreatMCut
import Derived.Test.YtpnfdlnhmhekeaaGreatMRPoint
set_option linter.all false
namespace Go.Proofs.YtpnfdlnhmhekeaaGreat
open Go.RowKit
def SweepRetQ (e : Nat) (x : Wv) (w : World) (r : Value) : Prop := ∃ z, r = .tuple #[z, .int .i64 (e : Int)] ∧ QvT w z x
theorem zeroQ (w : World) : QvT w (.agg #[.slice none 0 0, .slice none 0 0, .slice none 0 0]) (Wv.of []) := ⟨_, _, _, rfl, nil_slT, nil_slT, nil_slT⟩
def OutB (w0 w : World) (g base : Nat) (x : Wv) : Prop := ∃ sf sa sb, Own w 37 g [sf, sa, sb] ∧ OutQ w0 base sf sa sb x.fr x.a x.b w ∧ g < base
theorem OutB.below {w0 w w' : World} {g base : Nat} {x : Wv} (h : OutB w0 w g base x) (hb : Below w.heap.size w w') : OutB w0 w' g base x := by
  obtain ⟨sf, sa, sb, h1, h2, h3⟩ := h
  exact ⟨sf, sa, sb, h1.below hb h1.lt, h2.below hb, h3⟩
theorem OutB.store {w0 w : World} {g base : Nat} {y0 y1 y2 u0 u1 u2 : Value} {fr : List CQ} {a b : List (List (List CQ))} (h : OutQ w0 base y0 y1 y2 fr a b w) (o : Own w 37 g [u0, u1, u2]) (hg : g < base) :
    OutB w0 (((w.setCell ⟨g, 0, none⟩ y0).setCell ⟨g, 1, none⟩ y1).setCell ⟨g, 2, none⟩ y2) g base ⟨fr, a, b⟩ ∧ Below g w (((w.setCell ⟨g, 0, none⟩ y0).setCell ⟨g, 1, none⟩ y1).setCell ⟨g, 2, none⟩ y2) := by
  have hl : ∀ x y z : Value, ([x, y, z] : List Value).length ≤ 1000 := fun _ _ _ => by simp
  exact ⟨⟨_, _, _, ((o.set 0 y0).set 1 y1).set 2 y2, ((h.set o (hl _ _ _)).set (o.set 0 y0) (hl _ _ _)).set ((o.set 0 y0).set 1 y1) (hl _ _ _), hg⟩,
    (((Below.refl _ _).setCell (Nat.le_refl g) _).setCell (Nat.le_refl g) _).setCell (Nat.le_refl g) _⟩
theorem outq_box {w0 w : World} {g base : Nat} {sf sa sb : Value} {fr : List CQ} {a b : List (List (List CQ))} (h : OutQ w0 base sf sa sb fr a b w) (hb : Below w0.heap.size w0 w) {cs : List Value} (o : Own w 37 g cs) (hl : cs.length = 3) :
    QvT (((w.setCell ⟨g, 0, none⟩ sf).setCell ⟨g, 1, none⟩ sa).setCell ⟨g, 2, none⟩ sb) (.agg #[sf, sa, sb]) ⟨fr, a, b⟩ := by
  have h1 : RowOf QC 57 5 w base sf fr := h.rf.lift (fun u x hu => q_stable.below hu hb lr) (fun _ _ h => h)
  have h2 : RowOf QsM 164 1 w base sa a := h.ra.lift (fun u x hu => qsM_stable.below hu hb lr) (fun _ _ h => h)
  have h3 : RowOf QsM 164 1 w base sb b := h.rb.lift (fun u x hu => qsM_stable.below hu hb lr) (fun _ _ h => h)
  have key : ∀ {β : Type} {R : World → List Value → β → Prop} {T : TypeId} {size : Nat} {ts : List TypeId} {v : Value} {l : List β} (hS : Stable R ts), 37 ∉ T :: ts → RowOf R T size w base v l → RowOf R T size (((w.setCell ⟨g, 0, none⟩ sf).setCell ⟨g, 1, none⟩ sa).setCell ⟨g, 2, none⟩ sb) base v l := fun hS hT hr =>
    RowOf.putBox hS (RowOf.putBox hS (RowOf.putBox hS hr o hT (by omega) 0 sf) (o.set 0 sf) hT (by simp; omega) 1 sa) ((o.set 0 sf).set 1 sa) hT (by simp; omega) 2 sb
  exact ⟨_, _, _, rfl, (key q_stable (by decide) h1).slT, (key qsM_stable (by decide) h2).slT, (key qsM_stable (by decide) h3).slT⟩
set_option maxRecDepth 100000 in
set_option maxHeartbeats 6400000 in
theorem rcut_spec (vv lv hv : Value) (x : Wv) (lo hi : CQ) (e : Nat) (w : World) (hx : QvT w vv x) (hlo : QRep w lv lo) (hhi : QRep w hv hi) (hsx : ∀ y ∈ x.fr, Small e y) (hsl : Small e lo) (hsh : Small e hi) (he : e ≤ 100000) :
    Calls Tryz.prog 13 #[vv, lv, hv] w (Ret w (SweepRetQ (cutErr x lo hi) (cutRes x lo hi))) := by
  have HV := Lib.hid (fun w h => qvalidWaves_spec vv x e w h hsx he)
  have HP := Lib.hid (vw_parts (x := x))
  have HSX := Lib.hid hsx
  have HV0 := Lib.hid hx
  have HL0 := Lib.hid hlo
  have HH0 := Lib.hid hhi
  have HLO := Lib.hid (fun w h => qreal_spec lv lo e w h hsl (by omega))
  have HHI := Lib.hid (fun w h => qreal_spec hv hi e w h hsh (by omega))
  have HC1 := Lib.hid (fun u y w h1 h2 hy => rqcmp_spec lv u lo y e w h2 h1 hsl (hsx y hy) (by omega))
  have HC2 := Lib.hid (fun u y w h1 h2 hy => rqcmp_spec u hv y hi e w h1 h2 (hsx y hy) hsh (by omega))
  obtain ⟨vf, va, vb, rfl, hf, ha, hb⟩ := hx
  obtain ⟨af, cf, rfl, -, -⟩ := hf.dims
  obtain ⟨aa, ca, rfl, -, -⟩ := ha.dims
  obtain ⟨ab, cb, rfl, -, -⟩ := hb.dims
  obtain ⟨s0, s2, a1, a3, a4, l1, m1, l3, m3, l4, m4, rfl⟩ := hlo.open
  obtain ⟨t0, t2, d1, d3, d4, p1, y1, p3, y3, p4, y4, rfl⟩ := hhi.open
  have HER1 := Lib.hid (show ¬ (vwB x = true ∧ lo.im = 0 ∧ hi.im = 0) → cutErr x lo hi = 1 ∧ cutRes x lo hi = Wv.of [] from fun h => by
    have hE : cutErr x lo hi = 1 := by unfold cutErr; rw [if_neg h]
    exact ⟨hE, by unfold cutRes; rw [hE]; rfl⟩)
  have HER5 := Lib.hid (show (vwB x = true ∧ lo.im = 0 ∧ hi.im = 0) → (cutPts x lo hi).length = 0 → cutErr x lo hi = 5 ∧ cutRes x lo hi = Wv.of [] from fun h h0 => by
    have hE : cutErr x lo hi = 5 := by unfold cutErr; rw [if_pos h, if_pos h0]
    exact ⟨hE, by unfold cutRes; rw [hE]; rfl⟩)
  have HER0 := Lib.hid (show (vwB x = true ∧ lo.im = 0 ∧ hi.im = 0) → ¬ (cutPts x lo hi).length = 0 → cutErr x lo hi = 0 ∧ cutRes x lo hi = Wv.of (cutPts x lo hi) from fun h h0 => by
    have hE : cutErr x lo hi = 0 := by unfold cutErr; rw [if_pos h, if_neg h0]
    exact ⟨hE, by unfold cutRes; rw [hE]; rfl⟩)
  have HEX := Lib.hid (show cutPts x lo hi = x.pts.filter (inCut lo hi) from rfl)
  have HIN := Lib.hid (show ∀ p, inCut lo hi p = (decide (qcmp lo p.f ≤ 0) && decide (qcmp p.f hi ≤ 0)) from fun p => by unfold inCut; rw [qcmp_flip p.f lo]; congr 1; rw [Bool.eq_iff_iff, decide_eq_true_iff, decide_eq_true_iff]; omega)
  generalize cutErr x lo hi = E at *
  generalize cutRes x lo hi = X at *
  generalize cutPts x lo hi = CP at *
  obtain ⟨n, hn⟩ : ∃ n, x.fr.length = n := ⟨_, rfl⟩
  obtain ⟨na, hna⟩ : ∃ n, x.a.length = n := ⟨_, rfl⟩
  obtain ⟨nb, hnb⟩ : ∃ n, x.b.length = n := ⟨_, rfl⟩
  rw [hn, hna, hnb] at HV HV0
  rw [hn] at hf
  rw [hn, hna, hnb]
  have HNL := Lib.hid (And.intro hn (And.intro hna hnb))
  have HF := Lib.hid hf
  clear hsx hsl hsh hlo hhi hf ha hb hn hna hnb
  by_cases h1 : vwB x = true
  · by_cases h2 : lo.im = 0
    · by_cases h3 : hi.im = 0
      · have HOK := Lib.hid (And.intro h1 (And.intro h2 h3))
        have HPP := Lib.hid (HP.out h1)
        rw [h1] at HV
        rw [decide_eq_true h2] at HLO
        rw [decide_eq_true h3] at HHI
        clear h1 h2 h3 HER1 HP
        obtain ⟨bf, of', _, _, _, _, _, _, _, _, _, _, _, rfl, hbf, -⟩ := HF.out.num (List.getElem?_eq_getElem (show 0 < x.fr.length by have := HPP.out.1; omega))
        clear hbf
        go_enter Tryz.func13, Tryz.ntmps13
        go_upto_region 1 with (fail)
        obtain ⟨W, hW, o3, o4, o5, o6, hB, hS⟩ := boxes4 w 37 57 57 37 [.slice (some ⟨bf, of', none⟩) n cf, .slice aa na ca, .slice ab nb cb] [.bool s0, .slice a1 l1 m1, .bool s2, .slice a3 l3 m3, .slice a4 l4 m4] [.bool t0, .slice d1 p1 y1, .bool t2, .slice d3 p3 y3, .slice d4 p4 y4] [.slice none 0 0, .slice none 0 0, .slice none 0 0]
        rw [← hW]
        clear hW
        have fo3 := o3.free; have co30 := o3.cell 0 _ rfl; have co31 := o3.cell 1 _ rfl; have co32 := o3.cell 2 _ rfl; have fo4 := o4.free; have co40 := o4.cell 0 _ rfl; have co41 := o4.cell 1 _ rfl; have co42 := o4.cell 2 _ rfl; have co43 := o4.cell 3 _ rfl; have co44 := o4.cell 4 _ rfl; have fo5 := o5.free; have co50 := o5.cell 0 _ rfl; have co51 := o5.cell 1 _ rfl; have co52 := o5.cell 2 _ rfl; have co53 := o5.cell 3 _ rfl; have co54 := o5.cell 4 _ rfl; have fo6 := o6.free; have co60 := o6.cell 0 _ rfl; have co61 := o6.cell 1 _ rfl; have co62 := o6.cell 2 _ rfl
        go_wp2_with fail
        refine (HV.out W (HV0.out.below hB lr)).mono ?_
        rintro e1 W1 ⟨_, rfl, rfl, hb1⟩
        clear co30 co31 co32 fo3 co40 co41 co42 co43 co44 fo4 co50 co51 co52 co53 co54 fo5 co60 co61 co62 fo6
        have hsW1 : W.heap.size ≤ W1.heap.size := hb1.size; have hB := hB.trans (hb1.mono hB.size); have o3 := o3.below hb1 o3.lt; have o4 := o4.below hb1 o4.lt; have o5 := o5.below hb1 o5.lt; have o6 := o6.below hb1 o6.lt
        have fo4 := o4.free; have co40 := o4.cell 0 _ rfl; have co41 := o4.cell 1 _ rfl; have co42 := o4.cell 2 _ rfl; have co43 := o4.cell 3 _ rfl; have co44 := o4.cell 4 _ rfl
        go_wp2_with fail
        refine (HLO.out W1 (HL0.out.below hB lr)).mono ?_
        rintro e1 W2 ⟨_, rfl, rfl, hb2⟩
        clear co40 co41 co42 co43 co44 fo4
        have hsW2 : W1.heap.size ≤ W2.heap.size := hb2.size; have hB := hB.trans (hb2.mono hB.size); have o3 := o3.below hb2 o3.lt; have o4 := o4.below hb2 o4.lt; have o5 := o5.below hb2 o5.lt; have o6 := o6.below hb2 o6.lt
        have fo5 := o5.free; have co50 := o5.cell 0 _ rfl; have co51 := o5.cell 1 _ rfl; have co52 := o5.cell 2 _ rfl; have co53 := o5.cell 3 _ rfl; have co54 := o5.cell 4 _ rfl
        go_wp2_with fail
        refine (HHI.out W2 (HH0.out.below hB lr)).mono ?_
        rintro e1 W3 ⟨_, rfl, rfl, hb3⟩
        clear co50 co51 co52 co53 co54 fo5
        have hsW3 : W2.heap.size ≤ W3.heap.size := hb3.size; have hB := hB.trans (hb3.mono hB.size); have o3 := o3.below hb3 o3.lt; have o4 := o4.below hb3 o4.lt; have o5 := o5.below hb3 o5.lt; have o6 := o6.below hb3 o6.lt
        have hn1024 : n ≤ 1024 := by have := HPP.out.2.1; have := HNL.out.1; omega
        go_upto_region 4 with (fail)
        obtain ⟨V, hV, o8, hBV, hSV⟩ := boxes1 W3 37 [.slice none 0 0, .slice none 0 0, .slice none 0 0]
        rw [← hV]
        clear hV
        have hO0 : OutB W3 V W3.heap.size V.heap.size (Wv.of ((x.pts.take 0).filter (inCut lo hi))) := ⟨_, _, _, o8, ⟨RowOf.nil _ _ _ _ _, RowOf.nil _ _ _ _ _, RowOf.nil _ _ _ _ _, .inl rfl, Nat.le_refl _⟩, o8.lt⟩
        have h6g := o6.lt
        have o3 := o3.below hBV o3.lt; have o4 := o4.below hBV o4.lt; have o5 := o5.below hBV o5.lt; have o6 := o6.below hBV o6.lt
        have hB3 := hB.trans (hBV.mono hB.size)
        have hw3 : w.heap.size ≤ W3.heap.size := hB.size
        have HV3 := Lib.hid (HV0.out.below hB lr)
        have HBV := Lib.hid hBV
        obtain ⟨g8, hg8⟩ : ∃ g8, W3.heap.size = g8 := ⟨_, rfl⟩
        have HG8 := Lib.hid hg8
        have HBV' : Hid (Below g8 W3 V) := hg8 ▸ hBV
        rw [hg8] at h6g hw3 hO0 ⊢
        have hbase : g8 < V.heap.size := by rw [← hg8]; exact o8.lt
        clear o8 hBV hSV hB hg8 HBV
        have fo3 := o3.free; have co30 := o3.cell 0 _ rfl; have co31 := o3.cell 1 _ rfl; have co32 := o3.cell 2 _ rfl
        go_wp2_with fail
        clear co30 co31 co32 fo3
        go_loopw [9] (fun si wr => ∃ (k : Nat), k ≤ n ∧ si = .int .i64 (k : Int) ∧ OutB W3 wr g8 V.heap.size (Wv.of ((x.pts.take k).filter (inCut lo hi))) ∧ Below g8 V wr) (fun si _ => n - (intOf si).toNat)
        case atStart => exact ⟨0, Nat.zero_le _, rfl, hO0, Below.refl _ _⟩
        case round =>
          clear hO0
          obtain ⟨k, hk, rfl, hO, hBL⟩ := hrel
          have hBW : Below w.heap.size w wr := hB3.trans (hBL.mono hw3)
          have hgr : g8 < wr.heap.size := by have := hBL.size; omega
          have r3 := o3.below hBL (by omega)
          have r4 := o4.below hBL (by omega)
          have r5 := o5.below hBL (by omega)
          by_cases hkn : k < n
          · obtain ⟨P1, hP1⟩ : ∃ y, x.pts[k]? = some y := ⟨_, List.getElem?_eq_getElem (by rw [Wv.pts_len]; have := HNL.out.1; omega)⟩
            obtain ⟨x1, x2, x3⟩ := Wv.pts_at hP1 HPP.out.2.2.1 HPP.out.2.2.2.1
            obtain ⟨b', o', u0, u2, b1, b3, b4, j1, i1, j3, i3, j4, i4, hab, hbl, hrep, e0, e1, e2, e3, e4⟩ := (HF.out.below hBW lr).num x1
            injection hab with hab
            injection hab with hb1' ho1' _
            subst hb1' ho1'
            have HMEM := Lib.hid (List.mem_of_getElem? x1)
            have HNX := Lib.hid (filter_next (p := inCut lo hi) hP1)
            have HIP := Lib.hid (HIN.out P1)
            have hki : (k : Int) < (n : Int) := by omega
            have hk0 : (0 : Int) ≤ (k : Int) := by omega
            have fr3 := r3.free; have cr30 := r3.cell 0 _ rfl; have cr31 := r3.cell 1 _ rfl; have cr32 := r3.cell 2 _ rfl
            go_upto_region 7 with (fail)
            clear cr30 cr31 cr32 fr3
            have hkd : Below wr.heap.size wr wr.drew := (Below.refl _ _).drew
            have HS := Lib.hid (show ∀ w' : World, Own w' 37 w.heap.size [.slice (some ⟨bf, of', none⟩) n cf, .slice aa na ca, .slice ab nb cb] → Own w' 57 (w.heap.size + 1) [.bool s0, .slice a1 l1 m1, .bool s2, .slice a3 l3 m3, .slice a4 l4 m4] → Own w' 57 (w.heap.size + 1 + 1) [.bool t0, .slice d1 p1 y1, .bool t2, .slice d3 p3 y3, .slice d4 p4 y4] → Below wr.heap.size wr w' → w'.cell? ⟨w.heap.size + 1, 0, none⟩ = some (.bool s0) ∧ w'.cell? ⟨w.heap.size + 1, 1, none⟩ = some (.slice a1 l1 m1) ∧ w'.cell? ⟨w.heap.size + 1, 2, none⟩ = some (.bool s2) ∧ w'.cell? ⟨w.heap.size + 1, 3, none⟩ = some (.slice a3 l3 m3) ∧ w'.cell? ⟨w.heap.size + 1, 4, none⟩ = some (.slice a4 l4 m4) ∧ w'.cell? ⟨w.heap.size, 0, none⟩ = some (.slice (some ⟨bf, of', none⟩) n cf) ∧ w'.cell? ⟨bf, of' + k * 5, none⟩ = some (.bool u0) ∧ w'.cell? ⟨bf, of' + k * 5 + 1, none⟩ = some (.slice b1 j1 i1) ∧ w'.cell? ⟨bf, of' + k * 5 + 2, none⟩ = some (.bool u2) ∧ w'.cell? ⟨bf, of' + k * 5 + 3, none⟩ = some (.slice b3 j3 i3) ∧ w'.cell? ⟨bf, of' + k * 5 + 4, none⟩ = some (.slice b4 j4 i4) ∧ w'.cell? ⟨w.heap.size + 1 + 1, 0, none⟩ = some (.bool t0) ∧ w'.cell? ⟨w.heap.size + 1 + 1, 1, none⟩ = some (.slice d1 p1 y1) ∧ w'.cell? ⟨w.heap.size + 1 + 1, 2, none⟩ = some (.bool t2) ∧ w'.cell? ⟨w.heap.size + 1 + 1, 3, none⟩ = some (.slice d3 p3 y3) ∧ w'.cell? ⟨w.heap.size + 1 + 1, 4, none⟩ = some (.slice d4 p4 y4) from fun w' h3 h4 h5 hb => ⟨h4.cell 0 _ rfl, h4.cell 1 _ rfl, h4.cell 2 _ rfl, h4.cell 3 _ rfl, h4.cell 4 _ rfl, h3.cell 0 _ rfl, (hb.cell hbl).trans e0, (hb.cell hbl).trans e1, (hb.cell hbl).trans e2, (hb.cell hbl).trans e3, (hb.cell hbl).trans e4, h5.cell 0 _ rfl, h5.cell 1 _ rfl, h5.cell 2 _ rfl, h5.cell 3 _ rfl, h5.cell 4 _ rfl⟩)
            have r3 : Own wr.drew _ _ _ := r3.below hkd r3.lt
            have r4 : Own wr.drew _ _ _ := r4.below hkd r4.lt
            have r5 : Own wr.drew _ _ _ := r5.below hkd r5.lt
            have hrep := hrep.below hkd lr
            have hBW := hBW.drew
            have hbw := hkd
            have hS := HS.out _ r3 r4 r5 hbw
            have hL := True.intro
            clear e0 e1 e2 e3 e4 hbl hkd
            refine wp_region_late (fun w' => w'.cell? ⟨w.heap.size + 1, 0, none⟩ = some (.bool s0) ∧ w'.cell? ⟨w.heap.size + 1, 1, none⟩ = some (.slice a1 l1 m1) ∧ w'.cell? ⟨w.heap.size + 1, 2, none⟩ = some (.bool s2) ∧ w'.cell? ⟨w.heap.size + 1, 3, none⟩ = some (.slice a3 l3 m3) ∧ w'.cell? ⟨w.heap.size + 1, 4, none⟩ = some (.slice a4 l4 m4) ∧ w'.cell? ⟨w.heap.size, 0, none⟩ = some (.slice (some ⟨bf, of', none⟩) n cf) ∧ w'.cell? ⟨bf, of' + k * 5, none⟩ = some (.bool u0) ∧ w'.cell? ⟨bf, of' + k * 5 + 1, none⟩ = some (.slice b1 j1 i1) ∧ w'.cell? ⟨bf, of' + k * 5 + 2, none⟩ = some (.bool u2) ∧ w'.cell? ⟨bf, of' + k * 5 + 3, none⟩ = some (.slice b3 j3 i3) ∧ w'.cell? ⟨bf, of' + k * 5 + 4, none⟩ = some (.slice b4 j4 i4) ∧ w'.cell? ⟨w.heap.size + 1 + 1, 0, none⟩ = some (.bool t0) ∧ w'.cell? ⟨w.heap.size + 1 + 1, 1, none⟩ = some (.slice d1 p1 y1) ∧ w'.cell? ⟨w.heap.size + 1 + 1, 2, none⟩ = some (.bool t2) ∧ w'.cell? ⟨w.heap.size + 1 + 1, 3, none⟩ = some (.slice d3 p3 y3) ∧ w'.cell? ⟨w.heap.size + 1 + 1, 4, none⟩ = some (.slice d4 p4 y4)) (fun w' => True) (fun i => false) (by kernel_rfl) ?_; try simp only [List.size_toArray, List.length_cons, List.length_nil, Nat.reduceAdd]
            generalize wr.drew = U at r3 r4 r5 hrep hBW hbw hS ⊢
            (refine mt 0 ?_ rfl (by rfl) ?_ hS ?_; rotate_left; (intro w' h; (try dsimp only at h); go_simp; try exact rfl)); simp only [Act.put,q1,q2,q3,q4,q5,q6,q7,q8,q9]; (refine mt 1 ?_ rfl (by rfl) ?_ hS ?_; rotate_left; (intro w' h; (try dsimp only at h); go_simp; try exact rfl)); simp only [Act.put,q1,q2,q3,q4,q5,q6,q7,q8,q9]; (refine mt 2 ?_ rfl (by rfl) ?_ hS ?_; rotate_left; (intro w' h; (try dsimp only at h); go_simp; try exact rfl)); simp only [Act.put,q1,q2,q3,q4,q5,q6,q7,q8,q9]; (refine mt 3 ?_ rfl (by rfl) ?_ hS ?_; rotate_left; (intro w' h; (try dsimp only at h); go_simp; try exact rfl)); simp only [Act.put,q1,q2,q3,q4,q5,q6,q7,q8,q9]; (refine mt 4 ?_ rfl (by rfl) ?_ hS ?_; rotate_left; (intro w' h; (try dsimp only at h); go_simp; try exact rfl)); simp only [Act.put,q1,q2,q3,q4,q5,q6,q7,q8,q9]; (refine mt 5 ?_ rfl (by rfl) ?_ hS ?_; rotate_left; (intro w' h; (try dsimp only at h); go_simp; try exact rfl)); simp only [Act.put,q1,q2,q3,q4,q5,q6,q7,q8,q9]
            refine mo 6 rfl fun K hK => ?_; go_simp; go_at_call 42; (with_reducible refine (HC1.out _ P1.f U hrep (HL0.out.below hBW lr) HMEM.out).mono ?_); rintro e1 Y1 ⟨_, rfl, rfl, hcY1⟩; have hbw := hbw.trans (hcY1.mono hbw.size); have r3 := r3.below hcY1 r3.lt; have r4 := r4.below hcY1 r4.lt; have r5 := r5.below hcY1 r5.lt; have hrep := hrep.below hcY1 lr; have hBW := hBW.trans (hcY1.mono hBW.size); have hS := HS.out _ r3 r4 r5 hbw; refine hK _ _ hS (fun _ _ => hL) ?_; clear hK K; (try simp only [Act.put,q1,q2,q3,q4,q5,q6,q7,q8,q9])
            generalize qcmp lo P1.f = z1 at *
            by_cases hz1 : z1 ≤ 0
            · (refine mt 7 ?_ rfl (by rfl) ?_ hS ?_; rotate_left; (intro w' h; (try dsimp only at h); go_simp; try exact rfl)); simp only [Act.put,q1,q2,q3,q4,q5,q6,q7,q8,q9]; (refine mt 8 ?_ rfl (by rfl) ?_ hS ?_; rotate_left; (intro w' h; (try dsimp only at h); go_simp; try exact rfl)); simp only [Act.put,q1,q2,q3,q4,q5,q6,q7,q8,q9]; (refine mt 9 ?_ rfl (by rfl) ?_ hS ?_; rotate_left; (intro w' h; (try dsimp only at h); go_simp; try exact rfl)); simp only [Act.put,q1,q2,q3,q4,q5,q6,q7,q8,q9]; (refine mt 10 ?_ rfl (by rfl) ?_ hS ?_; rotate_left; (intro w' h; (try dsimp only at h); go_simp; try exact rfl)); simp only [Act.put,q1,q2,q3,q4,q5,q6,q7,q8,q9]; (refine mt 11 ?_ rfl (by rfl) ?_ hS ?_; rotate_left; (intro w' h; (try dsimp only at h); go_simp; try exact rfl)); simp only [Act.put,q1,q2,q3,q4,q5,q6,q7,q8,q9]; (refine mt 12 ?_ rfl (by rfl) ?_ hS ?_; rotate_left; (intro w' h; (try dsimp only at h); go_simp; try exact rfl)); simp only [Act.put,q1,q2,q3,q4,q5,q6,q7,q8,q9]; (refine mt 13 ?_ rfl (by rfl) ?_ hS ?_; rotate_left; (intro w' h; (try dsimp only at h); go_simp; try exact rfl)); simp only [Act.put,q1,q2,q3,q4,q5,q6,q7,q8,q9]; (refine mt 14 ?_ rfl (by rfl) ?_ hS ?_; rotate_left; (intro w' h; (try dsimp only at h); go_simp; try exact rfl)); simp only [Act.put,q1,q2,q3,q4,q5,q6,q7,q8,q9]
              refine mo 15 rfl fun K hK => ?_; go_simp; go_at_call 42; (with_reducible refine (HC2.out _ P1.f Y1 hrep (HH0.out.below hBW lr) HMEM.out).mono ?_); rintro e1 Y2 ⟨_, rfl, rfl, hcY2⟩; have hbw := hbw.trans (hcY2.mono hbw.size); have r3 := r3.below hcY2 r3.lt; have r4 := r4.below hcY2 r4.lt; have r5 := r5.below hcY2 r5.lt; have hrep := hrep.below hcY2 lr; have hBW := hBW.trans (hcY2.mono hBW.size); have hS := HS.out _ r3 r4 r5 hbw; refine hK _ _ hS (fun _ _ => hL) ?_; clear hK K; (try simp only [Act.put,q1,q2,q3,q4,q5,q6,q7,q8,q9])
              generalize qcmp P1.f hi = z2 at *
              have hOY := hO.below hbw
              have hBLY : Below g8 V Y2 := hBL.trans (hbw.mono (by omega))
              by_cases hz2 : z2 ≤ 0
              · (refine mt 16 ?_ rfl (by rfl) ?_ hS ?_; rotate_left; (intro w' h; (try dsimp only at h); go_simp; try exact rfl)); simp only [Act.put,q1,q2,q3,q4,q5,q6,q7,q8,q9]; (refine mt 17 ?_ rfl (by rfl) ?_ hS ?_; rotate_left; (intro w' h; (try dsimp only at h); go_simp; try exact rfl)); simp only [Act.put,q1,q2,q3,q4,q5,q6,q7,q8,q9]
                refine wpAnyM_done (by kernel_rfl) ?_ _
                have hin : inCut lo hi P1 = true := by rw [HIP.out, decide_eq_true hz1, decide_eq_true hz2]; rfl
                have hnx := HNX.out
                rw [if_pos hin] at hnx
                have HNN := Lib.hid hnx
                have hle : ((x.pts.take k).filter (inCut lo hi)).length ≤ k := Nat.le_trans (List.length_filter_le _ _) (by rw [List.length_take]; omega)
                obtain ⟨mm, hmm⟩ : ∃ mm, ((x.pts.take k).filter (inCut lo hi)).length = mm := ⟨_, rfl⟩
                have hn1 := HPP.out.2.1
                have hmk : mm < 100000 := by omega
                obtain ⟨sf, sa, sb, o8, hOQ, hgb⟩ := hOY
                obtain ⟨sf1, sf3, rfl⟩ := RowOf.shape hOQ.rf
                obtain ⟨sa1, sa3, rfl⟩ := RowOf.shape hOQ.ra
                obtain ⟨sb1, sb3, rfl⟩ := RowOf.shape hOQ.rb
                have HPUT := Lib.hid (point_spec V.heap.size k mm _ _ _ _ x _ _ _ P1.f P1.a P1.b W3 Y2 hOQ HV3.out (by rw [HG8.out]; exact HBV'.out.trans hBLY) (by rw [HG8.out]; exact Nat.le_of_lt hbase) x1 x2 x3 (by simp [Wv.of, hmm]) (by simp [Wv.of, hmm]) (by simp [Wv.of, hmm]) hmk)
                clear hnx hin hle hmm hP1 x1 x2 x3 hOQ hn1 HS hS hL hrep
                have fr3 := r3.free; have cr30 := r3.cell 0 _ rfl; have cr31 := r3.cell 1 _ rfl; have cr32 := r3.cell 2 _ rfl; have fo8 := o8.free; have co80 := o8.cell 0 _ rfl; have co81 := o8.cell 1 _ rfl; have co82 := o8.cell 2 _ rfl
                go_wp2_with fail
                refine HPUT.out.mono ?_
                rintro e1 Y3 ⟨sf', sa', sb', rfl, hO7, hb7⟩
                clear cr30 cr31 cr32 fr3 r3 co80 co81 co82 fo8 HPUT
                have o8 := o8.below hb7 hgb
                obtain ⟨tf1, tf3, rfl⟩ := RowOf.shape hO7.rf
                obtain ⟨ta1, ta3, rfl⟩ := RowOf.shape hO7.ra
                obtain ⟨tb1, tb3, rfl⟩ := RowOf.shape hO7.rb
                have hO8 := OutB.store hO7 o8 hgb
                have hsn := Wv.of_snoc ((x.pts.take k).filter (inCut lo hi)) P1
                rw [← HNN.out] at hsn
                rw [← hsn] at hO8
                have hfin := hO8.2
                have hBE := hBLY.trans ((hb7.mono (Nat.le_of_lt hbase)).trans hfin)
                have HO8 := Lib.hid hO8.1
                clear hO7 hb7 hO8 hfin hsn
                generalize ((Wv.of ((x.pts.take k).filter (inCut lo hi))).fr ++ [P1.f]).length = q8 at *
                generalize ((Wv.of ((x.pts.take k).filter (inCut lo hi))).a ++ [P1.a]).length = q9 at *
                generalize ((Wv.of ((x.pts.take k).filter (inCut lo hi))).b ++ [P1.b]).length = q10 at *
                have fo8 := o8.free; have co80 := o8.cell 0 _ rfl; have co81 := o8.cell 1 _ rfl; have co82 := o8.cell 2 _ rfl
                go_wp2_with fail
                go_roundw
                case rel => first | exact ⟨k + 1, by omega, by go_num, HO8.out, hBE⟩ | ((repeat apply Exists.intro); exact ⟨⟨k + 1, by omega, by go_num, HO8.out, hBE⟩, rfl⟩)
                case measure => simp [intOf]; omega
              · have hz2' : ¬ (z2 ≤ 0) := hz2
                (refine mt 16 ?_ rfl (by rfl) ?_ hS ?_; rotate_left; (intro w' h; (try dsimp only at h); go_simp; try exact rfl)); simp only [Act.put,q1,q2,q3,q4,q5,q6,q7,q8,q9]; (refine mt 17 ?_ rfl (by rfl) ?_ hS ?_; rotate_left; (intro w' h; (try dsimp only at h); go_simp; try exact rfl)); simp only [Act.put,q1,q2,q3,q4,q5,q6,q7,q8,q9]
                refine wpAnyM_done (by kernel_rfl) ?_ _
                have hin : ¬ inCut lo hi P1 = true := by rw [HIP.out, decide_eq_false hz2, Bool.and_false]; decide
                have hnx := HNX.out
                rw [if_neg hin, List.append_nil] at hnx
                rw [← hnx] at hOY
                clear hnx hin hP1 x1 x2 x3 HS hS hL hrep
                go_wp2_with fail
                go_roundw
                case rel => first | exact ⟨k + 1, by omega, by go_num, hOY, hBLY⟩ | ((repeat apply Exists.intro); exact ⟨⟨k + 1, by omega, by go_num, hOY, hBLY⟩, rfl⟩)
                case measure => simp [intOf]; omega
            · (refine mt 7 ?_ rfl (by rfl) ?_ hS ?_; rotate_left; (intro w' h; (try dsimp only at h); go_simp; try exact rfl)); simp only [Act.put,q1,q2,q3,q4,q5,q6,q7,q8,q9]; (refine mt 8 ?_ rfl (by rfl) ?_ hS ?_; rotate_left; (intro w' h; (try dsimp only at h); go_simp; try exact rfl)); simp only [Act.put,q1,q2,q3,q4,q5,q6,q7,q8,q9]
              refine mk 9 rfl (by rfl) hS ?_; simp only [Act.put,q1,q2,q3,q4,q5,q6,q7,q8,q9]; refine mk 10 rfl (by rfl) hS ?_; simp only [Act.put,q1,q2,q3,q4,q5,q6,q7,q8,q9]; refine mk 11 rfl (by rfl) hS ?_; simp only [Act.put,q1,q2,q3,q4,q5,q6,q7,q8,q9]; refine mk 12 rfl (by rfl) hS ?_; simp only [Act.put,q1,q2,q3,q4,q5,q6,q7,q8,q9]; refine mk 13 rfl (by rfl) hS ?_; simp only [Act.put,q1,q2,q3,q4,q5,q6,q7,q8,q9]; refine mk 14 rfl (by rfl) hS ?_; simp only [Act.put,q1,q2,q3,q4,q5,q6,q7,q8,q9]; refine mk 15 rfl (by rfl) hS ?_; simp only [Act.put,q1,q2,q3,q4,q5,q6,q7,q8,q9]; refine mk 16 rfl (by rfl) hS ?_; simp only [Act.put,q1,q2,q3,q4,q5,q6,q7,q8,q9]
              (refine mt 17 ?_ rfl (by rfl) ?_ hS ?_; rotate_left; (intro w' h; (try dsimp only at h); go_simp; try exact rfl)); simp only [Act.put,q1,q2,q3,q4,q5,q6,q7,q8,q9]
              refine wpAnyM_done (by kernel_rfl) ?_ _
              have hOY := hO.below hbw
              have hBLY : Below g8 V Y1 := hBL.trans (hbw.mono (by omega))
              have hin : ¬ inCut lo hi P1 = true := by rw [HIP.out, decide_eq_false hz1, Bool.false_and]; decide
              have hnx := HNX.out
              rw [if_neg hin, List.append_nil] at hnx
              rw [← hnx] at hOY
              clear hnx hin hP1 x1 x2 x3 HS hS hL hrep
              go_wp2_with fail
              go_roundw
              case rel => first | exact ⟨k + 1, by omega, by go_num, hOY, hBLY⟩ | ((repeat apply Exists.intro); exact ⟨⟨k + 1, by omega, by go_num, hOY, hBLY⟩, rfl⟩)
              case measure => simp [intOf]; omega
          · obtain rfl : k = n := by omega
            rw [List.take_of_length_le (by rw [Wv.pts_len]; have := HNL.out.1; omega), ← HEX.out] at hO
            obtain ⟨sf, sa, sb, hbx, hOQ, hgb⟩ := hO
            obtain ⟨fa, fc, rfl⟩ := RowOf.shape hOQ.rf
            obtain ⟨ha, hc, rfl⟩ := RowOf.shape hOQ.ra
            obtain ⟨ia, ic, rfl⟩ := RowOf.shape hOQ.rb
            obtain ⟨L, hL⟩ : ∃ L, CP.length = L := ⟨_, rfl⟩
            have hfl : (Wv.of CP).fr.length = L := by simp [Wv.of, hL]
            rw [hfl] at hOQ hbx
            have r6 := o6.below hBL (by omega)
            by_cases hL0 : L = 0
            · subst hL0
              obtain ⟨rfl, rfl⟩ := HER5.out HOK.out hL
              clear hfl HER5 HER0 hL
              have fr6 := r6.free; have cr60 := r6.cell 0 _ rfl; have cr61 := r6.cell 1 _ rfl; have cr62 := r6.cell 2 _ rfl; have fhbx := hbx.free; have chbx0 := hbx.cell 0 _ rfl; have chbx1 := hbx.cell 1 _ rfl; have chbx2 := hbx.cell 2 _ rfl; have fr3 := r3.free; have cr30 := r3.cell 0 _ rfl; have cr31 := r3.cell 1 _ rfl; have cr32 := r3.cell 2 _ rfl
              go_wp2_with fail
              exact bodyPost_ret (by simp [results, Tryz.results13, go_sem, cr60, cr61, cr62]) rfl ⟨_, rfl, ⟨_, rfl, zeroQ _⟩, below3 hBW (by omega)⟩
            · obtain ⟨rfl, rfl⟩ := HER0.out HOK.out (by omega)
              have hfin := outq_box hOQ (by rw [HG8.out]; exact HBV'.out.trans hBL) r6 rfl
              clear hfl HER5 HER0 hL
              have fr6 := r6.free; have cr60 := r6.cell 0 _ rfl; have cr61 := r6.cell 1 _ rfl; have cr62 := r6.cell 2 _ rfl; have fhbx := hbx.free; have chbx0 := hbx.cell 0 _ rfl; have chbx1 := hbx.cell 1 _ rfl; have chbx2 := hbx.cell 2 _ rfl; have fr3 := r3.free; have cr30 := r3.cell 0 _ rfl; have cr31 := r3.cell 1 _ rfl; have cr32 := r3.cell 2 _ rfl
              go_wp2_with fail
              exact bodyPost_ret (by simp [results, Tryz.results13, go_sem, cr60, cr61, cr62]) rfl ⟨_, rfl, ⟨_, rfl, hfin⟩, below3 hBW (by omega)⟩
      · obtain ⟨rfl, rfl⟩ := HER1.out (fun h => h3 h.2.2)
        rw [h1] at HV
        rw [decide_eq_true h2] at HLO
        rw [decide_eq_false h3] at HHI
        clear h1 h2 h3 HER1 HER5 HER0 HP
        go_enter Tryz.func13, Tryz.ntmps13
        go_upto_region 1 with (fail)
        obtain ⟨W, hW, o3, o4, o5, o6, hB, hS⟩ := boxes4 w 37 57 57 37 [.slice af n cf, .slice aa na ca, .slice ab nb cb] [.bool s0, .slice a1 l1 m1, .bool s2, .slice a3 l3 m3, .slice a4 l4 m4] [.bool t0, .slice d1 p1 y1, .bool t2, .slice d3 p3 y3, .slice d4 p4 y4] [.slice none 0 0, .slice none 0 0, .slice none 0 0]
        rw [← hW]
        clear hW
        have fo3 := o3.free; have co30 := o3.cell 0 _ rfl; have co31 := o3.cell 1 _ rfl; have co32 := o3.cell 2 _ rfl; have fo4 := o4.free; have co40 := o4.cell 0 _ rfl; have co41 := o4.cell 1 _ rfl; have co42 := o4.cell 2 _ rfl; have co43 := o4.cell 3 _ rfl; have co44 := o4.cell 4 _ rfl; have fo5 := o5.free; have co50 := o5.cell 0 _ rfl; have co51 := o5.cell 1 _ rfl; have co52 := o5.cell 2 _ rfl; have co53 := o5.cell 3 _ rfl; have co54 := o5.cell 4 _ rfl; have fo6 := o6.free; have co60 := o6.cell 0 _ rfl; have co61 := o6.cell 1 _ rfl; have co62 := o6.cell 2 _ rfl
        go_wp2_with fail
        refine (HV.out W (HV0.out.below hB lr)).mono ?_
        rintro e1 W1 ⟨_, rfl, rfl, hb1⟩
        clear co30 co31 co32 fo3 co40 co41 co42 co43 co44 fo4 co50 co51 co52 co53 co54 fo5 co60 co61 co62 fo6
        have hsW1 : W.heap.size ≤ W1.heap.size := hb1.size; have hB := hB.trans (hb1.mono hB.size); have o3 := o3.below hb1 o3.lt; have o4 := o4.below hb1 o4.lt; have o5 := o5.below hb1 o5.lt; have o6 := o6.below hb1 o6.lt
        have fo4 := o4.free; have co40 := o4.cell 0 _ rfl; have co41 := o4.cell 1 _ rfl; have co42 := o4.cell 2 _ rfl; have co43 := o4.cell 3 _ rfl; have co44 := o4.cell 4 _ rfl
        go_wp2_with fail
        refine (HLO.out W1 (HL0.out.below hB lr)).mono ?_
        rintro e1 W2 ⟨_, rfl, rfl, hb2⟩
        clear co40 co41 co42 co43 co44 fo4
        have hsW2 : W1.heap.size ≤ W2.heap.size := hb2.size; have hB := hB.trans (hb2.mono hB.size); have o3 := o3.below hb2 o3.lt; have o4 := o4.below hb2 o4.lt; have o5 := o5.below hb2 o5.lt; have o6 := o6.below hb2 o6.lt
        have fo5 := o5.free; have co50 := o5.cell 0 _ rfl; have co51 := o5.cell 1 _ rfl; have co52 := o5.cell 2 _ rfl; have co53 := o5.cell 3 _ rfl; have co54 := o5.cell 4 _ rfl
        go_wp2_with fail
        refine (HHI.out W2 (HH0.out.below hB lr)).mono ?_
        rintro e1 W3 ⟨_, rfl, rfl, hb3⟩
        clear co50 co51 co52 co53 co54 fo5
        have hsW3 : W2.heap.size ≤ W3.heap.size := hb3.size; have hB := hB.trans (hb3.mono hB.size); have o3 := o3.below hb3 o3.lt; have o4 := o4.below hb3 o4.lt; have o5 := o5.below hb3 o5.lt; have o6 := o6.below hb3 o6.lt
        have fo6 := o6.free; have co60 := o6.cell 0 _ rfl; have co61 := o6.cell 1 _ rfl; have co62 := o6.cell 2 _ rfl
        go_wp2_with fail
        exact bodyPost_ret (by simp [results, Tryz.results13, go_sem, co60, co61, co62]) rfl ⟨_, rfl, ⟨_, rfl, zeroQ _⟩, below3 hB (by omega)⟩
    · obtain ⟨rfl, rfl⟩ := HER1.out (fun h => h2 h.2.1)
      rw [h1] at HV
      rw [decide_eq_false h2] at HLO
      clear h1 h2 HER1 HER5 HER0 HP HHI
      go_enter Tryz.func13, Tryz.ntmps13
      go_upto_region 1 with (fail)
      obtain ⟨W, hW, o3, o4, o5, o6, hB, hS⟩ := boxes4 w 37 57 57 37 [.slice af n cf, .slice aa na ca, .slice ab nb cb] [.bool s0, .slice a1 l1 m1, .bool s2, .slice a3 l3 m3, .slice a4 l4 m4] [.bool t0, .slice d1 p1 y1, .bool t2, .slice d3 p3 y3, .slice d4 p4 y4] [.slice none 0 0, .slice none 0 0, .slice none 0 0]
      rw [← hW]
      clear hW
      have fo3 := o3.free; have co30 := o3.cell 0 _ rfl; have co31 := o3.cell 1 _ rfl; have co32 := o3.cell 2 _ rfl; have fo4 := o4.free; have co40 := o4.cell 0 _ rfl; have co41 := o4.cell 1 _ rfl; have co42 := o4.cell 2 _ rfl; have co43 := o4.cell 3 _ rfl; have co44 := o4.cell 4 _ rfl; have fo5 := o5.free; have co50 := o5.cell 0 _ rfl; have co51 := o5.cell 1 _ rfl; have co52 := o5.cell 2 _ rfl; have co53 := o5.cell 3 _ rfl; have co54 := o5.cell 4 _ rfl; have fo6 := o6.free; have co60 := o6.cell 0 _ rfl; have co61 := o6.cell 1 _ rfl; have co62 := o6.cell 2 _ rfl
      go_wp2_with fail
      refine (HV.out W (HV0.out.below hB lr)).mono ?_
      rintro e1 W1 ⟨_, rfl, rfl, hb1⟩
      clear co30 co31 co32 fo3 co40 co41 co42 co43 co44 fo4 co50 co51 co52 co53 co54 fo5 co60 co61 co62 fo6
      have hsW1 : W.heap.size ≤ W1.heap.size := hb1.size; have hB := hB.trans (hb1.mono hB.size); have o3 := o3.below hb1 o3.lt; have o4 := o4.below hb1 o4.lt; have o5 := o5.below hb1 o5.lt; have o6 := o6.below hb1 o6.lt
      have fo4 := o4.free; have co40 := o4.cell 0 _ rfl; have co41 := o4.cell 1 _ rfl; have co42 := o4.cell 2 _ rfl; have co43 := o4.cell 3 _ rfl; have co44 := o4.cell 4 _ rfl
      go_wp2_with fail
      refine (HLO.out W1 (HL0.out.below hB lr)).mono ?_
      rintro e1 W2 ⟨_, rfl, rfl, hb2⟩
      clear co40 co41 co42 co43 co44 fo4
      have hsW2 : W1.heap.size ≤ W2.heap.size := hb2.size; have hB := hB.trans (hb2.mono hB.size); have o3 := o3.below hb2 o3.lt; have o4 := o4.below hb2 o4.lt; have o5 := o5.below hb2 o5.lt; have o6 := o6.below hb2 o6.lt
      have fo6 := o6.free; have co60 := o6.cell 0 _ rfl; have co61 := o6.cell 1 _ rfl; have co62 := o6.cell 2 _ rfl
      go_wp2_with fail
      exact bodyPost_ret (by simp [results, Tryz.results13, go_sem, co60, co61, co62]) rfl ⟨_, rfl, ⟨_, rfl, zeroQ _⟩, below3 hB (by omega)⟩
  · obtain ⟨rfl, rfl⟩ := HER1.out (fun h => h1 h.1)
    have h1' : vwB x = false := by simpa using h1
    rw [h1'] at HV
    clear h1 h1' HER1 HER5 HER0 HP HLO HHI
    go_enter Tryz.func13, Tryz.ntmps13
    go_upto_region 1 with (fail)
    obtain ⟨W, hW, o3, o4, o5, o6, hB, hS⟩ := boxes4 w 37 57 57 37 [.slice af n cf, .slice aa na ca, .slice ab nb cb] [.bool s0, .slice a1 l1 m1, .bool s2, .slice a3 l3 m3, .slice a4 l4 m4] [.bool t0, .slice d1 p1 y1, .bool t2, .slice d3 p3 y3, .slice d4 p4 y4] [.slice none 0 0, .slice none 0 0, .slice none 0 0]
    rw [← hW]
    clear hW
    have fo3 := o3.free; have co30 := o3.cell 0 _ rfl; have co31 := o3.cell 1 _ rfl; have co32 := o3.cell 2 _ rfl; have fo4 := o4.free; have co40 := o4.cell 0 _ rfl; have co41 := o4.cell 1 _ rfl; have co42 := o4.cell 2 _ rfl; have co43 := o4.cell 3 _ rfl; have co44 := o4.cell 4 _ rfl; have fo5 := o5.free; have co50 := o5.cell 0 _ rfl; have co51 := o5.cell 1 _ rfl; have co52 := o5.cell 2 _ rfl; have co53 := o5.cell 3 _ rfl; have co54 := o5.cell 4 _ rfl; have fo6 := o6.free; have co60 := o6.cell 0 _ rfl; have co61 := o6.cell 1 _ rfl; have co62 := o6.cell 2 _ rfl
    go_wp2_with fail
    refine (HV.out W (HV0.out.below hB lr)).mono ?_
    rintro e1 W1 ⟨_, rfl, rfl, hb1⟩
    clear co30 co31 co32 fo3 co40 co41 co42 co43 co44 fo4 co50 co51 co52 co53 co54 fo5 co60 co61 co62 fo6
    have hsW1 : W.heap.size ≤ W1.heap.size := hb1.size; have hB := hB.trans (hb1.mono hB.size); have o3 := o3.below hb1 o3.lt; have o4 := o4.below hb1 o4.lt; have o5 := o5.below hb1 o5.lt; have o6 := o6.below hb1 o6.lt
    have fo6 := o6.free; have co60 := o6.cell 0 _ rfl; have co61 := o6.cell 1 _ rfl; have co62 := o6.cell 2 _ rfl
    go_wp2_with fail
    exact bodyPost_ret (by simp [results, Tryz.results13, go_sem, co60, co61, co62]) rfl ⟨_, rfl, ⟨_, rfl, zeroQ _⟩, below3 hB (by omega)⟩
end Go.Proofs.YtpnfdlnhmhekeaaGreat
