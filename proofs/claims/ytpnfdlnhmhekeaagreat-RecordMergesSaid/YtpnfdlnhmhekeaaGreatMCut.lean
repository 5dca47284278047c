/- record.Cut. Conditions: bits. -/
import Derived.Test.YtpnfdlnhmhekeaaGreatMMerge
set_option linter.all false
namespace Go.Proofs.YtpnfdlnhmhekeaaGreat
open Go.RowKit
def inCut (lo hi : CQ) (p : Pt) : Bool := decide (0 ≤ qcmp p.f lo) && decide (qcmp p.f hi ≤ 0)
def cutPts (x : Wv) (lo hi : CQ) : List Pt := x.pts.filter (inCut lo hi)
def cutErr (x : Wv) (lo hi : CQ) : Nat := if vwB x = true ∧ lo.im = 0 ∧ hi.im = 0 then (if (cutPts x lo hi).length = 0 then 5 else 0) else 1
def cutRes (x : Wv) (lo hi : CQ) : Wv := if cutErr x lo hi = 0 then Wv.of (cutPts x lo hi) else Wv.of []
theorem filter_next {p : Pt → Bool} {l : List Pt} {k : Nat} {x : Pt} (h : l[k]? = some x) : (l.take (k + 1)).filter p = (l.take k).filter p ++ (if p x = true then [x] else []) := by
  rw [List.take_add_one, h, List.filter_append]
  simp only [Option.toList_some]
  cases hp : p x <;> simp [hp]
set_option maxRecDepth 100000 in
set_option maxHeartbeats 6400000 in
theorem cut_spec (vv lv hv : Value) (x : Wv) (lo hi : CQ) (e : Nat) (w : World) (hx : WvT w vv x) (hlo : NumRep w lv lo) (hhi : NumRep w hv hi) (hsx : ∀ y ∈ x.fr, Small e y) (hsl : Small e lo) (hsh : Small e hi) (he : e ≤ 100000) :
    Calls Tryz.prog 11 #[vv, lv, hv] w (Ret w (SweepRet (cutErr x lo hi) (cutRes x lo hi))) := by
  have HV := Lib.hid (fun w h => validWaves_spec vv x e w h hsx he)
  have HP := Lib.hid (vw_parts (x := x))
  have HSX := Lib.hid hsx
  have HV0 := Lib.hid hx
  have HL0 := Lib.hid hlo
  have HH0 := Lib.hid hhi
  have HLO := Lib.hid (fun w h => real_spec lv lo w h)
  have HHI := Lib.hid (fun w h => real_spec hv hi w h)
  have HC1 := Lib.hid (fun u y w h1 h2 hy => ncmp_spec u lv y lo e w h1 h2 (hsx y hy) hsl (by omega))
  have HC2 := Lib.hid (fun u y w h1 h2 hy => ncmp_spec u hv y hi e w h1 h2 (hsx y hy) hsh (by omega))
  obtain ⟨vf, va, vb, rfl, hf, ha, hb⟩ := hx
  obtain ⟨af, cf, rfl, -, -⟩ := hf.dims
  obtain ⟨aa, ca, rfl, -, -⟩ := ha.dims
  obtain ⟨ab, cb, rfl, -, -⟩ := hb.dims
  obtain ⟨s0, s2, a1, a3, a4, l1, m1, l3, m3, l4, m4, rfl⟩ := hlo.open
  obtain ⟨t0, t2, d1, d3, d4, p1, q1, p3, q3, p4, q4, rfl⟩ := hhi.open
  have HER1 := Lib.hid (show ¬ (vwB x = true ∧ lo.im = 0 ∧ hi.im = 0) → cutErr x lo hi = 1 ∧ cutRes x lo hi = Wv.of [] from fun h => by
    have hE : cutErr x lo hi = 1 := by unfold cutErr; rw [if_neg h]
    exact ⟨hE, by unfold cutRes; rw [hE]; rfl⟩)
  have HER5 := Lib.hid (show (vwB x = true ∧ lo.im = 0 ∧ hi.im = 0) → (cutPts x lo hi).length = 0 → cutErr x lo hi = 5 ∧ cutRes x lo hi = Wv.of [] from fun h h0 => by
    have hE : cutErr x lo hi = 5 := by unfold cutErr; rw [if_pos h, if_pos h0]
    exact ⟨hE, by unfold cutRes; rw [hE]; rfl⟩)
  have HER0 := Lib.hid (show (vwB x = true ∧ lo.im = 0 ∧ hi.im = 0) → ¬ (cutPts x lo hi).length = 0 → cutErr x lo hi = 0 ∧ cutRes x lo hi = Wv.of (cutPts x lo hi) from fun h h0 => by
    have hE : cutErr x lo hi = 0 := by unfold cutErr; rw [if_pos h, if_neg h0]
    exact ⟨hE, by unfold cutRes; rw [hE]; rfl⟩)
  have HEX := Lib.hid (show cutPts x lo hi = x.pts.filter (inCut lo hi) from rfl)
  have HIN := Lib.hid (show ∀ p, inCut lo hi p = (decide (0 ≤ qcmp p.f lo) && decide (qcmp p.f hi ≤ 0)) from fun p => rfl)
  generalize cutErr x lo hi = E at *
  generalize cutRes x lo hi = X at *
  generalize cutPts x lo hi = CP at *
  obtain ⟨n, hn⟩ : ∃ n, x.fr.length = n := ⟨_, rfl⟩
  obtain ⟨na, hna⟩ : ∃ n, x.a.length = n := ⟨_, rfl⟩
  obtain ⟨nb, hnb⟩ : ∃ n, x.b.length = n := ⟨_, rfl⟩
  rw [hn, hna, hnb] at HV HV0
  rw [hn] at hf
  rw [hn, hna, hnb]
  have HNL := Lib.hid (And.intro hn (And.intro hna hnb))
  have HF := Lib.hid hf
  clear hsx hsl hsh hlo hhi hf ha hb hn hna hnb
  by_cases h1 : vwB x = true
  · by_cases h2 : lo.im = 0
    · by_cases h3 : hi.im = 0
      · have HOK := Lib.hid (And.intro h1 (And.intro h2 h3))
        have HPP := Lib.hid (HP.out h1)
        rw [h1] at HV
        rw [decide_eq_true h2] at HLO
        rw [decide_eq_true h3] at HHI
        clear h1 h2 h3 HER1 HP
        obtain ⟨bf, of', _, _, _, _, _, _, _, _, _, _, _, rfl, hbf, -⟩ := HF.out.num (List.getElem?_eq_getElem (show 0 < x.fr.length by have := HPP.out.1; omega))
        clear hbf
        go_enter Tryz.func11, Tryz.ntmps11
        go_upto_region 1 with (fail)
        obtain ⟨W, hW, o3, o4, o5, o6, hB, hS⟩ := boxes4 w 33 51 51 33 [.slice (some ⟨bf, of', none⟩) n cf, .slice aa na ca, .slice ab nb cb] [.bool s0, .slice a1 l1 m1, .bool s2, .slice a3 l3 m3, .slice a4 l4 m4] [.bool t0, .slice d1 p1 q1, .bool t2, .slice d3 p3 q3, .slice d4 p4 q4] [.slice none 0 0, .slice none 0 0, .slice none 0 0]
        rw [← hW]
        clear hW
        have fo3 := o3.free; have co30 := o3.cell 0 _ rfl; have co31 := o3.cell 1 _ rfl; have co32 := o3.cell 2 _ rfl; have fo4 := o4.free; have co40 := o4.cell 0 _ rfl; have co41 := o4.cell 1 _ rfl; have co42 := o4.cell 2 _ rfl; have co43 := o4.cell 3 _ rfl; have co44 := o4.cell 4 _ rfl; have fo5 := o5.free; have co50 := o5.cell 0 _ rfl; have co51 := o5.cell 1 _ rfl; have co52 := o5.cell 2 _ rfl; have co53 := o5.cell 3 _ rfl; have co54 := o5.cell 4 _ rfl; have fo6 := o6.free; have co60 := o6.cell 0 _ rfl; have co61 := o6.cell 1 _ rfl; have co62 := o6.cell 2 _ rfl
        go_wp2_with fail
        refine (HV.out W (HV0.out.below hB (Nat.le_refl _))).mono ?_
        rintro e1 W1 ⟨_, rfl, rfl, hb1⟩
        clear co30 co31 co32 fo3 co40 co41 co42 co43 co44 fo4 co50 co51 co52 co53 co54 fo5 co60 co61 co62 fo6
        have hsW1 : W.heap.size ≤ W1.heap.size := hb1.size; have hB := hB.trans (hb1.mono hB.size); have o3 := o3.below hb1 o3.lt; have o4 := o4.below hb1 o4.lt; have o5 := o5.below hb1 o5.lt; have o6 := o6.below hb1 o6.lt
        have fo4 := o4.free; have co40 := o4.cell 0 _ rfl; have co41 := o4.cell 1 _ rfl; have co42 := o4.cell 2 _ rfl; have co43 := o4.cell 3 _ rfl; have co44 := o4.cell 4 _ rfl
        go_wp2_with fail
        refine (HLO.out W1 (HL0.out.below hB (Nat.le_refl _))).mono ?_
        rintro e1 W2 ⟨_, rfl, rfl, hb2⟩
        clear co40 co41 co42 co43 co44 fo4
        have hsW2 : W1.heap.size ≤ W2.heap.size := hb2.size; have hB := hB.trans (hb2.mono hB.size); have o3 := o3.below hb2 o3.lt; have o4 := o4.below hb2 o4.lt; have o5 := o5.below hb2 o5.lt; have o6 := o6.below hb2 o6.lt
        have fo5 := o5.free; have co50 := o5.cell 0 _ rfl; have co51 := o5.cell 1 _ rfl; have co52 := o5.cell 2 _ rfl; have co53 := o5.cell 3 _ rfl; have co54 := o5.cell 4 _ rfl
        go_wp2_with fail
        refine (HHI.out W2 (HH0.out.below hB (Nat.le_refl _))).mono ?_
        rintro e1 W3 ⟨_, rfl, rfl, hb3⟩
        clear co50 co51 co52 co53 co54 fo5
        have hsW3 : W2.heap.size ≤ W3.heap.size := hb3.size; have hB := hB.trans (hb3.mono hB.size); have o3 := o3.below hb3 o3.lt; have o4 := o4.below hb3 o4.lt; have o5 := o5.below hb3 o5.lt; have o6 := o6.below hb3 o6.lt
        have hn1024 : n ≤ 1024 := by have := HPP.out.2.1; have := HNL.out.1; omega
        go_upto_region 4 with (fail)
        obtain ⟨V, hV, o8, hBV, hSV⟩ := boxes1 W3 33 [.slice none 0 0, .slice none 0 0, .slice none 0 0]
        rw [← hV]
        clear hV
        have hO0 : OutW V W3.heap.size V.heap.size (Wv.of ((x.pts.take 0).filter (inCut lo hi))) := ⟨_, _, _, ⟨o8, RowOf.nil _ _ _ _ _, RowOf.nil _ _ _ _ _, RowOf.nil _ _ _ _ _, .inl rfl, o8.lt, Nat.le_refl _⟩⟩
        have h6g := o6.lt
        have o3 := o3.below hBV o3.lt; have o4 := o4.below hBV o4.lt; have o5 := o5.below hBV o5.lt; have o6 := o6.below hBV o6.lt
        have hB3 := hB.trans (hBV.mono hB.size)
        have hw3 : w.heap.size ≤ W3.heap.size := hB.size
        generalize W3.heap.size = g8 at *
        have hbase : g8 < V.heap.size := o8.lt
        clear o8 hBV hSV hB
        have fo3 := o3.free; have co30 := o3.cell 0 _ rfl; have co31 := o3.cell 1 _ rfl; have co32 := o3.cell 2 _ rfl
        go_wp2_with fail
        clear co30 co31 co32 fo3
        go_loopw [28] (fun si wr => ∃ (k : Nat), k ≤ n ∧ si = .int .i64 (k : Int) ∧ OutW wr g8 V.heap.size (Wv.of ((x.pts.take k).filter (inCut lo hi))) ∧ Below g8 V wr) (fun si _ => n - (intOf si).toNat)
        case atStart => exact ⟨0, Nat.zero_le _, rfl, hO0, Below.refl _ _⟩
        case round =>
          clear hO0
          obtain ⟨k, hk, rfl, hO, hBL⟩ := hrel
          have hBW : Below w.heap.size w wr := hB3.trans (hBL.mono hw3)
          have hgr : g8 < wr.heap.size := by have := hBL.size; omega
          by_cases hkn : k < n
          · obtain ⟨P1, hP1⟩ : ∃ y, x.pts[k]? = some y := ⟨_, List.getElem?_eq_getElem (by rw [Wv.pts_len]; have := HNL.out.1; omega)⟩
            obtain ⟨x1, x2, x3⟩ := Wv.pts_at hP1 HPP.out.2.2.1 HPP.out.2.2.2.1
            obtain ⟨b', o', u0, u2, b1, b3, b4, j1, i1, j3, i3, j4, i4, hab, -, hrep, e0, e1, e2, e3, e4⟩ := (HF.out.below hBW (Nat.le_refl _)).num x1
            injection hab with hab
            injection hab with hb1' ho1' _
            subst hb1' ho1'
            have HMEM := Lib.hid (List.mem_of_getElem? x1)
            have HNX := Lib.hid (filter_next (p := inCut lo hi) hP1)
            have HIP := Lib.hid (HIN.out P1)
            go_upto_region 7 with (fail)
            obtain ⟨U, hU, o10, hBU, hSU⟩ := boxes1 wr 51 [.bool u0, .slice b1 j1 i1, .bool u2, .slice b3 j3 i3, .slice b4 j4 i4]
            rw [← hU]
            clear hU e0 e1 e2 e3 e4
            have hBU0 : Below w.heap.size w U := hBW.trans (hBU.mono hBW.size)
            have hBLU : Below g8 V U := hBL.trans (hBU.mono (by omega))
            have hOU := hO.below hBU
            have hrepU := hrep.below hBU (Nat.le_refl _)
            have r4 := o4.below hBLU (by omega)
            have fr4 := r4.free; have cr40 := r4.cell 0 _ rfl; have cr41 := r4.cell 1 _ rfl; have cr42 := r4.cell 2 _ rfl; have cr43 := r4.cell 3 _ rfl; have cr44 := r4.cell 4 _ rfl; have fo10 := o10.free; have co100 := o10.cell 0 _ rfl; have co101 := o10.cell 1 _ rfl; have co102 := o10.cell 2 _ rfl; have co103 := o10.cell 3 _ rfl; have co104 := o10.cell 4 _ rfl
            go_wp2_with fail
            refine (HC1.out _ P1.f U hrepU (HL0.out.below hBU0 (Nat.le_refl _)) HMEM.out).mono ?_
            rintro e1 Y1 ⟨_, rfl, rfl, hb4⟩
            clear cr40 cr41 cr42 cr43 cr44 fr4 r4 co100 co101 co102 co103 co104 fo10
            have hBY : Below w.heap.size w Y1 := hBU0.trans (hb4.mono hBU0.size)
            have hgU : g8 < U.heap.size := by have := hBU.size; omega
            have hBLY : Below g8 V Y1 := hBLU.trans (hb4.mono (by omega))
            have hOY := hOU.below hb4
            have hrepY := hrepU.below hb4 (Nat.le_refl _)
            have o10' := o10.below hb4 o10.lt
            clear o10 hO hOU hrep hrepU
            generalize qcmp P1.f lo = z1 at *
            by_cases hz1 : 0 ≤ z1
            · have r5 := o5.below hBLY (by omega)
              have fr5 := r5.free; have cr50 := r5.cell 0 _ rfl; have cr51 := r5.cell 1 _ rfl; have cr52 := r5.cell 2 _ rfl; have cr53 := r5.cell 3 _ rfl; have cr54 := r5.cell 4 _ rfl; have fo10' := o10'.free; have co10'0 := o10'.cell 0 _ rfl; have co10'1 := o10'.cell 1 _ rfl; have co10'2 := o10'.cell 2 _ rfl; have co10'3 := o10'.cell 3 _ rfl; have co10'4 := o10'.cell 4 _ rfl
              go_wp2_with fail
              refine (HC2.out _ P1.f Y1 hrepY (HH0.out.below hBY (Nat.le_refl _)) HMEM.out).mono ?_
              rintro e1 Y2 ⟨_, rfl, rfl, hb5⟩
              clear cr50 cr51 cr52 cr53 cr54 fr5 r5 co10'0 co10'1 co10'2 co10'3 co10'4 fo10' o10' hrepY
              have hBY2 : Below w.heap.size w Y2 := hBY.trans (hb5.mono hBY.size)
              have hgY : g8 < Y1.heap.size := by have := hb4.size; omega
              have hBLY2 : Below g8 V Y2 := hBLY.trans (hb5.mono (by omega))
              have hOY2 := hOY.below hb5
              clear hOY
              generalize qcmp P1.f hi = z2 at *
              by_cases hz2 : z2 ≤ 0
              · have hin : inCut lo hi P1 = true := by rw [HIP.out, decide_eq_true hz1, decide_eq_true hz2]; rfl
                have hnx := HNX.out
                rw [if_pos hin] at hnx
                have HNN := Lib.hid hnx
                have hle : ((x.pts.take k).filter (inCut lo hi)).length ≤ k := Nat.le_trans (List.length_filter_le _ _) (by rw [List.length_take]; omega)
                obtain ⟨mm, hmm⟩ : ∃ mm, ((x.pts.take k).filter (inCut lo hi)).length = mm := ⟨_, rfl⟩
                have hn1 := HPP.out.2.1
                have HPUT := Lib.hid (put_spec g8 V.heap.size k _ x (Wv.of ((x.pts.take k).filter (inCut lo hi))) P1.f P1.a P1.b w Y2 hOY2 HV0.out hBY2 hw3 x1 x2 x3 (HPP.out.2.2.2.2.1 _ (List.mem_of_getElem? x2)) (HPP.out.2.2.2.2.2 _ (List.mem_of_getElem? x3)) (by omega) (by have := HPP.out.2.2.1; omega) (by have := HPP.out.2.2.2.1; omega) mm (by simp [Wv.of, hmm]) (by simp [Wv.of, hmm]) (by simp [Wv.of, hmm]) (by have := HNL.out.1; omega))
                rw [← Wv.of_snoc, ← HNN.out] at HPUT
                have r3 := o3.below hBLY2 (by omega)
                clear hnx hin hle hmm hP1 x1 x2 x3 hOY2 hn1
                have fr3 := r3.free; have cr30 := r3.cell 0 _ rfl; have cr31 := r3.cell 1 _ rfl; have cr32 := r3.cell 2 _ rfl
                go_wp2_with fail
                refine HPUT.out.mono ?_
                rintro e1 Y3 ⟨⟨rr, rfl⟩, hO7, hb7⟩
                clear cr30 cr31 cr32 fr3 r3
                go_wp2_with fail
                go_roundw
                case rel => first | exact ⟨k + 1, by omega, by go_num, hO7, hBLY2.trans hb7⟩ | ((repeat apply Exists.intro); exact ⟨⟨k + 1, by omega, by go_num, hO7, hBLY2.trans hb7⟩, rfl⟩)
                case measure => simp [intOf]; omega
              · have hin : ¬ inCut lo hi P1 = true := by rw [HIP.out, decide_eq_false hz2, Bool.and_false]; decide
                have hnx := HNX.out
                rw [if_neg hin, List.append_nil] at hnx
                rw [← hnx] at hOY2
                clear hnx hin hP1 x1 x2 x3
                go_wp2_with fail
                go_roundw
                case rel => first | exact ⟨k + 1, by omega, by go_num, hOY2, hBLY2⟩ | ((repeat apply Exists.intro); exact ⟨⟨k + 1, by omega, by go_num, hOY2, hBLY2⟩, rfl⟩)
                case measure => simp [intOf]; omega
            · have hin : ¬ inCut lo hi P1 = true := by rw [HIP.out, decide_eq_false hz1, Bool.false_and]; decide
              have hnx := HNX.out
              rw [if_neg hin, List.append_nil] at hnx
              rw [← hnx] at hOY
              clear hnx hin hP1 x1 x2 x3 o10' hrepY
              go_wp2_with fail
              go_roundw
              case rel => first | exact ⟨k + 1, by omega, by go_num, hOY, hBLY⟩ | ((repeat apply Exists.intro); exact ⟨⟨k + 1, by omega, by go_num, hOY, hBLY⟩, rfl⟩)
              case measure => simp [intOf]; omega
          · obtain rfl : k = n := by omega
            rw [List.take_of_length_le (by rw [Wv.pts_len]; have := HNL.out.1; omega), ← HEX.out] at hO
            obtain ⟨sf, sa, sb, hO⟩ := hO
            obtain ⟨fa, fc, rfl⟩ := RowOf.shape hO.rf
            obtain ⟨ha, hc, rfl⟩ := RowOf.shape hO.ra
            obtain ⟨ia, ic, rfl⟩ := RowOf.shape hO.rb
            obtain ⟨L, hL⟩ : ∃ L, CP.length = L := ⟨_, rfl⟩
            have hfl : (Wv.of CP).fr.length = L := by simp [Wv.of, hL]
            rw [hfl] at hO
            have hbx := hO.box
            have r6 := o6.below hBL (by omega)
            by_cases hL0 : L = 0
            · subst hL0
              obtain ⟨rfl, rfl⟩ := HER5.out HOK.out hL
              clear hfl HER5 HER0 hL
              have fr6 := r6.free; have cr60 := r6.cell 0 _ rfl; have cr61 := r6.cell 1 _ rfl; have cr62 := r6.cell 2 _ rfl; have fhbx := hbx.free; have chbx0 := hbx.cell 0 _ rfl; have chbx1 := hbx.cell 1 _ rfl; have chbx2 := hbx.cell 2 _ rfl
              go_wp2_with fail
              exact bodyPost_ret (by simp [results, Tryz.results11, go_sem, cr60, cr61, cr62]) rfl ⟨_, rfl, ⟨_, rfl, zeroW _⟩, below3 hBW (by omega)⟩
            · obtain ⟨rfl, rfl⟩ := HER0.out HOK.out (by omega)
              have hfin := out_box hO r6 rfl
              clear hfl HER5 HER0 hL
              have fr6 := r6.free; have cr60 := r6.cell 0 _ rfl; have cr61 := r6.cell 1 _ rfl; have cr62 := r6.cell 2 _ rfl; have fhbx := hbx.free; have chbx0 := hbx.cell 0 _ rfl; have chbx1 := hbx.cell 1 _ rfl; have chbx2 := hbx.cell 2 _ rfl
              go_wp2_with fail
              exact bodyPost_ret (by simp [results, Tryz.results11, go_sem, cr60, cr61, cr62]) rfl ⟨_, rfl, ⟨_, rfl, hfin⟩, below3 hBW (by omega)⟩
      · obtain ⟨rfl, rfl⟩ := HER1.out (fun h => h3 h.2.2)
        rw [h1] at HV
        rw [decide_eq_true h2] at HLO
        rw [decide_eq_false h3] at HHI
        clear h1 h2 h3 HER1 HER5 HER0 HP
        go_enter Tryz.func11, Tryz.ntmps11
        go_upto_region 1 with (fail)
        obtain ⟨W, hW, o3, o4, o5, o6, hB, hS⟩ := boxes4 w 33 51 51 33 [.slice af n cf, .slice aa na ca, .slice ab nb cb] [.bool s0, .slice a1 l1 m1, .bool s2, .slice a3 l3 m3, .slice a4 l4 m4] [.bool t0, .slice d1 p1 q1, .bool t2, .slice d3 p3 q3, .slice d4 p4 q4] [.slice none 0 0, .slice none 0 0, .slice none 0 0]
        rw [← hW]
        clear hW
        have fo3 := o3.free; have co30 := o3.cell 0 _ rfl; have co31 := o3.cell 1 _ rfl; have co32 := o3.cell 2 _ rfl; have fo4 := o4.free; have co40 := o4.cell 0 _ rfl; have co41 := o4.cell 1 _ rfl; have co42 := o4.cell 2 _ rfl; have co43 := o4.cell 3 _ rfl; have co44 := o4.cell 4 _ rfl; have fo5 := o5.free; have co50 := o5.cell 0 _ rfl; have co51 := o5.cell 1 _ rfl; have co52 := o5.cell 2 _ rfl; have co53 := o5.cell 3 _ rfl; have co54 := o5.cell 4 _ rfl; have fo6 := o6.free; have co60 := o6.cell 0 _ rfl; have co61 := o6.cell 1 _ rfl; have co62 := o6.cell 2 _ rfl
        go_wp2_with fail
        refine (HV.out W (HV0.out.below hB (Nat.le_refl _))).mono ?_
        rintro e1 W1 ⟨_, rfl, rfl, hb1⟩
        clear co30 co31 co32 fo3 co40 co41 co42 co43 co44 fo4 co50 co51 co52 co53 co54 fo5 co60 co61 co62 fo6
        have hsW1 : W.heap.size ≤ W1.heap.size := hb1.size; have hB := hB.trans (hb1.mono hB.size); have o3 := o3.below hb1 o3.lt; have o4 := o4.below hb1 o4.lt; have o5 := o5.below hb1 o5.lt; have o6 := o6.below hb1 o6.lt
        have fo4 := o4.free; have co40 := o4.cell 0 _ rfl; have co41 := o4.cell 1 _ rfl; have co42 := o4.cell 2 _ rfl; have co43 := o4.cell 3 _ rfl; have co44 := o4.cell 4 _ rfl
        go_wp2_with fail
        refine (HLO.out W1 (HL0.out.below hB (Nat.le_refl _))).mono ?_
        rintro e1 W2 ⟨_, rfl, rfl, hb2⟩
        clear co40 co41 co42 co43 co44 fo4
        have hsW2 : W1.heap.size ≤ W2.heap.size := hb2.size; have hB := hB.trans (hb2.mono hB.size); have o3 := o3.below hb2 o3.lt; have o4 := o4.below hb2 o4.lt; have o5 := o5.below hb2 o5.lt; have o6 := o6.below hb2 o6.lt
        have fo5 := o5.free; have co50 := o5.cell 0 _ rfl; have co51 := o5.cell 1 _ rfl; have co52 := o5.cell 2 _ rfl; have co53 := o5.cell 3 _ rfl; have co54 := o5.cell 4 _ rfl
        go_wp2_with fail
        refine (HHI.out W2 (HH0.out.below hB (Nat.le_refl _))).mono ?_
        rintro e1 W3 ⟨_, rfl, rfl, hb3⟩
        clear co50 co51 co52 co53 co54 fo5
        have hsW3 : W2.heap.size ≤ W3.heap.size := hb3.size; have hB := hB.trans (hb3.mono hB.size); have o3 := o3.below hb3 o3.lt; have o4 := o4.below hb3 o4.lt; have o5 := o5.below hb3 o5.lt; have o6 := o6.below hb3 o6.lt
        have fo6 := o6.free; have co60 := o6.cell 0 _ rfl; have co61 := o6.cell 1 _ rfl; have co62 := o6.cell 2 _ rfl
        go_wp2_with fail
        exact bodyPost_ret (by simp [results, Tryz.results11, go_sem, co60, co61, co62]) rfl ⟨_, rfl, ⟨_, rfl, zeroW _⟩, below3 hB (by omega)⟩
    · obtain ⟨rfl, rfl⟩ := HER1.out (fun h => h2 h.2.1)
      rw [h1] at HV
      rw [decide_eq_false h2] at HLO
      clear h1 h2 HER1 HER5 HER0 HP HHI
      go_enter Tryz.func11, Tryz.ntmps11
      go_upto_region 1 with (fail)
      obtain ⟨W, hW, o3, o4, o5, o6, hB, hS⟩ := boxes4 w 33 51 51 33 [.slice af n cf, .slice aa na ca, .slice ab nb cb] [.bool s0, .slice a1 l1 m1, .bool s2, .slice a3 l3 m3, .slice a4 l4 m4] [.bool t0, .slice d1 p1 q1, .bool t2, .slice d3 p3 q3, .slice d4 p4 q4] [.slice none 0 0, .slice none 0 0, .slice none 0 0]
      rw [← hW]
      clear hW
      have fo3 := o3.free; have co30 := o3.cell 0 _ rfl; have co31 := o3.cell 1 _ rfl; have co32 := o3.cell 2 _ rfl; have fo4 := o4.free; have co40 := o4.cell 0 _ rfl; have co41 := o4.cell 1 _ rfl; have co42 := o4.cell 2 _ rfl; have co43 := o4.cell 3 _ rfl; have co44 := o4.cell 4 _ rfl; have fo5 := o5.free; have co50 := o5.cell 0 _ rfl; have co51 := o5.cell 1 _ rfl; have co52 := o5.cell 2 _ rfl; have co53 := o5.cell 3 _ rfl; have co54 := o5.cell 4 _ rfl; have fo6 := o6.free; have co60 := o6.cell 0 _ rfl; have co61 := o6.cell 1 _ rfl; have co62 := o6.cell 2 _ rfl
      go_wp2_with fail
      refine (HV.out W (HV0.out.below hB (Nat.le_refl _))).mono ?_
      rintro e1 W1 ⟨_, rfl, rfl, hb1⟩
      clear co30 co31 co32 fo3 co40 co41 co42 co43 co44 fo4 co50 co51 co52 co53 co54 fo5 co60 co61 co62 fo6
      have hsW1 : W.heap.size ≤ W1.heap.size := hb1.size; have hB := hB.trans (hb1.mono hB.size); have o3 := o3.below hb1 o3.lt; have o4 := o4.below hb1 o4.lt; have o5 := o5.below hb1 o5.lt; have o6 := o6.below hb1 o6.lt
      have fo4 := o4.free; have co40 := o4.cell 0 _ rfl; have co41 := o4.cell 1 _ rfl; have co42 := o4.cell 2 _ rfl; have co43 := o4.cell 3 _ rfl; have co44 := o4.cell 4 _ rfl
      go_wp2_with fail
      refine (HLO.out W1 (HL0.out.below hB (Nat.le_refl _))).mono ?_
      rintro e1 W2 ⟨_, rfl, rfl, hb2⟩
      clear co40 co41 co42 co43 co44 fo4
      have hsW2 : W1.heap.size ≤ W2.heap.size := hb2.size; have hB := hB.trans (hb2.mono hB.size); have o3 := o3.below hb2 o3.lt; have o4 := o4.below hb2 o4.lt; have o5 := o5.below hb2 o5.lt; have o6 := o6.below hb2 o6.lt
      have fo6 := o6.free; have co60 := o6.cell 0 _ rfl; have co61 := o6.cell 1 _ rfl; have co62 := o6.cell 2 _ rfl
      go_wp2_with fail
      exact bodyPost_ret (by simp [results, Tryz.results11, go_sem, co60, co61, co62]) rfl ⟨_, rfl, ⟨_, rfl, zeroW _⟩, below3 hB (by omega)⟩
  · obtain ⟨rfl, rfl⟩ := HER1.out (fun h => h1 h.1)
    have h1' : vwB x = false := by simpa using h1
    rw [h1'] at HV
    clear h1 h1' HER1 HER5 HER0 HP HLO HHI
    go_enter Tryz.func11, Tryz.ntmps11
    go_upto_region 1 with (fail)
    obtain ⟨W, hW, o3, o4, o5, o6, hB, hS⟩ := boxes4 w 33 51 51 33 [.slice af n cf, .slice aa na ca, .slice ab nb cb] [.bool s0, .slice a1 l1 m1, .bool s2, .slice a3 l3 m3, .slice a4 l4 m4] [.bool t0, .slice d1 p1 q1, .bool t2, .slice d3 p3 q3, .slice d4 p4 q4] [.slice none 0 0, .slice none 0 0, .slice none 0 0]
    rw [← hW]
    clear hW
    have fo3 := o3.free; have co30 := o3.cell 0 _ rfl; have co31 := o3.cell 1 _ rfl; have co32 := o3.cell 2 _ rfl; have fo4 := o4.free; have co40 := o4.cell 0 _ rfl; have co41 := o4.cell 1 _ rfl; have co42 := o4.cell 2 _ rfl; have co43 := o4.cell 3 _ rfl; have co44 := o4.cell 4 _ rfl; have fo5 := o5.free; have co50 := o5.cell 0 _ rfl; have co51 := o5.cell 1 _ rfl; have co52 := o5.cell 2 _ rfl; have co53 := o5.cell 3 _ rfl; have co54 := o5.cell 4 _ rfl; have fo6 := o6.free; have co60 := o6.cell 0 _ rfl; have co61 := o6.cell 1 _ rfl; have co62 := o6.cell 2 _ rfl
    go_wp2_with fail
    refine (HV.out W (HV0.out.below hB (Nat.le_refl _))).mono ?_
    rintro e1 W1 ⟨_, rfl, rfl, hb1⟩
    clear co30 co31 co32 fo3 co40 co41 co42 co43 co44 fo4 co50 co51 co52 co53 co54 fo5 co60 co61 co62 fo6
    have hsW1 : W.heap.size ≤ W1.heap.size := hb1.size; have hB := hB.trans (hb1.mono hB.size); have o3 := o3.below hb1 o3.lt; have o4 := o4.below hb1 o4.lt; have o5 := o5.below hb1 o5.lt; have o6 := o6.below hb1 o6.lt
    have fo6 := o6.free; have co60 := o6.cell 0 _ rfl; have co61 := o6.cell 1 _ rfl; have co62 := o6.cell 2 _ rfl
    go_wp2_with fail
    exact bodyPost_ret (by simp [results, Tryz.results11, go_sem, co60, co61, co62]) rfl ⟨_, rfl, ⟨_, rfl, zeroW _⟩, below3 hB (by omega)⟩
end Go.Proofs.YtpnfdlnhmhekeaaGreat
