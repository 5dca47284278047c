/- The reference's Scan, whatever the bytes. Conditions: none. -/
import Derived.Test.YtohnlmfmpflbpaaGreatMApp
import Derived.Test.YtohnlmfmpflbpaaGreatMFoundAt
import Derived.Test.YtohnlmfmpflbpaaGreatMLawA
import Derived.Test.YtohnlmfmpflbpaaGreatMRefDF
import Derived.Laws.OwnMore
set_option linter.unusedSimpArgs false
set_option linter.unusedVariables false
set_option linter.all false
namespace Go.Proofs.YtohnlmfmpflbpaaGreat
open Go.RowKit

theorem gaps_hit {p : List (Nat × Fr)} {k : Nat} {F : Fr} : gapsOf (p ++ [(k, F)]) (k + 16 + 10 * F.pairs.length + 2) = gapsOf p k ∧ (gapRun (p ++ [(k, F)])).1 = k + 16 + 10 * F.pairs.length + 2 ∧ (gapRun (p ++ [(k, F)])).2 = gapsOf p k := by
  unfold gapsOf
  rw [gapRun_snoc]
  refine ⟨?_, rfl, rfl⟩
  simp [gapSt, gap1]
theorem gaps_on {p : List (Nat × Fr)} {k : Nat} (h : (gapRun p).1 < k) : gapsOf p k = (gapRun p).2 ++ [((gapRun p).1, k)] ∧ gapsOf p (k + 1) = (gapRun p).2 ++ [((gapRun p).1, k + 1)] := by
  unfold gapsOf gap1
  rw [if_pos h, if_pos (by omega)]
  exact ⟨rfl, rfl⟩
theorem gaps_new {p : List (Nat × Fr)} {k : Nat} (h : (gapRun p).1 = k) : gapsOf p k = (gapRun p).2 ∧ gapsOf p (k + 1) = (gapRun p).2 ++ [(k, k + 1)] := by
  unfold gapsOf gap1
  rw [h, if_neg (by omega), if_pos (by omega)]
  exact ⟨List.append_nil _, rfl⟩
theorem set_last {A : List Value} {x y u : Value} {m : Nat} (h : A.length = m) : (A ++ [x, y]).set (m + 1) u = A ++ [x, u] := by
  subst h
  rw [List.set_append_right _ _ (by omega)]
  simp

theorem found_len2 : ∀ (G : List (Nat × Nat)), (G.flatMap gapCells).length = G.length * 2
  | [] => rfl
  | x :: t => by
    rw [List.flatMap_cons, List.length_append, found_len2 t]
    simp [gapCells]; omega

theorem two1 {k : IntKind} {z y : Int} : ∀ u ∈ ([.int k z, .int k y] : List Value), u.oneCell' = true := by
  intro u hu
  simp only [List.mem_cons, List.not_mem_nil, or_false] at hu
  rcases hu with rfl | rfl <;> rfl

/-- What holds at the head of a round. -/
structure RScanI (w : World) (l : List UInt8) (k : Nat) (pre : List Hit) (vf vg : Value) (G : List (Nat × Nat)) (W : World) : Prop where
  rf : W.ownsRow w.heap.size 56 8 vf pre.length (pre.flatMap foundCells)
  rg : W.ownsRow w.heap.size 59 2 vg G.length (G.flatMap gapCells)
  eg : G = gapsOf (pre.map hkey) k
  ht : Hits w.heap.size W pre
  sc : scanFrom l 0 = pre.map hkey ++ scanFrom l k
  hB : Below w.heap.size w W
  ge : (gapRun (pre.map hkey)).1 ≤ k
  gl : ∀ g ∈ (gapRun (pre.map hkey)).2, g.2 < (gapRun (pre.map hkey)).1
  gn : G.length ≤ k

set_option maxRecDepth 100000 in
set_option maxHeartbeats 3200000 in
theorem refScan_spec (a : Option Addr) (l : List UInt8) (n cap : Nat) (w : World) (hA : BytesA w a l) (Hn : Hid (l.length = n)) (hcap : n ≤ cap) (hmax : cap ≤ 9223372036854775807) (hn : n ≤ 900000) :
    Calls Tryz.prog 20 #[.slice a n cap] w fun e w' => ∃ vf vg base xs, e = .returned (.tuple #[vf, vg]) ∧ List.map hkey xs = scanFrom l 0 ∧ w'.ownsRow base 56 8 vf xs.length (xs.flatMap foundCells) ∧ w'.ownsRow base 59 2 vg (gapsOf (scanFrom l 0) n).length ((gapsOf (scanFrom l 0) n).flatMap gapCells) ∧ Hits base w' xs ∧ Below w.heap.size w w' := by
  have hst := run_store_float
  go_enter Tryz.func20, Tryz.ntmps20
  go_wp2_with fail
  have hI0 : RScanI w l 0 [] (.slice none 0 0) (.slice none 0 0) [] w := ⟨World.ownsRow_nil _ _ _ _, World.ownsRow_nil _ _ _ _, rfl, fun x hx => (by cases hx), rfl, Below.refl _ _, Nat.le_refl _, fun x hx => (by cases hx), Nat.le_refl _⟩
  go_loopw [4, 5, 6] (fun sf sg iv wr => ∃ (k : Nat) (pre : List Hit) (G : List (Nat × Nat)) (vf vg : Value), k ≤ n ∧ iv = .int .i64 (k : Int) ∧ sf = vf ∧ sg = vg ∧ RScanI w l k pre vf vg G wr) (fun _ _ i _ => n - (intOf i).toNat)
  case atStart => exact ⟨0, _, _, _, _, Nat.zero_le _, rfl, rfl, rfl, hI0⟩
  case round =>
    clear hI0
    obtain ⟨k, pre, G, vf, vg, hk, rfl, rfl, rfl, hI⟩ := hrel
    by_cases hlt : k < n
    · have hAr := hA.below hI.hB (Nat.le_refl _)
      obtain ⟨b, o, rfl, -⟩ := hAr.cell (i := k) (by rw [Hn.out]; exact hlt)
      have hdl : (l.drop k).length = n - k := by rw [List.length_drop, Hn.out]
      have i1 : (0 : Int) ≤ (k : Int) := by omega
      have i2 : (k : Int) ≤ (n : Int) := by omega
      have i3 : ¬ (cap = k) := by omega
      have HD := Lib.hid (refDecode_fresh (some ⟨b, o + k, none⟩) (l.drop k) (n - k) (cap - k) wr (hAr.drop k) (Lib.hid hdl) (by omega) (by omega))
      have hsz := hI.hB.size
      have hpl : pre.length ≤ n := by
        have hlen := scan_len (l := l) l.length 0 (by omega)
        rw [hI.sc, List.length_append, List.length_map, Hn.out] at hlen
        omega
      clear hdl hAr
      by_cases he : decErr (l.drop k) = 0
      · have hit := scan_hit (l := l) (by rw [Hn.out]; exact hlt) he
        obtain ⟨hl1, hl2⟩ := headLen_le he
        rw [List.length_drop, Hn.out] at hl1 hl2
        have hl18 : 18 ≤ headLen (l.drop k) := by unfold headLen; omega
        have hP : ∀ w v, DecPostF wr.heap.size (l.drop k) w v → ∃ u, v = .tuple #[u, .int .i64 (headLen (l.drop k) : Int), .int .i64 0] ∧ FrRep w u (decFr (l.drop k)) ∧ FrTy wr.heap.size w u := fun w v h => by
          unfold DecPostF at h
          rw [if_pos he, if_pos he, he] at h
          exact h
        have hpn : headLen (l.drop k) = 16 + 10 * (decFr (l.drop k)).pairs.length + 2 := by unfold headLen decFr; simp only [List.length_map, List.length_range]; omega
        generalize decFr (l.drop k) = F at *
        generalize headLen (l.drop k) = N at *
        have HP := Lib.hid hP
        have HIT := Lib.hid hit
        have HPN := Lib.hid hpn
        clear hP hit he hpn
        go_wp2_with fail
        refine HD.out.mono ?_
        rintro e W9 ⟨_, rfl, hpost, hb9⟩
        obtain ⟨u, rfl, hu, hty⟩ := HP.out _ _ hpost
        clear hpost
        obtain ⟨am, lm, cm, ap, lp, cp, rfl⟩ := hu.open
        go_upto_region 6 with (fail)
        obtain ⟨V, hV, o7, hBV, hSV⟩ := boxes1 W9 27 [.int .u32 (F.seq : Int), .int .i64 F.point, .int .i64 F.source, .int .i64 F.turn, .float .f32 F.scale, .slice am lm cm, .slice ap lp cp]
        rw [← hV]
        clear hV
        have hu1 := hu.below hBV (Nat.le_refl _)
        have hty1 := (hty.below (B' := wr.heap.size) hBV (Nat.le_refl _))
        have hbV := hb9.trans (hBV.mono hb9.size)
        have hrf := row_below hI.rf hbV
        have hrg := row_below hI.rg hbV
        have hht := hI.ht.keepT (keepT_below (B := w.heap.size) hbV)
        have hBw := hI.hB.trans (hbV.mono hI.hB.size)
        have hle := hBw.size
        have hbA : Below V.heap.size V (V.alloc (.cells #[.int .i64 (k : Int), .int .u32 (F.seq : Int), .int .i64 F.point, .int .i64 F.source, .int .i64 F.turn, .float .f32 F.scale, .slice am lm cm, .slice ap lp cp] 56)) := (Below.refl _ _).alloc (Nat.le_refl _) _
        have hrA := row_below hrf hbA
        have hlp := hu.lens.2
        obtain ⟨hg1, hg2, hg3⟩ := gaps_hit (p := pre.map hkey) (k := k) (F := F)
        have hst := run_store_float
        have fo7 := o7.free; have co70 := o7.cell 0 _ rfl; have co71 := o7.cell 1 _ rfl; have co72 := o7.cell 2 _ rfl; have co73 := o7.cell 3 _ rfl; have co74 := o7.cell 4 _ rfl; have co75 := o7.cell 5 _ rfl; have co76 := o7.cell 6 _ rfl
        go_wp2_with (at_builtin; (refine append_oneL V rfl (.tmp 25) (.tmp 29) 51 56 (.agg #[.int .i64 0, .int .u32 0, .int .i64 0, .int .i64 0, .int .i64 0, .float .f32 0, .slice none 0 0, .slice none 0 0]) 8 96 rfl Tryz.underlying51 info_found rfl (by omega) (by omega) w.heap.size _ pre.length _ [.int .i64 (k : Int), .int .u32 (F.seq : Int), .int .i64 F.point, .int .i64 F.source, .int .i64 F.turn, .float .f32 F.scale, .slice am lm cm, .slice ap lp cp] rfl hrA rfl rfl one8 (by omega) hle ?_; intro ga ca Y hma hga _))
        have hx : (pre ++ [(k, (Value.agg #[.int .u32 (F.seq : Int), .int .i64 F.point, .int .i64 F.source, .int .i64 F.turn, .float .f32 F.scale, .slice am lm cm, .slice ap lp cp]), F)]).map hkey = pre.map hkey ++ [(k, F)] := by rw [List.map_append]; rfl
        have hkY : KeepT w.heap.size V Y := (keepT_below hbA).trans (keepT_grown hga hrA (by decide) (by decide))
        have hrgY := (row_below hrg hbA).kept hga (row_ne (row_below hrg hbA) hrA (by decide))
        have hBY : Below w.heap.size w Y := (hBw.trans (hbA.mono hBw.size)).grown hga (Nat.le_trans hBw.size hbA.size) (fun k e => by have := (hrA.lt k e).1; omega)
        have hNk : k + N = k + 16 + 10 * F.pairs.length + 2 := by have := HPN.out; omega
        have hI2 : RScanI w l (k + N) (pre ++ [(k, (Value.agg #[.int .u32 (F.seq : Int), .int .i64 F.point, .int .i64 F.source, .int .i64 F.turn, .float .f32 F.scale, .slice am lm cm, .slice ap lp cp]), F)]) (.slice (some ⟨ga, 0, none⟩) (pre.length + 1) ca) u5 G Y := by
          refine ⟨?_, hrgY, ?_, ?_, ?_, hBY, ?_, ?_, by have := hI.gn; omega⟩
          · rw [List.length_append, List.length_singleton, List.flatMap_append]
            simpa [foundCells, frCells] using hma
          · rw [hx, hNk, hg1]; exact hI.eg
          · intro x hx
            rcases List.mem_append.1 hx with hx | hx
            · exact (hht x hx).1.keepT (hht x hx).2 hkY
            · obtain rfl := List.mem_singleton.1 hx
              have hty2 : FrTy w.heap.size V (.agg #[.int .u32 (F.seq : Int), .int .i64 F.point, .int .i64 F.source, .int .i64 F.turn, .float .f32 F.scale, .slice am lm cm, .slice ap lp cp]) := hty.below hBV hsz
              exact hu1.keepT hty2 hkY
          · rw [hx, hI.sc, HIT.out, List.append_assoc]; rfl
          · rw [hx, hg2]; omega
          · rw [hx, hg3, hg2]
            intro y hy
            unfold gapsOf at hy
            rcases List.mem_append.1 hy with hy | hy
            · have h1 := hI.gl y hy
              have h2 := hI.ge
              omega
            · unfold gap1 at hy
              split at hy
              · obtain rfl := List.mem_singleton.1 hy
                show k < _
                omega
              · cases hy
        clear hI
        go_roundw
        case rel => exact ⟨k + N, _, _, _, _, by omega, by go_num, rfl, rfl, hI2⟩
        case measure => simp [intOf]; omega
      · have hm := scan_miss (by rw [Hn.out]; exact hlt) he
        have hz : ((decErr (l.drop k) : Int) == 0) = false := by simp; omega
        go_wp2_with fail
        refine HD.out.mono ?_
        rintro e W9 ⟨_, rfl, hpost, hb9⟩
        unfold DecPostF at hpost
        rw [if_neg he, if_neg he] at hpost
        obtain ⟨u, rfl, hu, -⟩ := hpost
        obtain ⟨am, lm, cm, ap, lp, cp, rfl⟩ := hu.open
        go_upto_region 6 with (fail)
        obtain ⟨V, hV, o7, hBV, hSV⟩ := boxes1 W9 27 [.int .u32 (zeroFr.seq : Int), .int .i64 zeroFr.point, .int .i64 zeroFr.source, .int .i64 zeroFr.turn, .float .f32 zeroFr.scale, .slice am lm cm, .slice ap lp cp]
        rw [← hV]
        clear hV
        have hbV := hb9.trans (hBV.mono hb9.size)
        have hrf := row_below hI.rf hbV
        have hrg := row_below hI.rg hbV
        have hht := hI.ht.keepT (keepT_below (B := w.heap.size) hbV)
        have hBw := hI.hB.trans (hbV.mono hI.hB.size)
        have hle := hBw.size
        have HSC := Lib.hid (show scanFrom l 0 = pre.map hkey ++ scanFrom l (k + 1) by rw [← hm]; exact hI.sc)
        have hge := hI.ge
        have hgl := hI.gl
        have hgn := hI.gn
        have heg := hI.eg
        clear hI hu hb9 hBV hSV o7 hm he HD hbV
        obtain ⟨E, hE⟩ : ∃ E, E = (gapRun (pre.map hkey)).1 := ⟨_, rfl⟩
        obtain ⟨G0, hG0⟩ : ∃ G0, G0 = (gapRun (pre.map hkey)).2 := ⟨_, rfl⟩
        have HGE := Lib.hid hge
        have HGL := Lib.hid hgl
        have hfin : ∀ (G' : List (Nat × Nat)) (vg' : Value) (Z : World), G' = gapsOf (pre.map hkey) (k + 1) → G'.length ≤ k + 1 → Z.ownsRow w.heap.size 56 8 u4 pre.length (pre.flatMap foundCells) → Z.ownsRow w.heap.size 59 2 vg' G'.length (G'.flatMap gapCells) → KeepT w.heap.size V Z → Below w.heap.size w Z → RScanI w l (k + 1) pre u4 vg' G' Z := fun G' vg' Z h1 h1l h2 h3 h4 h5 =>
          ⟨h2, h3, h1, hht.keepT h4, HSC.out, h5, Nat.le_succ_of_le HGE.out, HGL.out, h1l⟩
        have HFIN := Lib.hid hfin
        clear hfin hht HSC
        rw [← hG0] at hgl
        rw [← hE] at hge hgl
        by_cases hEk : E < k
        · obtain ⟨f1, f2⟩ := gaps_on (p := pre.map hkey) (k := k) (by rw [← hE]; exact hEk)
          rw [← hE, ← hG0] at f1 f2
          rw [f1] at heg
          obtain ⟨m, hm⟩ : ∃ m, m = G0.length := ⟨_, rfl⟩
          have hcm : G.length = m + 1 := by rw [heg, List.length_append, ← hm]; rfl
          have hxs : G.flatMap gapCells = G0.flatMap gapCells ++ [.int .i64 (E : Int), .int .i64 (k : Int)] := by rw [heg, List.flatMap_append]; rfl
          have hml : (G0.flatMap gapCells).length = m * 2 := by rw [found_len2, hm]
          obtain ⟨gg, cg, rfl, hcg1, hcg2⟩ := World.ownsRow.form hrg (by omega)
          rw [hxs] at hrg
          have y1 := hrg.cellAt (m * 2 + 1) (by omega)
          rw [List.getElem?_append_right (by omega), hml, show m * 2 + 1 - m * 2 = 1 by omega] at y1
          have y1 : V.cell? ⟨gg, m * 2 + 1, none⟩ = some (.int .i64 (k : Int)) := y1
          have z1 := hrg.frozenAt (m * 2 + 1)
          clear hxs heg
          generalize G.length = c at *
          have s1 : IntKind.i64.wrap ((c : Int) - 1) = (m : Int) := by rw [hcm, show ((m + 1 : Nat) : Int) - 1 = (m : Int) by omega]; exact IntWalk.i64_in _ (by omega)
          have s2 : decide (0 < (c : Int)) = true := by rw [decide_eq_true_eq]; omega
          have s3 : (m : Int) < (c : Int) := by omega
          have hs1 := hrg.stored (m * 2 + 1) (.int .i64 ((k : Int) + 1))
          have s4 : (0 : Int) ≤ (m : Int) := by omega
          have HF2 := Lib.hid f2
          have HCM := Lib.hid hcm
          have HM := Lib.hid hm
          have HGN := Lib.hid hgn
          clear f1 f2 hE hG0 hgl hcm hm hgn
          go_wp2_with fail
          go_roundw
          case rel =>
            obtain ⟨hs2, hs3⟩ := hs1
            rw [set_last hml] at hs2
            have hs3 : V.grownBy _ (Value.slice (some ⟨gg, 0, none⟩) c cg).ownBlock := hs3
            have hne := row_ne hrf hrg (by decide)
            have hfr : (G0 ++ [(E, k + 1)]).flatMap gapCells = G0.flatMap gapCells ++ [.int .i64 (E : Int), .int .i64 ((k : Int) + 1)] := by rw [List.flatMap_append]; rfl
            have hlen : (G0 ++ [(E, k + 1)]).length = c := by rw [List.length_append, ← HM.out, HCM.out]; rfl
            refine ⟨k + 1, pre, G0 ++ [(E, k + 1)], _, _, by omega, by go_num, rfl, rfl, HFIN.out _ _ _ HF2.out.symm ?_ (hrf.kept hs3 hne) ?_ (keepT_grown hs3 hrg (by decide) (by decide)) (hBw.grown hs3 hle (fun j e => (hrg.lt j e).1))⟩
            · rw [hlen]; have := HGN.out; omega
            · rw [hlen, hfr]; exact hs2
          case measure => simp [intOf]; omega
        · obtain ⟨f1, f2⟩ := gaps_new (p := pre.map hkey) (k := k) (by rw [← hE]; omega)
          rw [← hG0] at f1 f2
          rw [f1] at heg
          subst heg
          have hE2 : E = k := by omega
          have HF2 := Lib.hid f2
          have hlo : ∀ x ∈ G, x.2 < k := fun x hx => by have := hgl x hx; omega
          clear f1 f2 hE hG0 hgl hge hEk
          obtain ⟨ag, cg, hsh, hcg1, hcg2⟩ := row_shape hrg
          subst hsh
          have hbA : Below V.heap.size V (V.alloc (.cells #[.int .i64 (k : Int), .int .i64 ((k : Int) + 1)] 59)) := (Below.refl _ _).alloc (Nat.le_refl _) _
          have hrA := row_below hrg hbA
          have hfA := row_below hrf hbA
          have HGN := Lib.hid hgn
          have happ : ∀ (ga ca : Nat) (Y : World), Y.ownsRow w.heap.size 59 2 (.slice (some ⟨ga, 0, none⟩) (G.length + 1) ca) (G.length + 1) (G.flatMap gapCells ++ [.int .i64 (k : Int), .int .i64 ((k : Int) + 1)]) → (V.alloc (.cells #[.int .i64 (k : Int), .int .i64 ((k : Int) + 1)] 59)).grownBy Y (Value.slice ag G.length cg).ownBlock →
              RScanI w l (k + 1) pre u4 (.slice (some ⟨ga, 0, none⟩) (G.length + 1) ca) (G ++ [(k, k + 1)]) Y := fun ga ca Y h1 h2 => by
            refine HFIN.out _ _ _ HF2.out.symm ?_ (hfA.kept h2 (row_ne hfA hrA (by decide))) ?_ ((keepT_below hbA).trans (keepT_grown h2 hrA (by decide) (by decide))) ((hBw.trans (hbA.mono hBw.size)).grown h2 (Nat.le_trans hBw.size hbA.size) (fun j e => (hrA.lt j e).1))
            · rw [List.length_append]; have := HGN.out; simp; omega
            · rw [List.length_append, List.flatMap_append]; exact h1
          have HAPP := Lib.hid happ
          have hgk : G.length ≤ k := hgn
          clear happ HFIN hgn
          by_cases hc0 : G.length = 0
          · obtain rfl : G = [] := List.eq_nil_of_length_eq_zero hc0
            have hrA : (V.alloc (.cells #[.int .i64 (k : Int), .int .i64 ((k : Int) + 1)] 59)).ownsRow w.heap.size 59 2 (.slice ag 0 cg) 0 [] := hrA
            clear hlo hc0 hrg hgk hcg1
            go_wp2_with (at_builtin; refine append_oneL V rfl (.tmp 55) (.tmp 60) 52 59 (.agg #[.int .i64 0, .int .i64 0]) 2 16 rfl Tryz.underlying52 info_gap rfl (by omega) (by omega) w.heap.size _ 0 _ [.int .i64 (k : Int), .int .i64 ((k : Int) + 1)] rfl hrA rfl rfl two1 (by omega) hle ?_; intro ga ca Y hma hga _)
            go_roundw
            case rel => exact ⟨k + 1, pre, _, _, _, by omega, by go_num, rfl, rfl, HAPP.out ga ca Y hma hga⟩
            case measure => simp [intOf]; omega
          · obtain ⟨G1, ⟨p1, q1⟩, hGl⟩ : ∃ G1 x, G = G1 ++ [x] := ⟨_, _, (List.dropLast_concat_getLast (l := G) (fun e => by rw [e] at hc0; exact hc0 rfl)).symm⟩
            have hqk : q1 < k := hlo (p1, q1) (by rw [hGl]; simp)
            obtain ⟨m, hm⟩ : ∃ m, m = G1.length := ⟨_, rfl⟩
            have hcm : G.length = m + 1 := by rw [hGl, List.length_append, ← hm]; rfl
            have hxs : G.flatMap gapCells = G1.flatMap gapCells ++ [.int .i64 (p1 : Int), .int .i64 (q1 : Int)] := by rw [hGl, List.flatMap_append]; rfl
            have hml : (G1.flatMap gapCells).length = m * 2 := by rw [found_len2, hm]
            obtain ⟨gg, _, e, _⟩ := World.ownsRow.form hrg (by omega)
            injection e with e _ e3
            subst e
            subst e3
            have y1 := hrg.cellAt (m * 2 + 1) (by omega)
            rw [hxs, List.getElem?_append_right (by omega), hml, show m * 2 + 1 - m * 2 = 1 by omega] at y1
            have y1 : V.cell? ⟨gg, m * 2 + 1, none⟩ = some (.int .i64 (q1 : Int)) := y1
            clear hlo hc0 hGl hxs hml hm
            have y1A := (hbA.cell (p := ⟨gg, m * 2 + 1, none⟩) (World.block_lt_of_cell? V _ y1)).trans y1
            generalize G.length = c at *
            generalize G.flatMap gapCells = xg at *
            have s1 : IntKind.i64.wrap ((c : Int) - 1) = (m : Int) := by rw [hcm, show ((m + 1 : Nat) : Int) - 1 = (m : Int) by omega]; exact IntWalk.i64_in _ (by omega)
            have s2 : decide (0 < (c : Int)) = true := by rw [decide_eq_true_eq]; omega
            have s3 : (m : Int) < (c : Int) := by omega
            have s4 : (0 : Int) ≤ (m : Int) := by omega
            have s5 : ((q1 : Int) == (k : Int)) = false := by simp; omega
            have hck : c < 1000000 := by omega
            clear hcm
            go_wp2_with (at_builtin; refine append_oneL V rfl (.tmp 55) (.tmp 60) 52 59 (.agg #[.int .i64 0, .int .i64 0]) 2 16 rfl Tryz.underlying52 info_gap rfl (by omega) (by omega) w.heap.size _ c _ [.int .i64 (k : Int), .int .i64 ((k : Int) + 1)] rfl hrA rfl rfl two1 hck hle ?_; intro ga ca Y hma hga _)
            go_roundw
            case rel => exact ⟨k + 1, pre, _, _, _, by omega, by go_num, rfl, rfl, HAPP.out ga ca Y hma hga⟩
            case measure => simp [intOf]; omega
    · have hkn : k = n := by omega
      subst hkn
      obtain ⟨hrf, hrg, heg, hht, hsc, hB, _, _, _⟩ := hI
      have hS : List.map hkey pre = scanFrom l 0 := by rw [hsc, scan_end (by rw [Hn.out]; exact Nat.le_refl _), List.append_nil]
      rw [hS] at heg
      subst heg
      have HS := Lib.hid hS
      clear hsc hS
      obtain ⟨af, cf, hsh, _, _⟩ := row_shape hrf
      subst hsh
      obtain ⟨ag, cg, hsh, _, _⟩ := row_shape hrg
      subst hsh
      go_wp2_with fail
      go_ret2
      exact ⟨_, _, _, pre, rfl, HS.out, hrf, hrg, hht, hB⟩
end Go.Proofs.YtohnlmfmpflbpaaGreat
