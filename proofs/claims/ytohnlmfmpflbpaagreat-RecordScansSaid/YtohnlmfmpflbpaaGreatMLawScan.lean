/- RecordScans, whatever the bytes and the number. Conditions: none. -/
import Derived.Test.YtohnlmfmpflbpaaGreatMAwake
import Derived.Test.YtohnlmfmpflbpaaGreatMScan
import Derived.Test.YtohnlmfmpflbpaaGreatMScanRun
import Derived.LoopN
set_option linter.unusedSimpArgs false
set_option linter.unusedVariables false
set_option linter.all false
namespace Go.Proofs.YtohnlmfmpflbpaaGreat
open Go.RowKit

theorem bodyM_ret {P : Program} {fn : Func} {n : Nat} {R : Ending → World → Prop} {a : Act} {w : World} {v : Value} (hr : (results fn a.tmps).run P w = .ok v w) (hd : a.defers = []) (hR : R (.returned v) w) : bodyPostM Fence.wide n P fn R .ret a w := by
  show LeavesInM Fence.wide n P fn a.tmps R a.defers .returning w
  rw [hd]
  exact ⟨v, hr, hR⟩

theorem bodyM_ret2 {P : Program} {fn : Func} {n : Nat} {R : Ending → World → Prop} {a : Act} {w : World} {v : Value} {D1 D2 : Nat} (hd : a.defers = [{ target := .collected D2, args := #[] }, { target := .collected D1, args := #[] }])
    (h2 : w.heap[D2]? = some (.deferred (some []))) (h1 : w.heap[D1]? = some (.deferred (some []))) (hne : D1 ≠ D2)
    (hr : (results fn a.tmps).run P ((w.putObj D2 (.deferred none)).putObj D1 (.deferred none)) = .ok v ((w.putObj D2 (.deferred none)).putObj D1 (.deferred none))) (hR : R (.returned v) ((w.putObj D2 (.deferred none)).putObj D1 (.deferred none))) : bodyPostM Fence.wide n P fn R .ret a w := by
  show LeavesInM Fence.wide n P fn a.tmps R a.defers .returning w
  rw [hd]
  have h3 : (w.putObj D2 (.deferred none)).heap[D1]? = some (.deferred (some [])) := by
    have hl := (Array.getElem?_eq_some_iff.1 h1).1
    exact ((grownBy_putObj' w D2 (.deferred none)).block D1 hl (fun e => hne (Option.some.inj e))).trans h1
  refine ⟨by simp, .inl ⟨D2, _, rfl, run_takeDeferred h2, ?_⟩⟩
  refine ⟨by simp, .inl ⟨D1, _, rfl, run_takeDeferred h3, ?_⟩⟩
  exact ⟨v, hr, hR⟩

set_option maxRecDepth 100000 in
set_option maxHeartbeats 6400000 in
theorem recordScans_spec (a : Option Addr) (bl : List UInt8) (n c s : Nat) (w : World) (hA : BytesA w a bl) (Hn : Hid (bl.length = n)) (HNO : Hid (a = none → n = 0 ∧ c = 0)) (hc : n ≤ c) (hcm : c ≤ 9223372036854775807) (hs : s < 256) :
    Calls Tryz.prog 4 #[.slice a n c, .int .u8 (s : Int)] w (Ret w fun _ v' => v' = .bool true) := by
  have hst := run_store_float
  refine (callsIn_wide (n := 5)).1 (callsIn_of_wp_marks Tryz.func4 rfl trivial (wpIn_wide.2 ?_))
  simp only [Tryz.ntmps4, List.size_toArray, List.length_cons, List.length_nil, Nat.reduceAdd, Nat.reduceSub, Array.replicate_succ, Array.replicate_zero, List.push_toArray, List.append_toArray, List.nil_append, List.cons_append]
  go_upto_region 1 with (fail)
  obtain ⟨W, hW, o4, hB, hS⟩ := boxes1 w 4 [.bool false]
  rw [← hW]
  clear hW
  have hA1 := hA.below hB (Nat.le_refl _)
  by_cases hbig : 600 < n
  · have fo4 := o4.free; have co40 := o4.cell 0 _ rfl
    go_wp2_with fail
    refine (awake_spec W).mono ?_
    rintro e W2 ⟨_, rfl, rfl, hb2⟩
    have hB2 := hB.trans (hb2.mono hB.size)
    have p4 := o4.below hb2 o4.lt
    clear co40 fo4
    have fp4 := p4.free; have cp40 := p4.cell 0 _ rfl
    go_wp2_with fail
    refine bodyM_ret (v := .bool true) (by simp [results, Tryz.results4, go_sem, cp40]) rfl ⟨_, rfl, rfl, hB2.setCell (Nat.le_refl _) _⟩
  · go_upto_region 3 with (fail)
    have ow0 : OwnB (W.alloc (.cells #[] 5)) W.heap.size (.slice (some ⟨W.heap.size, 0, none⟩) 0 0) [] := ⟨by simp, .inr ⟨W.heap.size, 0, #[], rfl, Nat.le_refl _, own_new W 5 [], Nat.le_refl _, by unfold maxLen; omega, rfl, rfl⟩⟩
    have hBb : Below W.heap.size W (W.alloc (.cells #[] 5)) := (Below.refl _ _).alloc (Nat.le_refl _) _
    have hsb : W.heap.size ≤ (W.alloc (.cells #[] 5)).heap.size := hBb.size
    have hA2 := hA1.below hBb (Nat.le_refl _)
    go_wp2_with (at_builtin; refine append_bytesA (W.alloc (.cells #[] 5)) rfl (.tmp 22) (.tmp 23) _ rfl Tryz.underlying31 W.heap.size _ [] bl a n c rfl rfl ow0 hA2 Hn.out HNO.out (by simp) (by omega) hsb ?_; intro v5 W5 ow5 hg5; have hb5 := hBb.grown hg5 hsb (fun k hk => (World.ownsRow.lt ow0 k hk).1); clear hg5)
    rw [List.nil_append] at ow5
    obtain ⟨a5, c5, rfl, hc51, hc52⟩ := ow5.shape
    rw [Hn.out] at ow5 hc51 ⊢
    clear ow0 hBb hsb hA2
    have hsW5 : W.heap.size ≤ W5.heap.size := hb5.size; have hB := hB.trans (hb5.mono hB.size); have o4 := o4.below hb5 o4.lt
    have hA5 := hA1.below hb5 (Nat.le_refl _)
    clear hA1
    refine (callsIn_wide.1 (scan_in a5 bl n c5 W5 ow5.bytes Hn hc51 hc52 (by omega))).mono ?_
    rintro e W6 ⟨vf, vg, base, xs, rfl, hS1, hrf, hrg, hht, hb6⟩
    clear ow5
    have hsW6 : W5.heap.size ≤ W6.heap.size := hb6.size; have hB := hB.trans (hb6.mono hB.size); have o4 := o4.below hb6 o4.lt
    have hA6 := hA5.below hb6 (Nat.le_refl _)
    clear hA5
    go_wp2_with fail
    refine (refScan_spec a bl n c W6 hA6 Hn hc hcm (by omega)).mono ?_
    rintro e W7 ⟨vf2, vg2, base2, ys, rfl, hS2, hrf2, hrg2, hht2, hb7⟩
    have hsW7 : W6.heap.size ≤ W7.heap.size := hb7.size; have hB := hB.trans (hb7.mono hB.size); have o4 := o4.below hb7 o4.lt
    have hA7 := hA6.below hb7 (Nat.le_refl _)
    replace hrf := row_below hrf hb7
    replace hrg := row_below hrg hb7
    have hht := fun x hx => (hht x hx).1.below hb7 (Nat.le_refl _)
    clear hA6
    obtain ⟨N, hN⟩ : ∃ N, N = ys.length := ⟨_, rfl⟩
    have hlx : xs.length = N := by
      have h1 := congrArg List.length (hS1.trans hS2.symm)
      simpa [hN] using h1
    have hNn : N ≤ n := by
      have hlen := scan_len (l := bl) bl.length 0 (by omega)
      have h1 := congrArg List.length hS2
      rw [List.length_map] at h1
      rw [Hn.out] at hlen
      omega
    rw [hlx] at hrf
    rw [← hN] at hrf2
    have HN := Lib.hid hN.symm
    have HLX := Lib.hid hlx
    have HS1 := Lib.hid hS1
    have HS2 := Lib.hid hS2
    obtain ⟨af, cf, hsf, -, -⟩ := row_shape hrf
    subst hsf
    obtain ⟨af2, cf2, hsf2, -, -⟩ := row_shape hrf2
    subst hsf2
    obtain ⟨G, hG⟩ : ∃ G, G = gapsOf (scanFrom bl 0) n := ⟨_, rfl⟩
    rw [← hG] at hrg hrg2
    obtain ⟨ag, cg, hsg, hgl1, hgl2⟩ := row_shape hrg
    subst hsg
    obtain ⟨ag2, cg2, hsg2, -, -⟩ := row_shape hrg2
    subst hsg2
    clear hN hlx hS1 hS2 hG
    go_upto_region 5 with (fail)
    obtain ⟨V, hV, o7, hBV, hSV⟩ := boxes1 W7 51 [.slice af2 N cf2]
    rw [← hV]
    clear hV
    have hsV : W7.heap.size ≤ V.heap.size := hBV.size; have hB := hB.trans (hBV.mono hB.size); have o4 := o4.below hBV o4.lt
    have hA8 := hA7.below hBV (Nat.le_refl _)
    replace hrf := row_below hrf hBV
    replace hrg := row_below hrg hBV
    replace hrf2 := row_below hrf2 hBV
    replace hrg2 := row_below hrg2 hBV
    have hht := fun x hx => (hht x hx).below hBV (Nat.le_refl _)
    have hht2' : Hits base2 V ys := fun x hx => ⟨(hht2 x hx).1.below hBV (Nat.le_refl _), (hht2 x hx).2.below hBV (Nat.le_refl _)⟩
    clear hht2 hA7
    generalize W7.heap.size = w2s at *
    have fo7 := o7.free; have co70 := o7.cell 0 _ rfl
    go_wp2_with fail
    clear co70 fo7
    go_loopw [47] (fun iv w3 => ∃ i : Nat, i ≤ N ∧ iv = .int .i64 (i : Int) ∧ Below V.heap.size V w3) (fun i _ => N - (intOf i).toNat)
    case atStart => exact ⟨0, Nat.zero_le _, rfl, Below.refl _ _⟩
    case round =>
      obtain ⟨i, hi, rfl, hb3⟩ := hrel
      by_cases hik : i < N
      · obtain ⟨x, hx⟩ : ∃ x, xs[i]? = some x := ⟨_, List.getElem?_eq_getElem (by have := HLX.out; omega)⟩
        obtain ⟨y, hy, hyk⟩ : ∃ y, ys[i]? = some y ∧ hkey y = hkey x := by
          have h1 : (List.map hkey ys)[i]? = some (hkey x) := by rw [HS2.out, ← HS1.out, List.getElem?_map, hx]; rfl
          rw [List.getElem?_map] at h1
          obtain ⟨y, hy, e⟩ := Option.map_eq_some_iff.1 h1
          exact ⟨y, hy, e⟩
        obtain ⟨p, u, F⟩ := x
        obtain ⟨p', u', F'⟩ := y
        injection hyk.symm with e1 e2
        dsimp only at e1 e2
        subst e1 e2
        have hrx := hht _ (List.mem_of_getElem? hx)
        have hry := (hht2' _ (List.mem_of_getElem? hy)).1
        dsimp only at hrx hry
        obtain ⟨bm, lm2, cm2, bp, lp2, cp2, rfl⟩ := hrx.open
        obtain ⟨bm', lm3, cm3, bp', lp3, cp3, rfl⟩ := hry.open
        have hr1 := (hrx.below hb3 (Nat.le_refl _)).below ((Below.refl wr.heap.size wr).drew) (Nat.le_refl _)
        have hr2 := (hry.below hb3 (Nat.le_refl _)).below ((Below.refl wr.heap.size wr).drew) (Nat.le_refl _)
        obtain ⟨gf, rfl, hcf⟩ := row_at (row_below hrf hb3) (by omega)
        obtain ⟨gh, rfl, hcg⟩ := row_at (row_below hrf2 hb3) (by omega)
        have q7 := o7.below hb3 o7.lt
        have c70 := q7.cell 0 _ rfl
        have fxl : ∀ x ∈ xs, (foundCells x).length = 8 := fun x hx => by
          obtain ⟨_, _, _, _, _, _, e⟩ := (hht x hx).open
          unfold foundCells
          rw [e]
          rfl
        have fc := fun j y hy => hcf (i * 8 + j) y (flatMap_at fxl hx hy)
        have fd := fun j z hz => hcg (i * 8 + j) z (flatMap_at (found_len hht2') hy hz)
        have c0 := fc 0 _ rfl
        have d0 := fd 0 _ rfl
        have c1 := fc 1 _ rfl
        have d1 := fd 1 _ rfl
        have c2 := fc 2 _ rfl
        have d2 := fd 2 _ rfl
        have c3 := fc 3 _ rfl
        have d3 := fd 3 _ rfl
        have c4 := fc 4 _ rfl
        have d4 := fd 4 _ rfl
        have c5 := fc 5 _ rfl
        have d5 := fd 5 _ rfl
        have c6 := fc 6 _ rfl
        have d6 := fd 6 _ rfl
        have c7 := fc 7 _ rfl
        have d7 := fd 7 _ rfl
        rw [Nat.add_zero] at c0 d0
        have j1 : (i : Int) < (N : Int) := by omega
        clear hcf hcg fc fd fxl hx hy hrx hry
        go_upto_region 10 with (fail)
        have HS : Hid (∀ w', Below wr.heap.size wr w' → (fun w' : World => w'.cell? ⟨w2s, 0, none⟩ = some (.slice (some ⟨gh, 0, none⟩) N cf2) ∧ w'.cell? ⟨gf, i * 8, none⟩ = some (.int .i64 (p : Int)) ∧ w'.cell? ⟨gf, i * 8 + 1, none⟩ = some (.int .u32 (F.seq : Int)) ∧ w'.cell? ⟨gf, i * 8 + 2, none⟩ = some (.int .i64 F.point) ∧ w'.cell? ⟨gf, i * 8 + 3, none⟩ = some (.int .i64 F.source) ∧ w'.cell? ⟨gf, i * 8 + 4, none⟩ = some (.int .i64 F.turn) ∧ w'.cell? ⟨gf, i * 8 + 5, none⟩ = some (.float .f32 F.scale) ∧ w'.cell? ⟨gf, i * 8 + 6, none⟩ = some (.slice bm lm2 cm2) ∧ w'.cell? ⟨gf, i * 8 + 7, none⟩ = some (.slice bp lp2 cp2) ∧ w'.cell? ⟨gh, i * 8, none⟩ = some (.int .i64 (p : Int)) ∧ w'.cell? ⟨gh, i * 8 + 1, none⟩ = some (.int .u32 (F.seq : Int)) ∧ w'.cell? ⟨gh, i * 8 + 2, none⟩ = some (.int .i64 F.point) ∧ w'.cell? ⟨gh, i * 8 + 3, none⟩ = some (.int .i64 F.source) ∧ w'.cell? ⟨gh, i * 8 + 4, none⟩ = some (.int .i64 F.turn) ∧ w'.cell? ⟨gh, i * 8 + 5, none⟩ = some (.float .f32 F.scale) ∧ w'.cell? ⟨gh, i * 8 + 6, none⟩ = some (.slice bm' lm3 cm3) ∧ w'.cell? ⟨gh, i * 8 + 7, none⟩ = some (.slice bp' lp3 cp3)) w') := fun w' hb => by
          have hc : ∀ {a : Addr} {v : Value}, wr.cell? a = some v → w'.cell? a = some v := fun {a v} h => (hb.cell (World.block_lt_of_cell? wr _ h)).trans h
          exact ⟨hc c70, hc c0, hc c1, hc c2, hc c3, hc c4, hc c5, hc c6, hc c7, hc d0, hc d1, hc d2, hc d3, hc d4, hc d5, hc d6, hc d7⟩
        have tok1 : True := trivial
        go_region_held3 (fun w' : World => w'.cell? ⟨w2s, 0, none⟩ = some (.slice (some ⟨gh, 0, none⟩) N cf2) ∧ w'.cell? ⟨gf, i * 8, none⟩ = some (.int .i64 (p : Int)) ∧ w'.cell? ⟨gf, i * 8 + 1, none⟩ = some (.int .u32 (F.seq : Int)) ∧ w'.cell? ⟨gf, i * 8 + 2, none⟩ = some (.int .i64 F.point) ∧ w'.cell? ⟨gf, i * 8 + 3, none⟩ = some (.int .i64 F.source) ∧ w'.cell? ⟨gf, i * 8 + 4, none⟩ = some (.int .i64 F.turn) ∧ w'.cell? ⟨gf, i * 8 + 5, none⟩ = some (.float .f32 F.scale) ∧ w'.cell? ⟨gf, i * 8 + 6, none⟩ = some (.slice bm lm2 cm2) ∧ w'.cell? ⟨gf, i * 8 + 7, none⟩ = some (.slice bp lp2 cp2) ∧ w'.cell? ⟨gh, i * 8, none⟩ = some (.int .i64 (p : Int)) ∧ w'.cell? ⟨gh, i * 8 + 1, none⟩ = some (.int .u32 (F.seq : Int)) ∧ w'.cell? ⟨gh, i * 8 + 2, none⟩ = some (.int .i64 F.point) ∧ w'.cell? ⟨gh, i * 8 + 3, none⟩ = some (.int .i64 F.source) ∧ w'.cell? ⟨gh, i * 8 + 4, none⟩ = some (.int .i64 F.turn) ∧ w'.cell? ⟨gh, i * 8 + 5, none⟩ = some (.float .f32 F.scale) ∧ w'.cell? ⟨gh, i * 8 + 6, none⟩ = some (.slice bm' lm3 cm3) ∧ w'.cell? ⟨gh, i * 8 + 7, none⟩ = some (.slice bp' lp3 cp3)) (first | exact HS.out _ (Below.refl _ _).drew | exact HS.out _ hb9) (first
          | (go_simp; go_at_call 21; have _t := tok1; (with_reducible refine (sameFrames_yes _ _ F wr.drew hr1 hr2).mono ?_); rintro e W9 ⟨_, rfl, rfl, hb9⟩; have hb9 : Below wr.heap.size wr W9 := (Below.refl _ _).drew.trans hb9; clear tok1 _t))
        try simp only [Exit.then]
        have hb6 := hb3.trans (hb9.mono hb3.size)
        clear c0 d0 c1 d1 c2 d2 c3 d3 c4 d4 c5 d5 c6 d6 c7 d7 c70 HS hr1 hr2
        go_wp2_with fail
        go_roundw
        case rel => exact ⟨i + 1, by omega, by go_num, hb6⟩
        case measure => simp [intOf]; omega
      · obtain rfl : N = i := by omega
        clear hik
        go_wp2_with fail
        go_loopw [78] (fun iv w4 => ∃ j : Nat, j ≤ G.length ∧ iv = .int .i64 (j : Int) ∧ Below V.heap.size V w4) (fun j _ => G.length - (intOf j).toNat)
        case atStart => exact ⟨0, Nat.zero_le _, rfl, hb3⟩
        case round =>
          clear hb3
          obtain ⟨j, hj, rfl, hb4⟩ := hrel
          by_cases hjg : j < G.length
          · obtain ⟨y, hy⟩ : ∃ y, G[j]? = some y := ⟨_, List.getElem?_eq_getElem hjg⟩
            obtain ⟨gx, rfl, hch⟩ := row_at (row_below hrg hb4) (by omega)
            obtain ⟨gy, rfl, hcg⟩ := row_at (row_below hrg2 hb4) (by omega)
            have y0 := hch (j * 2 + 0) _ (flatMap_at (f := gapCells) (m := 2) (fun _ _ => rfl) hy (j := 0) rfl)
            have y1 := hch (j * 2 + 1) _ (flatMap_at (f := gapCells) (m := 2) (fun _ _ => rfl) hy (j := 1) rfl)
            have z0 := hcg (j * 2 + 0) _ (flatMap_at (f := gapCells) (m := 2) (fun _ _ => rfl) hy (j := 0) rfl)
            have z1 := hcg (j * 2 + 1) _ (flatMap_at (f := gapCells) (m := 2) (fun _ _ => rfl) hy (j := 1) rfl)
            rw [Nat.add_zero] at y0 z0
            have j2 : (j : Int) < (G.length : Int) := by omega
            have hnq := gap_neq (y.1 : Int) (y.2 : Int)
            clear hch hcg hy
            go_upto_region 16 with (fail)
            go_quiet (fail)
            go_wp2_with fail
            go_roundw
            case rel => exact ⟨j + 1, by omega, by go_num, below_drewN hb4 _⟩
            case measure => simp [intOf]; omega
          · have hjg2 : j = G.length := by omega
            subst hjg2
            go_wp2_with fail
            refine (callsIn_wide.1 (all_spec 5 a n c wr)).mono ?_
            rintro e W10 ⟨rfl, hW10⟩
            have hb10 : Below wr.heap.size wr W10 := by rw [hW10]; exact (Below.refl _ _).alloc (Nat.le_refl _) _
            have o0 : Own W10 31 wr.heap.size [.slice a n c] := by rw [hW10]; exact own_new wr _ [.slice a n c]
            have hb11 := hb4.trans (hb10.mono hb4.size)
            have HS10 := Lib.hid (show W10.heap.size = wr.heap.size + 1 by rw [hW10]; simp)
            have q7 := o7.below hb11 o7.lt
            clear hW10
            generalize wr.heap.size = g0 at *
            have fq7 := q7.free; have cq70 := q7.cell 0 _ rfl
            go_wp2_with fail
            obtain ⟨V1, hV1, oS, hBV1, hSV1⟩ := boxes1 W10 3 [.int .i64 ((s : Int) % 8), .int .i64 ((N : Int) + 1)]
            rw [← hV1]
            clear hV1
            have q7 := q7.below hBV1 q7.lt
            have o0 := o0.below hBV1 o0.lt
            have hb12 := hb11.trans (hBV1.mono hb11.size)
            clear cq70 fq7
            generalize W10.heap.size = gS at *
            refine wp_loop_rounds 3 ?_
            rw [rounds_succ]
            have cS0 := oS.cell 0 _ rfl
            have cS1 := oS.cell 1 _ rfl
            go_wp2_with fail
            have es8 : ((s : Int) % 8) = ((s % 8 : Nat) : Int) := by omega
            obtain ⟨X1, hX1, o13, o14, hBX, hSX⟩ := boxes2 V1 3 3 [.int .i64 ((s : Int) % 8)] [.int .i64 0]
            rw [← hX1]
            clear hX1
            have r7 := q7.below hBX q7.lt
            have r0 := o0.below hBX o0.lt
            have rS := oS.below hBX oS.lt
            have hbX := hb12.trans (hBX.mono hb12.size)
            have hltg : g0 < V1.heap.size := o0.lt
            have hlt7 : w2s < V1.heap.size := q7.lt
            have hltS : gS < V1.heap.size := oS.lt
            have hVV := hb12.size
            have hBy : Below w.heap.size w X1 := hB.trans (hbX.mono hB.size)
            have hwV : w.heap.size ≤ V.heap.size := hB.size
            have mkA : ∀ X : World, Below w.heap.size w X → ∀ W', KeepG w.heap.size g0 X W' → BytesA W' a bl := fun X hX W' hk i x hx => by
              obtain ⟨b, o, e, hc⟩ := hA i x hx
              have hl : b < w.heap.size := World.block_lt_of_cell? w ⟨b, o + i, none⟩ hc
              refine ⟨b, o, e, ?_⟩
              have h1 := hk.blk b (.inl hl) (Nat.lt_of_lt_of_le hl hX.size)
              have h2 := hX.block b hl
              simp only [World.cell?] at hc ⊢
              rw [h1, h2]
              exact hc
            have MKA := Lib.hid mkA
            clear mkA cS0 cS1
            rw [es8] at o13
            clear es8
            obtain ⟨mo, hmo⟩ : ∃ mo, mo = s % 8 := ⟨_, rfl⟩
            rw [← hmo] at o13
            have hmo8 : mo < 8 := by omega
            clear hmo
            refine wpIn_wide.1 (scans_range bl g0 w2s V1.heap.size (V1.heap.size + 1) w.heap.size base2 n c mo N cf2 a af2 ys V X1 HS2 HN r7 o13 o14 hrf2 hht2' hbX (by omega) (by omega) (by omega) (by omega) hwV (by omega) (r0.cell 0 _ rfl) (MKA.out X1 hBy) Hn hc hcm (by omega) (by omega) (by omega) ?_ ?_)
            rotate_left
            · intro a w h
              exact h
            intro D1 X2 hD1 hk1 n14 hcol1
            have nS := hk1.own rS (by omega) (fun e => by cases e)
            have n0 := hk1.own r0 (by omega) (fun e => by cases e)
            have n7 := hk1.own r7 (by omega) (fun e => by cases e)
            have n13 := hk1.own o13 (by omega) (fun e => by cases e)
            have hlt14 := o14.lt
            have hbX2 : Below V.heap.size V X2 := hk1.toBelow hbX (by omega)
            clear r7 r0 rS o13 o14 hbX hk1 q7 o0 oS
            have cS0 := nS.cell 0 _ rfl
            have cS1 := nS.cell 1 _ rfl
            have fn7 := n7.free; have cn70 := n7.cell 0 _ rfl; have fn13 := n13.free; have cn130 := n13.cell 0 _ rfl; have fn14 := n14.free; have cn140 := n14.cell 0 _ rfl
            obtain ⟨mm, hmm⟩ : ∃ mm : Nat, mm = min (max mo 1) N := ⟨_, rfl⟩
            rw [← hmm] at cn140
            go_wp2_with fail
            rw [rounds_succ]
            clear cn70 cn130 cn140 fn7 fn13 fn14 hmm
            go_wp2_with fail
            clear cS0 cS1
            have en1 : ((N : Int) + 1) = ((N + 1 : Nat) : Int) := by omega
            obtain ⟨Y1, hY1, y13, y14, hBY, hSY⟩ := boxes2 X2 3 3 [.int .i64 ((N : Int) + 1)] [.int .i64 0]
            rw [← hY1]
            clear hY1
            have m7 := n7.below hBY n7.lt
            have m0 := n0.below hBY n0.lt
            have mS := nS.below hBY nS.lt
            have hbY := hbX2.trans (hBY.mono hbX2.size)
            have hltg2 : g0 < X2.heap.size := n0.lt
            have hlt72 : w2s < X2.heap.size := n7.lt
            have hltS2 : gS < X2.heap.size := nS.lt
            have hVX := hbX2.size
            have hBz : Below w.heap.size w Y1 := hB.trans (hbY.mono hB.size)
            have hD1X : D1 < X2.heap.size := (Array.getElem?_eq_some_iff.1 hcol1).1
            have hcol1Y : Y1.heap[D1]? = some (.deferred (some [])) := (hBY.block D1 hD1X).trans hcol1
            clear hcol1
            rw [en1] at y13
            clear en1
            obtain ⟨mo2, hmo2⟩ : ∃ mo2, mo2 = N + 1 := ⟨_, rfl⟩
            rw [← hmo2] at y13
            refine wpIn_wide.1 (scans_range bl g0 w2s X2.heap.size (X2.heap.size + 1) w.heap.size base2 n c mo2 N cf2 a af2 ys V Y1 HS2 HN m7 y13 y14 hrf2 hht2' hbY (by omega) (by omega) (by omega) (by omega) hwV (by omega) (m0.cell 0 _ rfl) (MKA.out Y1 hBz) Hn hc hcm (by omega) (by omega) (by omega) ?_ ?_)
            rotate_left
            · intro a w h
              exact h
            intro D2 X3 hD2 hk2 k14 hcol2
            have kS := hk2.own mS (by omega) (fun e => by cases e)
            have k7 := hk2.own m7 (by omega) (fun e => by cases e)
            have k13 := hk2.own y13 (by omega) (fun e => by cases e)
            have hlt142 := y14.lt
            have hbX3 : Below V.heap.size V X3 := hk2.toBelow hbY (by omega)
            have hcol1X : X3.heap[D1]? = some (.deferred (some [])) := (hk2.block D1 (by have := hBY.size; omega) (by omega) (fun e => by cases e)).trans hcol1Y
            have hcol1X := Lib.hid hcol1X
            have hcol2 := Lib.hid hcol2
            have hD12 : D1 ≠ D2 := by have := hBY.size; omega
            clear m7 m0 mS y13 y14 hbY hk2 n7 nS n0 n13 n14 hcol1Y
            have cS0 := kS.cell 0 _ rfl
            have cS1 := kS.cell 1 _ rfl
            have fk7 := k7.free; have ck70 := k7.cell 0 _ rfl; have fk13 := k13.free; have ck130 := k13.cell 0 _ rfl; have fk14 := k14.free; have ck140 := k14.cell 0 _ rfl
            obtain ⟨mm2, hmm2⟩ : ∃ mm2 : Nat, mm2 = min (max mo2 1) N := ⟨_, rfl⟩
            rw [← hmm2] at ck140
            go_wp2_with fail
            rw [rounds_succ]
            clear ck70 ck130 ck140 fk7 fk13 fk14 hmm2
            go_wp2_with fail
            have l4 := o4.below hbX3 o4.lt
            have hB3 := hB.trans (hbX3.mono hB.size)
            have hD1X3 : D1 < X3.heap.size := (Array.getElem?_eq_some_iff.1 hcol1X.out).1
            have hD2X3 : D2 < X3.heap.size := (Array.getElem?_eq_some_iff.1 hcol2.out).1
            have hD1w : w.heap.size < D1 := by omega
            have hD2w : w.heap.size < D2 := by have := hBY.size; omega
            clear k7 k13 k14 kS cS0 cS1
            refine (awake_spec X3).mono ?_
            rintro e W9 ⟨_, rfl, rfl, hb9⟩
            have l4 := l4.below hb9 l4.lt
            have hB9 := hB3.trans (hb9.mono hB3.size)
            have e1 : W9.heap[D1]? = some (.deferred (some [])) := (hb9.block D1 hD1X3).trans hcol1X.out
            have e2 : W9.heap[D2]? = some (.deferred (some [])) := (hb9.block D2 hD2X3).trans hcol2.out
            have E1 := Lib.hid e1
            have E2 := Lib.hid e2
            clear e1 e2
            have fl4 := l4.free; have cl40 := l4.cell 0 _ rfl
            go_wp2_with fail
            have hs9 := hB9.size
            have f1 := (Below.heap_setCell W9 ⟨w.heap.size, 0, none⟩ (.bool true) D1 (by show D1 ≠ w.heap.size; omega)).trans E1.out
            have f2 := (Below.heap_setCell W9 ⟨w.heap.size, 0, none⟩ (.bool true) D2 (by show D2 ≠ w.heap.size; omega)).trans E2.out
            have t4 := own_grown (own_grown (l4.set 0 (.bool true)) (grownBy_putObj' _ D2 (.deferred none)) (by intro e; injection e with e; omega)) (grownBy_putObj' _ D1 (.deferred none)) (by intro e; injection e with e; omega)
            have hBf := ((hB9.setCell (p := ⟨w.heap.size, 0, none⟩) (Nat.le_refl _) (.bool true)).grown (grownBy_putObj' _ D2 (.deferred none)) (by simp [World.setCell]; omega) (fun k e => by injection e with e; omega)).grown (grownBy_putObj' _ D1 (.deferred none)) (by simp [World.setCell, World.putObj]; omega) (fun k e => by injection e with e; omega)
            refine bodyM_ret2 (v := .bool true) rfl f2 f1 hD12 (by simp [results, Tryz.results4, go_sem, t4.cell 0 _ rfl]) ⟨_, rfl, rfl, hBf⟩
end Go.Proofs.YtohnlmfmpflbpaaGreat
