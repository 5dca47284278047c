/- record.Scan: the frames and the gaps. Conditions: fewer than a million bytes. -/
import Derived.Test.YtohnlmfmpflbpaaGreatMLawA
import Derived.Test.YtohnlmfmpflbpaaGreatMScanA
set_option linter.unusedSimpArgs false
set_option linter.unusedVariables false
set_option linter.all false
namespace Go.Proofs.YtohnlmfmpflbpaaGreat
open Go.RowKit Go.Shelf

attribute [local go_sem] Oper.semAt_some

theorem run_store_func (a : Addr) (f : Fn) (x y : Array Value) (m : Mode) (w : World) : (store a (.func f x y) m).run Tryz.prog w = stored Tryz.prog w a (.func f x y) m := run_store Tryz.prog w a _ m rfl

/-- What holds between two rounds of Scan's loop. -/
structure ScanI (w : World) (l : List UInt8) (g4 g5 g6 g7 base : Nat) (pre : List Hit) (vf vg : Value) (W : World) : Prop where
  o4 : Own W 51 g4 [vf]
  o5 : Own W 52 g5 [vg]
  o6 : Own W 3 g6 [.int .i64 ((gapRun (pre.map hkey)).1 : Int)]
  o7 : Own W 110 g7 [.func (.func 46) #[] #[.pointer (some ⟨g6, 0, none⟩), .pointer (some ⟨g5, 0, none⟩)]]
  rf : W.ownsRow base 56 8 vf pre.length (pre.flatMap foundCells)
  rg : W.ownsRow base 59 2 vg (gapRun (pre.map hkey)).2.length ((gapRun (pre.map hkey)).2.flatMap gapCells)
  ht : Hits base W pre
  sc : ∃ rest, scanFrom l 0 = pre.map hkey ++ rest
  hB : Below w.heap.size w W
  bs : base ≤ W.heap.size
def ScanJ (w : World) (l : List UInt8) (g4 g5 g6 g7 base : Nat) (pre : List Hit) (W : World) : Prop := ∃ vf vg, ScanI w l g4 g5 g6 g7 base pre vf vg W
theorem scanJ_own {w : World} {l : List UInt8} {g4 g5 g6 g7 base B : Nat} (hb : w.heap.size ≤ B) : OwnFrom B (ScanJ w l g4 g5 g6 g7 base) := fun s A C row hs hg hr => by
  obtain ⟨vf, vg, h⟩ := hs
  have hr' := fun r e => (hr r e).2
  exact ⟨vf, vg, own_cells h.o4 hg hr', own_cells h.o5 hg hr', own_cells h.o6 hg hr', own_cells h.o7 hg hr', row_cells h.rf hg hr', row_cells h.rg hg hr', h.ht.keepT (keepT_cells hg hr), h.sc,
    h.hB.grown hg h.hB.size (fun k e => Nat.le_trans hb (hr k e).1), Nat.le_trans h.bs hg.size⟩

set_option maxRecDepth 100000 in
set_option maxHeartbeats 4000000 in
theorem scan_in (a : Option Addr) (l : List UInt8) (n cap : Nat) (w : World) (hA : BytesA w a l) (Hn : Hid (l.length = n)) (hcap : n ≤ cap) (hmax : cap ≤ 9223372036854775807) (hn : n ≤ 1000000) :
    CallsIn Fence.wide 5 Tryz.prog 19 #[.slice a n cap] w fun e w' => ∃ vf vg base xs, e = .returned (.tuple #[vf, vg]) ∧ List.map hkey xs = scanFrom l 0 ∧ w'.ownsRow base 56 8 vf xs.length (xs.flatMap foundCells) ∧ w'.ownsRow base 59 2 vg (gapsOf (scanFrom l 0) n).length ((gapsOf (scanFrom l 0) n).flatMap gapCells) ∧ Hits base w' xs ∧ Below w.heap.size w w' := by
  have hsf := run_store_func
  refine callsIn_of_wp_marks Tryz.func19 rfl trivial ?_
  simp only [Tryz.ntmps19, List.size_toArray, List.length_cons, List.length_nil, Nat.reduceAdd, Nat.reduceSub, Array.replicate_succ, Array.replicate_zero, List.push_toArray, List.append_toArray, List.nil_append, List.cons_append]
  gi_wp2
  obtain ⟨W0, hW0, o4, o5, o6, o7, hB0, hS0⟩ := boxes4 w 51 52 3 110 [.slice none 0 0] [.slice none 0 0] [.int .i64 0] [.func (.func 46) #[] #[.pointer (some ⟨w.heap.size + 1 + 1, 0, none⟩), .pointer (some ⟨w.heap.size + 1, 0, none⟩)]]
  rw [← hW0]
  clear hW0
  refine ⟨trivial, (all_spec _ _ _ _ _).mono ?_⟩
  rintro e w' ⟨rfl, rfl⟩
  obtain ⟨W1, hW1, o8, hB1, hS1⟩ := boxes1 W0 31 [.slice a n cap]
  have e1 : W0.alloc (.cells #[.slice a n cap] 31) = W1 := hW1.symm
  rw [e1]
  clear e1 hW1
  replace o4 := o4.below hB1 o4.lt
  replace o5 := o5.below hB1 o5.lt
  replace o6 := o6.below hB1 o6.lt
  replace o7 := o7.below hB1 o7.lt
  have hB := hB0.trans (hB1.mono hB0.size)
  gi_wp2
  have hg8 := o8.cell 0 _ rfl
  have hA1 := hA.below hB (Nat.le_refl _)
  have hAK : ∀ W', KeepG w.heap.size W0.heap.size W1 W' → BytesA W' a l := fun W' hk i x hx => by
    obtain ⟨b, o, e, hc⟩ := hA i x hx
    have hlt := World.block_lt_of_cell? w _ hc
    refine ⟨b, o, e, ?_⟩
    rw [World.cell?_of_block (w := W1) (hk.blk b (.inl hlt) (Nat.lt_of_lt_of_le hlt hB.size)), World.cell?_of_block (w := w) (hB.block b hlt)]
    exact hc
  have hJ0 : ScanJ w l w.heap.size (w.heap.size + 1) (w.heap.size + 1 + 1) (w.heap.size + 1 + 1 + 1) W1.heap.size [] W1 := ⟨_, _, o4, o5, o6, o7, World.ownsRow_nil _ _ _ _, World.ownsRow_nil _ _ _ _, fun x hx => (by cases hx), ⟨_, rfl⟩, hB, Nat.le_refl _⟩
  have hg80 : W0.heap.size < W1.heap.size := o8.lt
  have hw1 : w.heap.size + 5 ≤ W1.heap.size := by omega
  have hg84 : W0.heap.size ≥ w.heap.size + 4 := hS0
  clear o4 o5 o6 o7 o8 hA1
  refine range_wp (g0 := W0.heap.size) (n0 := w.heap.size) rfl (enters_of Tryz.func48 (by kernel_rfl) rfl) (all_yields _ W0.heap.size w.heap.size W1.heap.size a l n cap W1 hg8 hB.size (Nat.le_refl _) hAK Hn hcap hmax) (Below.refl _ _) hB.size hg80 (fun _ => rfl)
    (ScanJ w l w.heap.size (w.heap.size + 1) (w.heap.size + 1 + 1) (w.heap.size + 1 + 1 + 1) W1.heap.size) (fun _ _ _ => False) (scanJ_own hB.size) (fun _ _ _ _ _ h _ _ => h) hJ0 ?assign ?done ?stop
  case stop =>
    rintro D c pre W _ _ h _
    exact h.elim
  case assign =>
    rintro lp pre ⟨at', u, F⟩ W K hJ ⟨hsc, hu, hty⟩ hlt hK
    dsimp only at hu hty
    obtain ⟨am, lm, cm, ap, lp', cp, rfl⟩ := hu.open
    have hst := run_store_float
    simp only [encHit]
    gi_wp2
    obtain ⟨V, hV, o9, hBV, hSV⟩ := boxes1 W 27 [.int .u32 (F.seq : Int), .int .i64 F.point, .int .i64 F.source, .int .i64 F.turn, .float .f32 F.scale, .slice am lm cm, .slice ap lp' cp]
    have hkV : KeepsOthers W V := by rw [hV]; exact KeepsOthers.alloc _ _
    have hJV : ScanJ w l w.heap.size (w.heap.size + 1) (w.heap.size + 1 + 1) (w.heap.size + 1 + 1 + 1) W1.heap.size pre V := by rw [hV]; exact (scanJ_own (B := W1.heap.size) hB.size).alloc _ hJ
    rw [← hV]
    clear hV
    refine hK _ V hkV (KeepG.of_below hBV) ?_
    rintro W2 ⟨hl1, o, o', ho, hoc, hW2⟩
    have hJ2 := (scanJ_own (B := W1.heap.size) hB.size).putObj o' hJV hl1 ho hoc
    have hu2 := (hu.below hBV (Nat.le_refl _)).keepT (hty.below hBV (Nat.le_refl _)) (keepT_put (o' := o') ho hoc)
    have o9 := own_cells o9 (grownBy_putObj' V lp o') (fun r e => by cases e; exact ⟨o, ho, hoc⟩)
    rw [← hW2] at hJ2 hu2 o9
    obtain ⟨hu2, hty2⟩ := hu2
    have hg9 : W1.heap.size < W.heap.size := hlt
    generalize W.heap.size = g9 at *
    clear hW2 ho hoc hJV hkV hBV hSV hu hty hJ hK
    obtain ⟨vf, vg, hI⟩ := hJ2
    have hkk : (pre ++ [(at', (Value.agg #[.int .u32 (F.seq : Int), .int .i64 F.point, .int .i64 F.source, .int .i64 F.turn, .float .f32 F.scale, .slice am lm cm, .slice ap lp' cp]), F)]).map hkey = pre.map hkey ++ [(at', F)] := by rw [List.map_append]; rfl
    have hmem := scan_mem (l := l) l.length 0 (by omega) (at', F) (by obtain ⟨rest, e⟩ := hsc; rw [e]; exact List.mem_append_right _ List.mem_cons_self)
    have hlen := scan_len (l := l) l.length 0 (by omega)
    have hpre : pre.length ≤ n := by
      obtain ⟨rest, e⟩ := hI.sc
      rw [e, List.length_append, List.length_map, Hn.out] at hlen
      omega
    have hgl := gapRun_len (pre.map hkey)
    rw [List.length_map] at hgl
    obtain ⟨hat, hpl⟩ := hmem
    rw [Hn.out] at hat
    have hlp := hu2.lens.2
    dsimp only at hat hpl
    have hlp8 : lp' ≤ 8 := by omega
    have hrun : gapRun (pre.map hkey ++ [(at', F)]) = (at' + 16 + 10 * lp' + 2, (gapRun (pre.map hkey)).2 ++ gap1 (gapRun (pre.map hkey)).1 at') := by rw [gapRun_snoc]; unfold gapSt; rw [hlp]
    have HRUN := Lib.hid hrun
    have HKEY := Lib.hid hkk
    have HSC := Lib.hid hsc
    have hb4 : w.heap.size < W1.heap.size := by omega
    have hb5 : w.heap.size + 1 < W1.heap.size := by omega
    have hb6 : w.heap.size + 1 + 1 < W1.heap.size := by omega
    have hb7 : w.heap.size + 1 + 1 + 1 < W1.heap.size := by omega
    have ne94 : g9 ≠ w.heap.size := by omega
    have ne96 : g9 ≠ w.heap.size + 1 + 1 := by omega
    have ne46 : w.heap.size ≠ w.heap.size + 1 + 1 := by omega
    clear hrun hkk hsc hlen hlp hJ0 hAK hg8
    have o7 := hI.o7
    have fo7 := o7.free; have co70 := o7.cell 0 _ rfl
    gi_wp2
    refine ⟨trivial, (CallsIn.inRound lp (callsIn_wide.2 (gap_spec (w.heap.size + 1 + 1) (w.heap.size + 1) W1.heap.size (gapRun (pre.map hkey)).1 at' vg _ _ W2 hI.o6 hI.o5 hI.rg hb5 (by omega) hI.bs))).mono ?_⟩
    rintro e W3 ⟨⟨v, rfl⟩, vg', o5, hrg, hk2⟩
    have hap := row_ne hI.rf hI.rg (by decide)
    have o4 := hk2.own hI.o4 (by omega) (own_low_ne hI.rg hb4)
    have o6 := hk2.own hI.o6 (by omega) (own_low_ne hI.rg hb6)
    have o7 := hk2.own hI.o7 (by omega) (own_low_ne hI.rg hb7)
    have o9 := hk2.own o9 (by omega) (own_row_ne o9 hI.rg (by decide))
    have hrf := hk2.row hI.rf hb5 hap
    have hkt := keepT_kept2 (B := W1.heap.size) hk2 hb5 hI.rg (by decide) (by decide)
    have hht := hI.ht.keepT hkt
    have hu3 := hu2.keepT hty2 hkt
    have hko := hk2.others hI.o5 hI.rg
    have hkg := hk2.keepG (n0 := w.heap.size) (g0 := W0.heap.size) hI.rg (by omega) (by omega) (by omega) hg80
    have hB3 : Below w.heap.size w W3 := hI.hB.trans ⟨hk2.os, hk2.tape, hk2.output, hk2.size, fun k hk => hk2.block k (Nat.lt_of_lt_of_le hk hI.hB.size) (by omega) (own_low_ne hI.rg (by omega))⟩
    have hbs3 : W1.heap.size ≤ W3.heap.size := Nat.le_trans hI.bs hk2.size
    have hsc3 := hI.sc
    clear hI hu2 hty2 hk2 hkt co70 fo7 hap
    obtain ⟨C, hC⟩ : ∃ C : List Value, C = [.int .i64 (at' : Int), .int .u32 (F.seq : Int), .int .i64 F.point, .int .i64 F.source, .int .i64 F.turn, .float .f32 F.scale, .slice am lm cm, .slice ap lp' cp] := ⟨_, rfl⟩
    have hbA : Below W3.heap.size W3 (W3.alloc (.cells #[.int .i64 (at' : Int), .int .u32 (F.seq : Int), .int .i64 F.point, .int .i64 F.source, .int .i64 F.turn, .float .f32 F.scale, .slice am lm cm, .slice ap lp' cp] 56)) := (Below.refl _ _).alloc (Nat.le_refl _) _
    have hrA := row_below hrf hbA
    have ocs := own_new W3 56 [.int .i64 (at' : Int), .int .u32 (F.seq : Int), .int .i64 F.point, .int .i64 F.source, .int .i64 F.turn, .float .f32 F.scale, .slice am lm cm, .slice ap lp' cp]
    have hle : W1.heap.size ≤ (W3.alloc (.cells #[.int .i64 (at' : Int), .int .u32 (F.seq : Int), .int .i64 F.point, .int .i64 F.source, .int .i64 F.turn, .float .f32 F.scale, .slice am lm cm, .slice ap lp' cp] 56)).heap.size := by have := hbA.size; omega
    obtain ⟨i0, hi, hz0, hz1, hz2⟩ := info_parts info_found
    have fo4 := o4.free; have co40 := o4.cell 0 _ rfl
    have fo9 := o9.free; have co90 := o9.cell 0 _ rfl; have co91 := o9.cell 1 _ rfl; have co92 := o9.cell 2 _ rfl; have co93 := o9.cell 3 _ rfl; have co94 := o9.cell 4 _ rfl; have co95 := o9.cell 5 _ rfl; have co96 := o9.cell 6 _ rfl
    gi_wp2_with (gi_at_builtin; refine wpListIn_append_own _ rfl (.tmp 18) (.tmp 22) 51 rfl W1.heap.size 56 i0 _ 8 96 Tryz.underlying51 hi hz0 hz1 hz2 rfl (by omega) vf pre.length _ rfl hrA ⟨W3.heap.size, 0, none⟩ 1 1 [.int .i64 (at' : Int), .int .u32 (F.seq : Int), .int .i64 F.point, .int .i64 F.source, .int .i64 F.turn, .float .f32 F.scale, .slice am lm cm, .slice ap lp' cp] rfl rfl (fun j u hj => by rw [Addr.add_lit, Nat.zero_add]; exact ocs.cell j u hj) one8 (by unfold maxLen; omega) (by omega) hle ?_; intro v' W4 hm hg _; have p4 := own_grown (o4.below hbA o4.lt) hg (own_low_ne hrA hb4); have p6 := own_grown (o6.below hbA o6.lt) hg (own_low_ne hrA hb6); have p9 := own_grown (o9.below hbA o9.lt) hg (own_row_ne (o9.below hbA o9.lt) hrA (by decide)); have fp4 := p4.free; have cp4 := p4.cell 0 _ rfl; have fp6 := p6.free; have cp6 := p6.cell 0 _ rfl; have cp9 := p9.cell 6 _ rfl; obtain ⟨gv, cv, rfl, hgv, hgv2⟩ := World.ownsRow.form hm (by omega))
    have hkt4 : KeepT W1.heap.size W3 W4 := (keepT_below hbA).trans (keepT_grown hg hrA (by decide) (by decide))
    have o5' := own_grown (o5.below hbA o5.lt) hg (own_low_ne hrA hb5)
    have o7' := own_grown (o7.below hbA o7.lt) hg (own_low_ne hrA hb7)
    have hrgA := row_below hrg hbA
    have hrg4 := hrgA.kept hg (row_ne hrgA hrA (by decide))
    have hs4 := hg.size
    have hB4 : Below w.heap.size w W4 := (hB3.trans (hbA.mono hB3.size)).grown hg (Nat.le_trans hB3.size hbA.size) (fun k e => by have := (hrA.lt k e).1; omega)
    have hb64 : w.heap.size + 1 + 1 ≠ w.heap.size := by omega
    have hw2 : w.heap.size ≤ w.heap.size + 1 + 1 := by omega
    have hn46 : w.heap.size + 1 + 1 ≠ W0.heap.size := by omega
    have hn40 : w.heap.size ≠ W0.heap.size := by omega
    show KeepsOthers W2 _ ∧ KeepG w.heap.size W0.heap.size W2 _ ∧ _
    refine ⟨?_, ?_, .slice (some ⟨gv, 0, none⟩) (pre.length + 1) cv, vg', ?_⟩
    · exact (((hko.trans (KeepsOthers.alloc _ _)).trans (grown_others hg hrA)).trans (KeepsOthers.setCell _ _ _)).trans (KeepsOthers.setCell _ _ _)
    · exact (((hkg.trans (KeepG.of_below hbA)).trans (grown_keepG hg hrA (by omega) hg80)).trans (KeepG.setCell _ (p := ⟨w.heap.size, 0, none⟩) (Nat.le_refl _) hn40 _)).trans (KeepG.setCell _ (p := ⟨w.heap.size + 1 + 1, 0, none⟩) hw2 hn46 _)
    · refine ⟨(p4.set 0 _).far hb64, (o5'.far (by omega)).far (by omega), ?_, (o7'.far (by omega)).far (by omega), ?_, ?_, ?_, ?_, ?_, ?_⟩
      · have h6 := (p6.far (g' := w.heap.size) (i := 0) (u := .slice (some ⟨gv, 0, none⟩) (pre.length + 1) cv) (by omega)).set 0 (.int .i64 ((at' : Int) + 16 + 10 * (lp' : Int) + 2))
        rw [HKEY.out, HRUN.out]
        exact h6
      · rw [List.length_append, List.length_singleton, List.flatMap_append]
        refine row_far (row_far ?_ hb4) hb6
        simpa [foundCells, frCells] using hm
      · rw [HKEY.out, HRUN.out, List.length_append, List.flatMap_append]
        exact row_far (row_far hrg4 hb4) hb6
      · intro x hx
        have hks : ∀ u1 u2, KeepT W1.heap.size W3 ((W4.setCell ⟨w.heap.size, 0, none⟩ u1).setCell ⟨w.heap.size + 1 + 1, 0, none⟩ u2) := fun _ _ => (hkt4.trans (keepT_set (p := ⟨w.heap.size, 0, none⟩) hb4 _)).trans (keepT_set (p := ⟨w.heap.size + 1 + 1, 0, none⟩) hb6 _)
        rcases List.mem_append.1 hx with hx | hx
        · exact (hht x hx).1.keepT (hht x hx).2 (hks _ _)
        · obtain rfl := List.mem_singleton.1 hx
          exact hu3.1.keepT hu3.2 (hks _ _)
      · obtain ⟨rest, e⟩ := HSC.out
        exact ⟨rest, by rw [HKEY.out, e, List.append_assoc]; rfl⟩
      · exact (hB4.setCell (p := ⟨w.heap.size, 0, none⟩) (Nat.le_refl _) _).setCell (p := ⟨w.heap.size + 1 + 1, 0, none⟩) hw2 _
      · simp [World.setCell]; omega
  case done =>
    rintro D xs W hD hS ⟨vf, vg, hI⟩ hK
    have o7 := hI.o7
    have fo7 := o7.free; have co70 := o7.cell 0 _ rfl
    have hlen := scan_len (l := l) l.length 0 (by omega)
    have hgl := gapRun_len (xs.map hkey)
    rw [← hS, Hn.out] at hlen
    have hb5 : w.heap.size + 1 < W1.heap.size := by omega
    gi_wp2
    refine ⟨trivial, (callsIn_wide.2 (gap_spec (w.heap.size + 1 + 1) (w.heap.size + 1) W1.heap.size (gapRun (xs.map hkey)).1 n vg _ _ W hI.o6 hI.o5 hI.rg hb5 (by omega) hI.bs)).mono ?_⟩
    rintro e W3 ⟨⟨v, rfl⟩, vg', o5, hrg, hk2⟩
    have hap := row_ne hI.rf hI.rg (by decide)
    have o4 := hk2.own hI.o4 (by omega) (own_low_ne hI.rg (by omega))
    have hrf := hk2.row hI.rf hb5 hap
    have hht := hI.ht.keepT (keepT_kept2 (B := W1.heap.size) hk2 hb5 hI.rg (by decide) (by decide))
    have hI3 : W1.heap.size ≤ W3.drew.heap.size := Nat.le_trans hI.bs hk2.size
    have hK3 := (hk2.others hI.o5 hI.rg).same D _ hK rfl
    have hB3 : Below w.heap.size w W3 := hI.hB.trans ⟨hk2.os, hk2.tape, hk2.output, hk2.size, fun k hk => hk2.block k (Nat.lt_of_lt_of_le hk hI.hB.size) (by omega) (own_low_ne hI.rg (by omega))⟩
    clear hI hk2 co70 fo7 o7 hap
    have fo4 := o4.free; have co40 := o4.cell 0 _ rfl
    have fo5 := o5.free; have co50 := o5.cell 0 _ rfl
    gi_wp2
    gi_region
    gi_wp2
    have hrow : ∀ r, some D = some r → ∃ o : Obj, W3.drew.heap[r]? = some o ∧ o.isCells = false := fun r e => by cases e; exact ⟨_, hK3, rfl⟩
    have hgp := grownBy_putObj' W3.drew D (.deferred none)
    refine ⟨by simp, .inl ⟨_, _, rfl, run_takeDeferred (w := W3.drew) hK3, ?_⟩⟩
    refine ⟨_, results_tmp2 rfl _ _ _, vf, vg', W1.heap.size, xs, rfl, hS, ?_, ?_, ?_, ?_⟩
    · exact row_cells (World.ownsRow.drew hrf) hgp hrow
    · have h2 := row_cells (World.ownsRow.drew hrg) hgp hrow
      rw [hS] at h2
      unfold gapsOf
      rw [List.length_append, List.flatMap_append]
      exact h2
    · exact fun x hx => (hht x hx).1.keepT (hht x hx).2 (KeepT.trans (fun _ _ _ _ _ _ _ => rfl) (keepT_put (w := W3.drew) hK3 rfl))
    · exact hB3.drew.grown hgp (Nat.le_trans hB.size (by have := hI3; omega)) (fun k e => by cases e; omega)
end Go.Proofs.YtohnlmfmpflbpaaGreat
