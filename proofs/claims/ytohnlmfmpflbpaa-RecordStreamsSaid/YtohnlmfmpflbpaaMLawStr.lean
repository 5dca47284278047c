/- RecordStreams, whatever the frames and the bytes. Conditions: none. -/
import Derived.Test.YtohnlmfmpflbpaaMLoose
import Derived.Test.YtohnlmfmpflbpaaMStrEnd
set_option linter.unusedSimpArgs false
set_option linter.unusedVariables false
set_option linter.all false
namespace Go.Proofs.Ytohnlmfmpflbpaa
open Go.RowKit

def atCells (x : Nat × Fr) : Value := .int .i64 (x.1 : Int)
/-- What holds at the head of a round: k frames lie one after the other. -/
structure StrI (w : World) (fs : List Fr) (nl : List UInt8) (base k : Nat) (vb va vg : Value) (wr : World) : Prop where
  ob : OwnB wr base vb (streamB (noiseAt nl) 0 (fs.take k))
  oa : wr.ownsRow base 3 1 va k ((streamHits (noiseAt nl) 0 0 (fs.take k)).map atCells)
  og : wr.ownsRow base 46 2 vg (gapRun (streamHits (noiseAt nl) 0 0 (fs.take k))).2.length ((gapRun (streamHits (noiseAt nl) 0 0 (fs.take k))).2.flatMap gapCells)
  hv : ∀ f ∈ fs.take k, f.valid = true ∧ f.ok
  hr : (gapRun (streamHits (noiseAt nl) 0 0 (fs.take k))).1 = (streamB (noiseAt nl) 0 (fs.take k)).length
  hB : Below w.heap.size w wr
  bs : base ≤ wr.heap.size

theorem str_next {w Z : World} {fs : List Fr} {nl : List UInt8} {base k gc cc ng : Nat} {B BZ nz E : List UInt8} {H : List (Nat × Fr)} {xg : List Value} {va vg vb : Value} {f : Fr}
    (hM : Mid w base (k + 1) gc cc (BZ ++ E) E (H.map atCells ++ [.int .i64 ((BZ.length : Nat) : Int)]) xg ng va vg vb Z) (hBZ : BZ = B ++ nz)
    (hg : xg = (gapRun H).2.flatMap gapCells ++ (gap1 B.length (B.length + nz.length)).flatMap gapCells) (hng : ng = (gapRun H).2.length + (gap1 B.length (B.length + nz.length)).length)
    (HSB : streamB (noiseAt nl) 0 (fs.take (k + 1)) = B ++ (nz ++ E)) (HSH : streamHits (noiseAt nl) 0 0 (fs.take (k + 1)) = H ++ [(B.length + nz.length, f)])
    (HRUN : gapRun (streamHits (noiseAt nl) 0 0 (fs.take (k + 1))) = ((streamB (noiseAt nl) 0 (fs.take (k + 1))).length, (gapRun H).2 ++ gap1 B.length (B.length + nz.length)))
    (hv : ∀ f ∈ fs.take (k + 1), f.valid = true ∧ f.ok) : StrI w fs nl base (k + 1) vb va vg Z := by
  subst hBZ
  refine ⟨?_, ?_, ?_, hv, ?_, hM.hB, hM.bs⟩
  · rw [HSB, ← List.append_assoc]; exact hM.ob
  · have h := hM.oa
    rw [HSH, List.map_append]
    rw [List.length_append] at h
    exact h
  · have h := hM.og
    subst hg hng
    rw [HRUN, List.flatMap_append, List.length_append]
    exact h
  · rw [HRUN]

theorem one1 {k : IntKind} {z : Int} : ∀ u ∈ ([.int k z] : List Value), u.oneCell' = true := by
  intro u hu
  simp only [List.mem_singleton] at hu
  subst hu; rfl
theorem one2 {k : IntKind} {z y : Int} : ∀ u ∈ ([.int k z, .int k y] : List Value), u.oneCell' = true := by
  intro u hu
  simp only [List.mem_cons, List.not_mem_nil, or_false] at hu
  rcases hu with rfl | rfl <;> rfl

set_option maxRecDepth 100000 in
set_option maxHeartbeats 6400000 in
theorem recordStreams_spec (a : Option Addr) (n c : Nat) (fs : List Fr) (an : Option Addr) (m cn : Nat) (nl : List UInt8) (w : World) (h : FrsL w a fs) (hn : Hid (fs.length = n)) (hc : n ≤ c) (hcm : c ≤ 9223372036854775807)
    (hN : BytesA w an nl) (hm : Hid (nl.length = m)) (hcn : m ≤ cn) (hcnm : cn ≤ 9223372036854775807) :
    Calls Try.prog 6 #[.slice a n c, .slice an m cn] w (Ret w fun _ v' => v' = .bool true) := by
  have hst := run_store_float
  go_enter Try.func6, Try.ntmps6
  go_wp2_with fail
  refine (small_loose a n c 12 fs w h hn.out hc hcm).mono ?_
  rintro e W1 ⟨_, rfl, rfl, hb1⟩
  cases hsm : smallB fs 12
  · have HF := Lib.hid hsm
    clear hsm
    go_wp2_with fail
    refine (awake_spec W1).mono ?_
    rintro e W2 ⟨_, rfl, rfl, hb2⟩
    have hB := hb1.trans (hb2.mono hb1.size)
    go_wp2_with fail
    go_ret
    exact ⟨_, rfl, rfl, hB⟩
  · have hn12 : n ≤ 12 := by
      unfold smallB at hsm
      rw [Bool.and_eq_true, decide_eq_true_eq] at hsm
      rw [← hn.out]; exact hsm.1
    have HF := Lib.hid hsm
    clear hsm
    go_wp2_with fail
    have hI0 : StrI w fs nl W1.heap.size 0 (.slice none 0 0) (.slice none 0 0) (.slice none 0 0) W1 := ⟨World.ownsRow_nil _ _ _ _, World.ownsRow_nil _ _ _ _, World.ownsRow_nil _ _ _ _, (fun f hf => by cases hf), rfl, hb1, Nat.le_refl _⟩
    have hbase : w.heap.size ≤ W1.heap.size := hb1.size
    clear hb1
    generalize W1.heap.size = base at *
    go_loopw [5, 6, 7, 24] (fun sb sa sg iv wr => ∃ (k : Nat) (vb va vg : Value), k ≤ n ∧ iv = .int .i64 (k : Int) ∧ sb = vb ∧ sa = va ∧ sg = vg ∧ StrI w fs nl base k vb va vg wr) (fun _ _ _ i _ => n - (intOf i).toNat)
    case atStart => exact ⟨0, _, _, _, Nat.zero_le _, rfl, rfl, rfl, rfl, hI0⟩
    case round =>
      clear hI0
      obtain ⟨k, vb, va, vg, hk, rfl, rfl, rfl, rfl, hI⟩ := hrel
      by_cases hlt : k < n
      · obtain ⟨f, hf⟩ : ∃ f, fs[k]? = some f := ⟨_, List.getElem?_eq_getElem (by have := hn.out; omega)⟩
        have htk : fs.take (k + 1) = fs.take k ++ [f] := by rw [List.take_add_one, hf]; rfl
        obtain ⟨b, o, am, lm, cm, ap, lp, cp, rfl, q0, q1, q2, q3, q4, q5, q6, e1, e2, e3, e4, hrep⟩ := (h.below hI.hB (Nat.le_refl _)) k f hf
        have hbl := streamB_len (nl := nl) (fs.take k) 0 hI.hv
        have hgl := gapRun_len (streamHits (noiseAt nl) 0 0 (fs.take k))
        rw [streamHits_len, List.length_take, hn.out] at hgl
        rw [List.length_take, hn.out] at hbl
        have HTK := Lib.hid htk
        have HFK := Lib.hid hf
        clear htk hf
        go_upto_region 9 with (fail)
        obtain ⟨V, hV, o9, hBV, hSV⟩ := boxes1 wr 29 [.int .u32 (f.seq : Int), .int .i64 f.point, .int .i64 f.source, .int .i64 f.turn, .float .f32 f.scale, .slice am lm cm, .slice ap lp cp]
        rw [← hV]
        clear hV q0 q1 q2 q3 q4 q5 q6
        have fo9 := o9.free; have co90 := o9.cell 0 _ rfl; have co91 := o9.cell 1 _ rfl; have co92 := o9.cell 2 _ rfl; have co93 := o9.cell 3 _ rfl; have co94 := o9.cell 4 _ rfl; have co95 := o9.cell 5 _ rfl; have co96 := o9.cell 6 _ rfl
        go_wp2_with fail
        clear co90 co91 co92 co93 co94 co95 co96 fo9 o9
        rcases hrep with hrep | hemp
        rotate_left
        · refine (encode_empty _ _ _ _ _ am ap lm cm lp cp V hemp e3 e4).mono ?_
          rintro e W2 ⟨_, rfl, rfl, hb2⟩
          have hB := (hI.hB.trans (hBV.mono hI.hB.size)).trans (hb2.mono (Nat.le_trans hI.hB.size hBV.size))
          clear hI
          go_wp2_with fail
          refine (awake_spec W2).mono ?_
          rintro e W3 ⟨_, rfl, rfl, hb3⟩
          have hB := hB.trans (hb3.mono hB.size)
          go_wp2_with fail
          go_ret
          exact ⟨_, rfl, rfl, hB⟩
        clear e1 e2 e3 e4
        have hrep := hrep.below hBV (Nat.le_refl _)
        cases hv : f.valid
        · refine (encode_no _ f V hrep hv).mono ?_
          rintro e W2 ⟨_, rfl, rfl, hb2⟩
          have hB := (hI.hB.trans (hBV.mono hI.hB.size)).trans (hb2.mono (Nat.le_trans hI.hB.size hBV.size))
          have HV := Lib.hid hv
          clear hv hI
          go_wp2_with fail
          refine (awake_spec W2).mono ?_
          rintro e W3 ⟨_, rfl, rfl, hb3⟩
          have hB := hB.trans (hb3.mono hB.size)
          go_wp2_with fail
          go_ret
          exact ⟨_, rfl, rfl, hB⟩
        · have hok : f.ok := by obtain ⟨_, _, _, _, _, hok⟩ := hrep; exact hok
          refine (encode_yes _ f V hrep hv).mono ?_
          rintro e W2 ⟨vc, rfl, hoc, hb2⟩
          obtain ⟨ac, cc, rfl, hcc1, hcc2⟩ := hoc.shape
          have hE := hoc.bytes
          have hcl := enc_length hv
          have hpl := (Fr.valid_iff.1 hv).1
          have hbv2 : Below wr.heap.size wr W2 := hBV.trans (hb2.mono hBV.size)
          have hvs : ∀ g ∈ fs.take (k + 1), g.valid = true ∧ g.ok := fun g hg => by
            rw [HTK.out] at hg
            rcases List.mem_append.1 hg with hg | hg
            · exact hI.hv g hg
            · obtain rfl := List.mem_singleton.1 hg; exact ⟨hv, hok⟩
          have hrr := hI.hr
          have hrun := stream_run (nz := noiseAt nl) (fs.take k) f hv hrr
          rw [← HTK.out, List.length_take, hn.out, Nat.min_eq_left hk] at hrun
          have hsb := streamB_snoc (noiseAt nl) f (fs.take k) 0
          have hsh := streamHits_snoc (noiseAt nl) f (fs.take k) 0 0
          rw [← HTK.out, List.length_take, hn.out, Nat.min_eq_left hk, Nat.zero_add] at hsb
          rw [← HTK.out, List.length_take, hn.out, Nat.min_eq_left hk, Nat.zero_add, Nat.zero_add] at hsh
          have hg0 : 0 < (enc f).length := by omega
          obtain ⟨gc, rfl⟩ : ∃ gc, ac = some ⟨gc, 0, none⟩ := by
            obtain ⟨g, cap, e, _⟩ := World.ownsRow.form hoc hg0
            injection e with e _ _
            exact ⟨g, e⟩
          have hen : (enc f).length ≤ 98 := by omega
          have hgcV : V.heap.size ≤ gc := (World.ownsRow.lt hoc gc rfl).1
          have hM0 : Mid w base k gc cc (streamB (noiseAt nl) 0 (fs.take k)) (enc f) ((streamHits (noiseAt nl) 0 0 (fs.take k)).map atCells) ((gapRun (streamHits (noiseAt nl) 0 0 (fs.take k))).2.flatMap gapCells) (gapRun (streamHits (noiseAt nl) 0 0 (fs.take k))).2.length u6 u7 u5 W2 :=
            ⟨hI.ob.below hbv2, row_below hI.oa hbv2, row_below hI.og hbv2, hoc.base (Nat.le_trans hI.bs hBV.size), (fun e => by have := (World.ownsRow.lt hI.ob gc e).2; have := hBV.size; omega), hI.hB.trans (hbv2.mono hI.hB.size), Nat.le_trans hI.bs hbv2.size⟩
          have hN2 := hN.below hM0.hB (Nat.le_refl _)
          have HRUN := Lib.hid hrun
          have HSB := Lib.hid hsb
          have HSH := Lib.hid hsh
          have HVS := Lib.hid hvs
          have HV := Lib.hid hv
          clear hI hv hok hrun hsb hsh hvs hb2 hBV hbv2 hrep hoc hE hcl hpl hrr
          obtain ⟨B, hBq⟩ : ∃ B, B = streamB (noiseAt nl) 0 (fs.take k) := ⟨_, rfl⟩
          obtain ⟨H, hHq⟩ : ∃ H, H = streamHits (noiseAt nl) 0 0 (fs.take k) := ⟨_, rfl⟩
          rw [← hBq] at hM0 hbl HRUN HSB HSH
          rw [← hHq] at hM0 hgl HRUN HSH
          clear hBq hHq
          by_cases hz : ∃ x, nl[k]? = some x ∧ 0 < x.toNat % 16
          · obtain ⟨x, hx, hx0⟩ := hz
            have hkm : k < m := by have := (List.getElem?_eq_some_iff.1 hx).1; have := hm.out; omega
            obtain ⟨bn, on, rfl, qn⟩ := hN2.at hx
            have hx8 := x.toNat_lt
            have hnz : noiseAt nl k = noiseB x (x.toNat % 16) := by unfold noiseAt; rw [hx]
            rw [hnz] at HRUN HSB HSH
            obtain ⟨z, hzz⟩ : ∃ z, z = x.toNat % 16 := ⟨_, rfl⟩
            rw [← hzz] at HRUN HSB HSH hx0
            have hz15 : z ≤ 15 := by omega
            have r0 : ((x.toNat : Nat) : Int) % 16 = (z : Int) := by omega
            have r1 : decide (0 < (z : Int)) = true := by rw [decide_eq_true_eq]; omega
            have HQ : Hid (∀ wi : World, Below w.heap.size w wi → wi.cell? ⟨bn, on + k, none⟩ = some (.int .u8 ((x.toNat : Nat) : Int))) := fun wi hb => by
              obtain ⟨b', o', e, hc'⟩ := (hN.below hb (Nat.le_refl _)).at hx
              injection e with e
              injection e with e1 e2
              subst e1 e2
              exact hc'
            clear hnz hzz
            have hMs := hM0
            obtain ⟨avb0, cvb0, hsh0, _, _⟩ := hMs.ob.shape
            subst hsh0
            clear hMs
            go_wp2_with fail
            go_loopw [5, 61] (fun sb iv wi => ∃ j : Nat, j ≤ z ∧ iv = .int .i64 (j : Int) ∧ Mid w base k gc cc (B ++ noiseB x j) (enc f) (H.map atCells) ((gapRun H).2.flatMap gapCells) (gapRun H).2.length u6 u7 sb wi) (fun _ i _ => z - (intOf i).toNat)
            case atStart => exact ⟨0, Nat.zero_le _, rfl, by simpa [noiseB] using hM0⟩
            case round =>
              clear hM0 qn r0
              obtain ⟨j, hj, rfl, hMj⟩ := hrel
              have hjl := noiseB_len x j
              obtain ⟨BZ, hBZ⟩ : ∃ BZ, BZ = B ++ noiseB x j := ⟨_, rfl⟩
              rw [← hBZ] at hMj
              have hBL : BZ.length = B.length + j := by rw [hBZ, List.length_append, hjl]
              have HBZ := Lib.hid hBZ
              clear hBZ hjl
              have qn := HQ.out wr hMj.hB
              by_cases hjz : j < z
              · obtain ⟨y, hy⟩ : ∃ y : UInt8, y = UInt8.ofNat ((x.toNat + j) % 256 % 80) := ⟨_, rfl⟩
                have hyv : y.toNat = (x.toNat + j) % 256 % 80 := by rw [hy, ofNat_val (by omega)]
                have e2 : IntKind.u8.wrap ((x.toNat : Int) + (j : Int)) = (((x.toNat + j) % 256 : Nat) : Int) := by rw [IntKind.wrap_u8']; omega
                have e4 : ((x.toNat : Int) + (j : Int)) % 256 = (((x.toNat + j) % 256 : Nat) : Int) := by omega
                have e3 : ((((x.toNat + j) % 256 : Nat) : Int)) % 80 = ((y.toNat : Nat) : Int) := by rw [hyv]; omega
                have HY := Lib.hid (show BZ ++ [y] = B ++ noiseB x (j + 1) by rw [noiseB_succ, ← hy, ← List.append_assoc, HBZ.out])
                have hBl2 : BZ.length ≤ 1500 := by omega
                clear hy hyv hBL
                generalize (x.toNat + j) % 256 = Y1 at *
                have hWa : Below wr.heap.size wr (wr.alloc (.cells #[.int .u8 ((y.toNat : Nat) : Int)] 5)) := (Below.refl _ _).alloc (Nat.le_refl _) _
                have hMa := hMj.below hWa
                obtain ⟨avb, cvb, hshape, hcv1, hcv2⟩ := hMa.ob.shape
                subst hshape
                go_wp2_with (at_builtin; refine append_oneL wr rfl (.tmp 64) (.tmp 74) 22 5 (.int .u8 0) 1 1 rfl Try.underlying22 info_u8 rfl (by omega) (by omega) base _ BZ.length _ [.int .u8 ((y.toNat : Nat) : Int)] rfl hMa.ob rfl rfl one1 (by omega) hMj.bs ?_; intro gb cb Yb hmb hgb hgx; have hMb := hMa.toB (news := [y]) hbase hmb hgb (fun q e => by cases e; exact hgx))
                rw [HY.out] at hMb
                go_roundw
                case rel => exact ⟨j + 1, by omega, by go_num, hMb⟩
                case measure => simp [intOf]; omega
              · obtain rfl : j = z := by omega
                have hBl2 : BZ.length ≤ 1500 := by omega
                have hWa : Below wr.heap.size wr (wr.alloc (.cells #[.int .i64 ((B.length : Nat) : Int), .int .i64 ((BZ.length : Nat) : Int)] 46)) := (Below.refl _ _).alloc (Nat.le_refl _) _
                have hMa := hMj.below hWa
                obtain ⟨avb1, cvb1, hshape1, _, _⟩ := hMj.ob.shape
                subst hshape1
                have hnl := noiseB_len x j
                have hg1 : gap1 B.length (B.length + (noiseB x j).length) = [(B.length, BZ.length)] := by unfold gap1; rw [hnl, if_pos (by omega), hBL]
                have HXG := Lib.hid (show ((gapRun H).2.flatMap gapCells ++ [.int .i64 ((B.length : Nat) : Int), .int .i64 ((BZ.length : Nat) : Int)]) = (gapRun H).2.flatMap gapCells ++ (gap1 B.length (B.length + (noiseB x j).length)).flatMap gapCells by rw [hg1]; rfl)
                have HNG := Lib.hid (show (gapRun H).2.length + 1 = (gapRun H).2.length + (gap1 B.length (B.length + (noiseB x j).length)).length by rw [hg1]; rfl)
                clear hg1 hnl hBL qn
                go_upto_region 20 with (at_builtin; refine append_oneL wr rfl (.tmp 77) (.tmp 82) 44 46 (.agg #[.int .i64 0, .int .i64 0]) 2 16 rfl Try.underlying44 info_gap rfl (by omega) (by omega) base _ (gapRun H).2.length _ [.int .i64 ((B.length : Nat) : Int), .int .i64 ((BZ.length : Nat) : Int)] rfl hMa.og rfl rfl one2 (by omega) hMj.bs ?_; intro gg cg Yg hmg hgg _; have hMG := hMa.toG hbase hmg hgg)
                have hMx := hMG
                have hXa : Below Yg.heap.size Yg (Yg.alloc (.cells #[.int .i64 ((BZ.length : Nat) : Int)] 3)) := (Below.refl _ _).alloc (Nat.le_refl _) _
                have hMa := hMx.below hXa
                obtain ⟨i8, hi8, hz80, hz81, hz82⟩ := info_parts info_u8
                go_wp2_with (first
                  | (at_builtin; refine append_oneL Yg rfl (.tmp 84) (.tmp 87) 26 3 (.int .i64 0) 1 8 rfl Try.underlying26 info_int rfl (by omega) (by omega) base _ k _ [.int .i64 ((BZ.length : Nat) : Int)] rfl hMa.oa rfl rfl one1 (by omega) hMx.bs ?_; intro ga ca Y hma hga _; have hMY := hMa.toA hbase hma hga)
                  | (at_builtin; refine wpList_append_lies Y rfl (.tmp 89) (.tmp 90) 22 rfl base 5 i8 (.int .u8 0) 1 1 Try.underlying22 hi8 hz80 hz81 hz82 rfl (by decide) _ _ _ rfl hMY.ob ⟨gc, 0, none⟩ (enc f).length cc ((enc f).map byteV) rfl (by simp) (fun j u hj => World.ownsRow.cells hMY.oc (g := gc) rfl j u hj) (fun u hu => by obtain ⟨y, _, rfl⟩ := List.mem_map.1 hu; rfl) (by omega) (by unfold maxLen; omega) (by omega) hMY.bs _ rfl ?_; intro gz cz Z hmz hgz hgx _; have hMZ := hMY.toB hbase hmz hgz (fun q e => by cases e; exact hgx)))
                go_roundw
                case rel => exact ⟨k + 1, _, _, _, by omega, by go_num, rfl, rfl, rfl, str_next (nz := noiseB x j) hMZ HBZ.out HXG.out HNG.out HSB.out HSH.out HRUN.out HVS.out⟩
                case measure => simp [intOf]; omega
          · have hnz : noiseAt nl k = [] := by
              unfold noiseAt
              cases hx : nl[k]? with
              | none => rfl
              | some x =>
                have h0 : x.toNat % 16 = 0 := by
                  rcases Nat.eq_zero_or_pos (x.toNat % 16) with h | h
                  · exact h
                  · exact absurd ⟨x, hx, h⟩ hz
                simp only [h0]; rfl
            rw [hnz] at HRUN HSB HSH
            simp only [List.length_nil, Nat.add_zero] at HRUN HSH
            obtain ⟨BZ, hBZ⟩ : ∃ BZ, BZ = B ++ [] := ⟨_, rfl⟩
            have hM1 : Mid w base k gc cc BZ (enc f) (H.map atCells) ((gapRun H).2.flatMap gapCells ++ (gap1 B.length (B.length + ([] : List UInt8).length)).flatMap gapCells) ((gapRun H).2.length + (gap1 B.length (B.length + ([] : List UInt8).length)).length) u6 u7 u5 W2 := by
              rw [hBZ]
              simpa [gap1] using hM0
            have hBL : BZ.length = B.length := by rw [hBZ, List.append_nil]
            have HBZ := Lib.hid hBZ
            have hBl2 : BZ.length ≤ 1500 := by omega
            clear hM0 hBZ hBL
            by_cases hkm : k < m
            · obtain ⟨x, hx⟩ : ∃ x, nl[k]? = some x := ⟨_, List.getElem?_eq_getElem (by have := hm.out; omega)⟩
              have h0 : x.toNat % 16 = 0 := by
                rcases Nat.eq_zero_or_pos (x.toNat % 16) with h | h
                · exact h
                · exact absurd ⟨x, hx, h⟩ hz
              obtain ⟨bn, on, rfl, qn⟩ := hN2.at hx
              have hx8 := x.toNat_lt
              have r0 : ((x.toNat : Nat) : Int) % 16 = 0 := by omega
              clear hz hx hnz h0
              have hMx := hM1
              obtain ⟨avb, cvb, rfl, hcv1, hcv2⟩ := hMx.ob.shape
              have hXa : Below W2.heap.size W2 (W2.alloc (.cells #[.int .i64 ((BZ.length : Nat) : Int)] 3)) := (Below.refl _ _).alloc (Nat.le_refl _) _
              have hMa := hMx.below hXa
              obtain ⟨i8, hi8, hz80, hz81, hz82⟩ := info_parts info_u8
              go_wp2_with (first
                | (at_builtin; refine append_oneL W2 rfl (.tmp 84) (.tmp 87) 26 3 (.int .i64 0) 1 8 rfl Try.underlying26 info_int rfl (by omega) (by omega) base _ k _ [.int .i64 ((BZ.length : Nat) : Int)] rfl hMa.oa rfl rfl one1 (by omega) hMx.bs ?_; intro ga ca Y hma hga _; have hMY := hMa.toA hbase hma hga)
                | (at_builtin; refine wpList_append_lies Y rfl (.tmp 89) (.tmp 90) 22 rfl base 5 i8 (.int .u8 0) 1 1 Try.underlying22 hi8 hz80 hz81 hz82 rfl (by decide) _ _ _ rfl hMY.ob ⟨gc, 0, none⟩ (enc f).length cc ((enc f).map byteV) rfl (by simp) (fun j u hj => World.ownsRow.cells hMY.oc (g := gc) rfl j u hj) (fun u hu => by obtain ⟨y, _, rfl⟩ := List.mem_map.1 hu; rfl) (by omega) (by unfold maxLen; omega) (by omega) hMY.bs _ rfl ?_; intro gz cz Z hmz hgz hgx _; have hMZ := hMY.toB hbase hmz hgz (fun q e => by cases e; exact hgx)))
              go_roundw
              case rel => exact ⟨k + 1, _, _, _, by omega, by go_num, rfl, rfl, rfl, str_next (nz := []) hMZ HBZ.out rfl rfl HSB.out HSH.out HRUN.out HVS.out⟩
              case measure => simp [intOf]; omega
            · clear hz hnz
              have hMx := hM1
              obtain ⟨avb, cvb, rfl, hcv1, hcv2⟩ := hMx.ob.shape
              have hXa : Below W2.heap.size W2 (W2.alloc (.cells #[.int .i64 ((BZ.length : Nat) : Int)] 3)) := (Below.refl _ _).alloc (Nat.le_refl _) _
              have hMa := hMx.below hXa
              obtain ⟨i8, hi8, hz80, hz81, hz82⟩ := info_parts info_u8
              go_wp2_with (first
                | (at_builtin; refine append_oneL W2 rfl (.tmp 84) (.tmp 87) 26 3 (.int .i64 0) 1 8 rfl Try.underlying26 info_int rfl (by omega) (by omega) base _ k _ [.int .i64 ((BZ.length : Nat) : Int)] rfl hMa.oa rfl rfl one1 (by omega) hMx.bs ?_; intro ga ca Y hma hga _; have hMY := hMa.toA hbase hma hga)
                | (at_builtin; refine wpList_append_lies Y rfl (.tmp 89) (.tmp 90) 22 rfl base 5 i8 (.int .u8 0) 1 1 Try.underlying22 hi8 hz80 hz81 hz82 rfl (by decide) _ _ _ rfl hMY.ob ⟨gc, 0, none⟩ (enc f).length cc ((enc f).map byteV) rfl (by simp) (fun j u hj => World.ownsRow.cells hMY.oc (g := gc) rfl j u hj) (fun u hu => by obtain ⟨y, _, rfl⟩ := List.mem_map.1 hu; rfl) (by omega) (by unfold maxLen; omega) (by omega) hMY.bs _ rfl ?_; intro gz cz Z hmz hgz hgx _; have hMZ := hMY.toB hbase hmz hgz (fun q e => by cases e; exact hgx)))
              go_roundw
              case rel => exact ⟨k + 1, _, _, _, by omega, by go_num, rfl, rfl, rfl, str_next (nz := []) hMZ HBZ.out rfl rfl HSB.out HSH.out HRUN.out HVS.out⟩
              case measure => simp [intOf]; omega
      · have hkn : k = n := by omega
        subst hkn
        have htk : fs.take k = fs := List.take_of_length_le (by rw [hn.out]; exact Nat.le_refl _)
        obtain ⟨ob, oa, og, hv, hr, hB, bs⟩ := hI
        rw [htk] at ob oa og hv hr
        have hbl := streamB_len (nl := nl) fs 0 hv
        rw [hn.out] at hbl
        have hHl := streamHits_len (noiseAt nl) fs 0 0
        rw [hn.out] at hHl
        have hsc := scan_stream (noiseAt_ne nl) (b := streamB (noiseAt nl) 0 fs) fs 0 0 hv (by rw [List.drop_zero])
        have hgp := stream_gaps hr
        have hat : ∀ i f, fs[i]? = some f → ∃ q, (streamHits (noiseAt nl) 0 0 fs)[i]? = some (q, f) := fun i f hf => streamHits_at (noiseAt nl) fs 0 0 hf
        have HAT := Lib.hid hat
        clear hat htk hr
        generalize streamHits (noiseAt nl) 0 0 fs = H at *
        generalize streamB (noiseAt nl) 0 fs = B at *
        have hgl := gapRun_len H
        generalize (gapRun H).2 = G at *
        have HSC := Lib.hid hsc
        have HGP := Lib.hid hgp
        have HVA := Lib.hid hv
        clear hsc hgp hv
        obtain ⟨avb, cvb, hshape, hcv1, hcv2⟩ := ob.shape
        subst hshape
        obtain ⟨aa, ca, hsa, _, _⟩ := row_shape oa
        subst hsa
        obtain ⟨ag, cg, hsg, _, _⟩ := row_shape og
        subst hsg
        go_wp2_with fail
        refine (callsIn_wide.1 (scan_in avb B B.length cvb wr ob.bytes rfl hcv1 hcv2 (by omega))).mono ?_
        rintro e W2 ⟨vf, vg2, base2, xs, rfl, hS, hrf, hrg2, hht, hbS⟩
        rw [HSC.out] at hS hrg2
        rw [HGP.out] at hrg2
        have hxl : xs.length = k := by have h := congrArg List.length hS; rw [List.length_map] at h; omega
        rw [hxl] at hrf
        replace oa := row_below oa hbS
        replace og := row_below og hbS
        replace hB := hB.trans (hbS.mono hB.size)
        have h2 := h.below hB (Nat.le_refl _)
        obtain ⟨af, cf, hsf, _, _⟩ := row_shape hrf
        subst hsf
        obtain ⟨ah, ch, hsh, _, _⟩ := row_shape hrg2
        subst hsh
        have hst := hst
        clear ob hbS hcv1 hcv2 hxl
        have HSX := Lib.hid hS
        clear hS
        go_wp2_with fail
        go_loopw [112] (fun iv w3 => ∃ i : Nat, i ≤ k ∧ iv = .int .i64 (i : Int) ∧ Below W2.heap.size W2 w3) (fun i _ => k - (intOf i).toNat)
        case atStart => exact ⟨0, Nat.zero_le _, rfl, Below.refl _ _⟩
        case round =>
          obtain ⟨i, hi, rfl, hb3⟩ := hrel
          by_cases hik : i < k
          · obtain ⟨f, hf⟩ : ∃ f, fs[i]? = some f := ⟨_, List.getElem?_eq_getElem (by have := hn.out; omega)⟩
            obtain ⟨q, hq⟩ := HAT.out i f hf
            obtain ⟨x, hx, hxk⟩ : ∃ x, xs[i]? = some x ∧ hkey x = (q, f) := by
              have h1 := hq
              rw [← HSX.out, List.getElem?_map] at h1
              obtain ⟨x, hx, e⟩ := Option.map_eq_some_iff.1 h1
              exact ⟨x, hx, e⟩
            obtain ⟨p, u, F⟩ := x
            injection hxk with e1 e2
            dsimp only at e1 e2
            subst e1 e2
            have hrx := (hht _ (List.mem_of_getElem? hx)).1
            dsimp only at hrx
            obtain ⟨bm, lm2, cm2, bp, lp2, cp2, rfl⟩ := hrx.open
            have hrx3 := hrx.below hb3 (Nat.le_refl _)
            obtain ⟨b, o, am, lm, cm, ap, lp, cp, rfl, l0, l1, l2, l3, l4, l5, l6, e1, e2, e3, e4, hrep⟩ := (h2.below hb3 (Nat.le_refl _)) i F hf
            have hrep := hrep.resolve_right (fun he => by
              have hvF := Fr.valid_iff.1 (HVA.out F (List.mem_of_getElem? hf)).1
              omega)
            clear e1 e2 e3 e4
            obtain ⟨gf, rfl, hcf⟩ := row_at (row_below hrf hb3) (by omega)
            obtain ⟨ga, rfl, hca⟩ := row_at (row_below oa hb3) (by omega)
            have p0 := hca i _ (by rw [List.getElem?_map, hq]; rfl)
            have fc := fun j y hy => hcf (i * 8 + j) y (flatMap_at (found_len hht) hx hy)
            have c0 := fc 0 _ rfl
            have c1 := fc 1 _ rfl
            have c2 := fc 2 _ rfl
            have c3 := fc 3 _ rfl
            have c4 := fc 4 _ rfl
            have c5 := fc 5 _ rfl
            have c6 := fc 6 _ rfl
            have c7 := fc 7 _ rfl
            rw [Nat.add_zero] at c0
            have j1 : (i : Int) < (k : Int) := by omega
            clear hcf hca fc hx hq hf
            go_upto_region 29 with (fail)
            have HS : Hid (∀ w', Below wr.heap.size wr w' → (fun w' : World => w'.cell? ⟨gf, i * 8, none⟩ = some (.int .i64 (p : Int)) ∧ w'.cell? ⟨gf, i * 8 + 1, none⟩ = some (.int .u32 (F.seq : Int)) ∧ w'.cell? ⟨gf, i * 8 + 2, none⟩ = some (.int .i64 F.point) ∧ w'.cell? ⟨gf, i * 8 + 3, none⟩ = some (.int .i64 F.source) ∧ w'.cell? ⟨gf, i * 8 + 4, none⟩ = some (.int .i64 F.turn) ∧ w'.cell? ⟨gf, i * 8 + 5, none⟩ = some (.float .f32 F.scale) ∧ w'.cell? ⟨gf, i * 8 + 6, none⟩ = some (.slice bm lm2 cm2) ∧ w'.cell? ⟨gf, i * 8 + 7, none⟩ = some (.slice bp lp2 cp2) ∧ w'.cell? ⟨ga, i, none⟩ = some (.int .i64 (p : Int)) ∧ w'.cell? ⟨b, o + i * 7, none⟩ = some (.int .u32 (F.seq : Int)) ∧ w'.cell? ⟨b, o + i * 7 + 1, none⟩ = some (.int .i64 F.point) ∧ w'.cell? ⟨b, o + i * 7 + 2, none⟩ = some (.int .i64 F.source) ∧ w'.cell? ⟨b, o + i * 7 + 3, none⟩ = some (.int .i64 F.turn) ∧ w'.cell? ⟨b, o + i * 7 + 4, none⟩ = some (.float .f32 F.scale) ∧ w'.cell? ⟨b, o + i * 7 + 5, none⟩ = some (.slice am lm cm) ∧ w'.cell? ⟨b, o + i * 7 + 6, none⟩ = some (.slice ap lp cp)) w') := fun w' hb => by
              have hc : ∀ {a : Addr} {v : Value}, wr.cell? a = some v → w'.cell? a = some v := fun {a v} h => (hb.cell (World.block_lt_of_cell? wr _ h)).trans h
              exact ⟨hc c0, hc c1, hc c2, hc c3, hc c4, hc c5, hc c6, hc c7, hc p0, hc l0, hc l1, hc l2, hc l3, hc l4, hc l5, hc l6⟩
            have hr1 := hrx3.below ((Below.refl wr.heap.size wr).drew) (Nat.le_refl _)
            have hr2 := hrep.below ((Below.refl wr.heap.size wr).drew) (Nat.le_refl _)
            have tok1 : True := trivial
            clear hrx3 hrep
            go_region_held3 (fun w' : World => w'.cell? ⟨gf, i * 8, none⟩ = some (.int .i64 (p : Int)) ∧ w'.cell? ⟨gf, i * 8 + 1, none⟩ = some (.int .u32 (F.seq : Int)) ∧ w'.cell? ⟨gf, i * 8 + 2, none⟩ = some (.int .i64 F.point) ∧ w'.cell? ⟨gf, i * 8 + 3, none⟩ = some (.int .i64 F.source) ∧ w'.cell? ⟨gf, i * 8 + 4, none⟩ = some (.int .i64 F.turn) ∧ w'.cell? ⟨gf, i * 8 + 5, none⟩ = some (.float .f32 F.scale) ∧ w'.cell? ⟨gf, i * 8 + 6, none⟩ = some (.slice bm lm2 cm2) ∧ w'.cell? ⟨gf, i * 8 + 7, none⟩ = some (.slice bp lp2 cp2) ∧ w'.cell? ⟨ga, i, none⟩ = some (.int .i64 (p : Int)) ∧ w'.cell? ⟨b, o + i * 7, none⟩ = some (.int .u32 (F.seq : Int)) ∧ w'.cell? ⟨b, o + i * 7 + 1, none⟩ = some (.int .i64 F.point) ∧ w'.cell? ⟨b, o + i * 7 + 2, none⟩ = some (.int .i64 F.source) ∧ w'.cell? ⟨b, o + i * 7 + 3, none⟩ = some (.int .i64 F.turn) ∧ w'.cell? ⟨b, o + i * 7 + 4, none⟩ = some (.float .f32 F.scale) ∧ w'.cell? ⟨b, o + i * 7 + 5, none⟩ = some (.slice am lm cm) ∧ w'.cell? ⟨b, o + i * 7 + 6, none⟩ = some (.slice ap lp cp)) (first | exact HS.out _ (Below.refl _ _).drew | exact HS.out _ hb5) (first
              | (go_simp; go_at_call 10; have _t := tok1; (with_reducible refine (sameFrames_yes _ _ F wr.drew hr1 hr2).mono ?_); rintro e W5 ⟨_, rfl, rfl, hb5⟩; have hb5 : Below wr.heap.size wr W5 := (Below.refl _ _).drew.trans hb5; clear tok1 _t))
            try simp only [Exit.then]
            have hb6 := hb3.trans (hb5.mono hb3.size)
            clear c0 c1 c2 c3 c4 c5 c6 c7 p0 l0 l1 l2 l3 l4 l5 l6 HS hr1 hr2
            go_wp2_with fail
            go_roundw
            case rel => exact ⟨i + 1, by omega, by go_num, hb6⟩
            case measure => simp [intOf]; omega
          · have hik2 : i = k := by omega
            subst hik2
            go_wp2_with fail
            go_loopw [141] (fun iv w4 => ∃ j : Nat, j ≤ G.length ∧ iv = .int .i64 (j : Int) ∧ Below W2.heap.size W2 w4) (fun j _ => G.length - (intOf j).toNat)
            case atStart => exact ⟨0, Nat.zero_le _, rfl, hb3⟩
            case round =>
              clear hb3
              obtain ⟨j, hj, rfl, hb4⟩ := hrel
              by_cases hjg : j < G.length
              · obtain ⟨y, hy⟩ : ∃ y, G[j]? = some y := ⟨_, List.getElem?_eq_getElem hjg⟩
                obtain ⟨gh, rfl, hch⟩ := row_at (row_below hrg2 hb4) (by omega)
                obtain ⟨gg, rfl, hcg⟩ := row_at (row_below og hb4) (by omega)
                have y0 := hch (j * 2 + 0) _ (flatMap_at (f := gapCells) (m := 2) (fun _ _ => rfl) hy (j := 0) rfl)
                have y1 := hch (j * 2 + 1) _ (flatMap_at (f := gapCells) (m := 2) (fun _ _ => rfl) hy (j := 1) rfl)
                have z0 := hcg (j * 2 + 0) _ (flatMap_at (f := gapCells) (m := 2) (fun _ _ => rfl) hy (j := 0) rfl)
                have z1 := hcg (j * 2 + 1) _ (flatMap_at (f := gapCells) (m := 2) (fun _ _ => rfl) hy (j := 1) rfl)
                rw [Nat.add_zero] at y0 z0
                have j2 : (j : Int) < (G.length : Int) := by omega
                have hnq := gap_neq (y.1 : Int) (y.2 : Int)
                clear hch hcg hy
                go_upto_region 35 with (fail)
                go_quiet (fail)
                go_wp2_with fail
                go_roundw
                case rel => exact ⟨j + 1, by omega, by go_num, below_drewN hb4 _⟩
                case measure => simp [intOf]; omega
              · go_wp2_with fail
                refine (awake_spec _).mono ?_
                rintro e W9 ⟨_, rfl, rfl, hb9⟩
                have hBf := (hB.trans (hb4.mono hB.size)).trans (hb9.mono (Nat.le_trans hB.size hb4.size))
                go_wp2_with fail
                go_ret
                exact ⟨_, rfl, rfl, hBf⟩
end Go.Proofs.Ytohnlmfmpflbpaa
