/- RecordBack, whatever the frame and the bytes. Conditions: none. -/
import Derived.Test.YtohnlmfmpflbpaaMLawBits
import Derived.Laws.AppendOwnNone
set_option linter.unusedSimpArgs false
set_option linter.unusedVariables false
set_option linter.all false
namespace Go.Proofs.Ytohnlmfmpflbpaa
open Go.RowKit

set_option maxRecDepth 100000 in
/-- append(out, m...): bytes that lie somewhere. -/
theorem append_bytesA (W : World) {ops : Array Oper} {rest : List Oper} {o : Oper} {a : Act} {Q : Exit → Act → World → Prop} (hgd : o.guard = none) (s x : Operand) (t : TypeId)
    (ho : o.op = .call { callee := .builtin .append, args := #[s, x], argTypes := #[t, t] }) (ht : Try.prog.underlying t = some (.slice 5)) (base : Nat) (v : Value) (l m : List UInt8) (ad : Option Addr) (n c : Nat)
    (hs : a.eval s = v) (hx : a.eval x = .slice ad n c) (hO : OwnB W base v l) (hA : BytesA W ad m) (hm : m.length = n) (hnone : ad = none → n = 0 ∧ c = 0) (hl : l.length < 1099511627776) (hm2 : n < 1099511627776) (hbase : base ≤ W.heap.size)
    (K : ∀ v' w', OwnB w' base v' (l ++ m) → W.grownBy w' v.ownBlock → wpList Try.prog ops Q rest (a.put o.dst v') w') :
    wpList Try.prog ops Q (o :: rest) a W := by
  obtain ⟨i0, hi, hz0, hz1, hz2⟩ := info_parts info_u8
  cases ad with
  | none =>
    obtain ⟨rfl, rfl⟩ := hnone rfl
    have hm0 : m = [] := List.eq_nil_of_length_eq_zero hm
    subst hm0
    rw [List.append_nil] at K
    exact wpList_append_own_none hgd s x t ho base 5 i0 1 ht hi v l.length (l.map byteV) hs hO hx (K v W hO (grown_refl _ _))
  | some ad =>
    refine wpList_append_own _ hgd s x t ho base 5 i0 (.int .u8 0) 1 1 ht hi hz0 hz1 hz2 rfl (by decide) v l.length (l.map byteV) hs hO ad n c (m.map byteV) hx (by rw [List.length_map]; omega) ?_ ?_ (by unfold maxLen; omega) (by omega) hbase ?_
    · intro j u hj
      rw [List.getElem?_map] at hj
      obtain ⟨y, hy, rfl⟩ := Option.map_eq_some_iff.1 hj
      obtain ⟨b, o, e, hc⟩ := hA j y hy
      injection e with e
      subst e
      rw [Addr.add_lit]
      exact hc
    · intro u hu
      obtain ⟨y, _, rfl⟩ := List.mem_map.1 hu
      rfl
    · intro v' w' h1 h2 _
      refine K v' w' ?_ h2
      unfold OwnB
      rw [List.length_append, List.map_append, hm]
      exact h1

set_option maxRecDepth 100000 in
set_option maxHeartbeats 1600000 in
theorem recordBack_spec (v : Value) (f : Fr) (ad : Option Addr) (m : List UInt8) (nm cm' : Nat) (w : World) (h : FrRep w v f) (hA : BytesA w ad m) (hm : m.length = nm) (hnone : ad = none → nm = 0 ∧ cm' = 0) (hcm : nm ≤ cm') (hcm2 : cm' ≤ 9223372036854775807) :
    Calls Try.prog 4 #[v, .slice ad nm cm'] w (Ret w fun _ v' => v' = .bool true) := by
  obtain ⟨am, lm, cm, ap, lp, cp, rfl⟩ := h.open
  have hok : f.ok := by obtain ⟨_, _, _, _, _, hok⟩ := h; exact hok
  have HOK := Lib.hid hok
  have HM := Lib.hid hm
  have HNO := Lib.hid hnone
  clear hok hm hnone
  have hst := run_store_float
  go_enter Try.func4, Try.ntmps4
  go_upto_region 1 with (fail)
  obtain ⟨W, hW, o1, hB, hS⟩ := boxes1 w 29 [.int .u32 (f.seq : Int), .int .i64 f.point, .int .i64 f.source, .int .i64 f.turn, .float .f32 f.scale, .slice am lm cm, .slice ap lp cp]
  rw [← hW]
  clear hW
  have h := h.below hB (Nat.le_refl _)
  have hA := hA.below hB (Nat.le_refl _)
  have fo1 := o1.free; have co10 := o1.cell 0 _ rfl; have co11 := o1.cell 1 _ rfl; have co12 := o1.cell 2 _ rfl; have co13 := o1.cell 3 _ rfl; have co14 := o1.cell 4 _ rfl; have co15 := o1.cell 5 _ rfl; have co16 := o1.cell 6 _ rfl
  go_wp2_with fail
  obtain ⟨V, hV, ob, hBV, hSV⟩ := boxes1 W 29 [.int .u32 (f.seq : Int), .int .i64 f.point, .int .i64 f.source, .int .i64 f.turn, .float .f32 f.scale, .slice am lm cm, .slice ap lp cp]
  rw [← hV]
  clear hV co10 co11 co12 co13 co14 co15 co16 fo1
  have hsV : W.heap.size ≤ V.heap.size := hBV.size; have hB := hB.trans (hBV.mono hB.size); have o1 := o1.below hBV o1.lt; have h := h.below hBV (Nat.le_refl _)
  have hA := hA.below hBV (Nat.le_refl _)
  refine (small_spec _ 1 1 1 [f] V (frs_one ob h) rfl (by omega) (by omega)).mono ?_
  rintro e W1 ⟨_, rfl, rfl, hb1⟩
  rw [small_one]
  clear ob
  have hsW1 : V.heap.size ≤ W1.heap.size := hb1.size; have hB := hB.trans (hb1.mono hB.size); have o1 := o1.below hb1 o1.lt; have h := h.below hb1 (Nat.le_refl _)
  have hA := hA.below hb1 (Nat.le_refl _)
  have hno : ∀ (W : World), Below w.heap.size w W → Calls Try.prog 7 #[] W (fun e W' => e = .returned (.bool true) ∧ Below w.heap.size w W') := fun W hB => (awake_spec W).mono (by rintro e W' ⟨_, rfl, rfl, hb⟩; exact ⟨rfl, hB.trans (hb.mono hB.size)⟩)
  have HNO2 := Lib.hid hno
  clear hno
  cases hfew : few f
  · have HF := Lib.hid hfew
    clear hfew
    go_wp2_with fail
    refine (HNO2.out _ hB).mono ?_
    rintro e W2 ⟨rfl, hB⟩
    go_wp2_with fail
    go_ret
    exact ⟨_, rfl, rfl, hB⟩
  · have HF := Lib.hid hfew
    clear hfew
    by_cases h100 : 100 < nm
    · go_wp2_with fail
      refine (HNO2.out _ hB).mono ?_
      rintro e W2 ⟨rfl, hB⟩
      go_wp2_with fail
      go_ret
      exact ⟨_, rfl, rfl, hB⟩
    · have fo1 := o1.free; have co10 := o1.cell 0 _ rfl; have co11 := o1.cell 1 _ rfl; have co12 := o1.cell 2 _ rfl; have co13 := o1.cell 3 _ rfl; have co14 := o1.cell 4 _ rfl; have co15 := o1.cell 5 _ rfl; have co16 := o1.cell 6 _ rfl
      go_wp2_with fail
      clear co10 co11 co12 co13 co14 co15 co16 fo1
      cases hv : f.valid
      · refine (encode_no _ f W1 h hv).mono ?_
        rintro e W2 ⟨_, rfl, rfl, hb2⟩
        have hB := hB.trans (hb2.mono hB.size)
        have o1 := o1.below hb2 o1.lt
        have h := h.below hb2 (Nat.le_refl _)
        have HV := Lib.hid hv
        clear hv
        have fo1 := o1.free; have co10 := o1.cell 0 _ rfl; have co11 := o1.cell 1 _ rfl; have co12 := o1.cell 2 _ rfl; have co13 := o1.cell 3 _ rfl; have co14 := o1.cell 4 _ rfl; have co15 := o1.cell 5 _ rfl; have co16 := o1.cell 6 _ rfl
        go_wp2_with fail
        refine (valid_spec _ f W2 h).mono ?_
        rintro e W3 ⟨_, rfl, rfl, hb3⟩
        rw [HV.out]
        have hB := hB.trans (hb3.mono hB.size)
        clear co10 co11 co12 co13 co14 co15 co16 fo1
        go_wp2_with fail
        refine (HNO2.out _ hB).mono ?_
        rintro e W4 ⟨rfl, hB⟩
        go_wp2_with fail
        go_ret
        exact ⟨_, rfl, rfl, hB⟩
      · refine (encode_yes _ f W1 h hv).mono ?_
        rintro e W2 ⟨vb, rfl, hob, hb2⟩
        have HV := Lib.hid hv
        obtain ⟨ab, cb, rfl, hcb1, hcb2⟩ := hob.shape
        have hlen := enc_length hv
        have hn1 := (Fr.valid_iff.1 hv).1
        have hlp := h.lens.2
        obtain ⟨n, hn⟩ : ∃ n, n = (enc f).length := ⟨_, rfl⟩
        rw [← hn] at hcb1 hlen ⊢
        have HN := Lib.hid hn
        have hn18 : 18 ≤ n := by omega
        have hn98 : n ≤ 98 := by omega
        have hnlp : (n : Int) = 18 + 10 * (lp : Int) := by omega
        have hlp8 : lp ≤ 8 := by omega
        have hBE : Below W1.heap.size W1 W2 := hb2
        have hsW2 : W1.heap.size ≤ W2.heap.size := hb2.size; have hB := hB.trans (hb2.mono hB.size); have o1 := o1.below hb2 o1.lt; have h := h.below hb2 (Nat.le_refl _)
        have hA := hA.below hb2 (Nat.le_refl _)
        have hE := hob.bytes
        obtain ⟨g, rfl⟩ : ∃ g, ab = some ⟨g, 0, none⟩ := by
          have h2 : W2.ownsRow W1.heap.size 5 1 (.slice ab n cb) n ((enc f).map byteV) := by have h := hob; unfold OwnB at h; rw [← HN.out] at h; exact h
          obtain ⟨g, cap, e, _⟩ := World.ownsRow.form h2 (by omega)
          injection e with e _ _
          exact ⟨g, e⟩
        clear hv hn1 hlen hn hlp hBE hob
        go_upto_region 6 with (fail)
        have ow0 : OwnB (W2.alloc (.cells #[] 5)) W2.heap.size (.slice (some ⟨W2.heap.size, 0, none⟩) 0 0) [] := ⟨by simp, .inr ⟨W2.heap.size, 0, #[], rfl, Nat.le_refl _, own_new W2 5 [], Nat.le_refl _, by unfold maxLen; omega, rfl, rfl⟩⟩
        have hBb : Below W2.heap.size W2 (W2.alloc (.cells #[] 5)) := (Below.refl _ _).alloc (Nat.le_refl _) _
        have hsb : W2.heap.size ≤ (W2.alloc (.cells #[] 5)).heap.size := hBb.size
        have hE2 := hE.below hBb (Nat.le_refl _)
        go_wp2_with (first
          | (at_builtin; refine append_bytesA (W2.alloc (.cells #[] 5)) rfl (.tmp 42) (.tmp 43) _ rfl Try.underlying22 W2.heap.size _ [] (enc f) (some ⟨g, 0, none⟩) n cb rfl rfl ow0 hE2 HN.out.symm (fun e => by cases e) (by simp) (by omega) hsb ?_; intro v5 W5 ow5 hg5; have hb5 := hBb.grown hg5 hsb (fun k hk => (World.ownsRow.lt ow0 k hk).1); have hA5 := hA.below hb5 (Nat.le_refl _); have hs5 := hb5.size; clear hg5)
          | (at_builtin; refine append_bytesA W5 rfl (.tmp 44) (.tmp 45) _ rfl Try.underlying22 W2.heap.size _ ([] ++ enc f) m ad nm cm' rfl rfl ow5 hA5 HM.out HNO.out (by rw [List.nil_append, ← HN.out]; omega) (by omega) hs5 ?_; intro v6 W6 ow6 hg6; have hb6 := hb5.grown hg6 hs5 (fun k hk => (World.ownsRow.lt ow5 k hk).1); clear hg6))
        rw [List.nil_append] at ow6
        obtain ⟨a6, c6, rfl, hc61, hc62⟩ := ow6.shape
        refine (decode_spec a6 (enc f ++ m) _ c6 W6 ow6.bytes rfl hc61 hc62).mono ?_
        rintro e W7 ⟨_, rfl, hpost, hb7⟩
        unfold DecPost at hpost
        rw [if_pos (decErr_enc HV.out HOK.out m), if_pos (decErr_enc HV.out HOK.out m), decErr_enc HV.out HOK.out m, decFr_enc HV.out HOK.out m, head_len HV.out m, ← HN.out] at hpost
        obtain ⟨u, rfl, hu⟩ := hpost
        have hb27 : Below W2.heap.size W2 W7 := hb6.trans (hb7.mono hb6.size)
        have o1 := o1.below hb27 o1.lt
        have h := h.below hb27 (Nat.le_refl _)
        have hE := hE.below hb27 (Nat.le_refl _)
        have hB := hB.trans (hb27.mono hB.size)
        clear ow0 hBb hsb hE2 ow5 hA5 hb5 hs5 ow6 hb6 hc61 hc62 hb7 hb27 hA
        obtain ⟨am', lm', cm', ap', lp', cp', rfl⟩ := hu.open
        have hst := run_store_float
        go_upto_region 7 with (fail)
        obtain ⟨V2, hV2, o7, hBV2, hSV2⟩ := boxes1 W7 29 [.int .u32 (f.seq : Int), .int .i64 f.point, .int .i64 f.source, .int .i64 f.turn, .float .f32 f.scale, .slice am' lm' cm', .slice ap' lp' cp']
        rw [← hV2]
        clear hV2
        have hu := hu.below hBV2 (Nat.le_refl _)
        have h := h.below hBV2 (Nat.le_refl _)
        have o1 := o1.below hBV2 o1.lt
        have hE := hE.below hBV2 (Nat.le_refl _)
        have hB := hB.trans (hBV2.mono hB.size)
        have fo1 := o1.free; have co10 := o1.cell 0 _ rfl; have co11 := o1.cell 1 _ rfl; have co12 := o1.cell 2 _ rfl; have co13 := o1.cell 3 _ rfl; have co14 := o1.cell 4 _ rfl; have co15 := o1.cell 5 _ rfl; have co16 := o1.cell 6 _ rfl
        have fo7 := o7.free; have co70 := o7.cell 0 _ rfl; have co71 := o7.cell 1 _ rfl; have co72 := o7.cell 2 _ rfl; have co73 := o7.cell 3 _ rfl; have co74 := o7.cell 4 _ rfl; have co75 := o7.cell 5 _ rfl; have co76 := o7.cell 6 _ rfl
        go_wp2_with fail
        refine (sameFrames_yes _ _ f V2 h hu).mono ?_
        rintro e W8 ⟨_, rfl, rfl, hb8⟩
        have hB := hB.trans (hb8.mono hB.size)
        have hE := hE.below hb8 (Nat.le_refl _)
        have o1 := o1.below hb8 o1.lt
        clear co70 co71 co72 co73 co74 co75 co76 fo7 o7 hu h co10 co11 co12 co13 co14 co15 co16 fo1
        have hnn : ((n : Int) != 18 + 10 * (lp : Int)) = false := by simp; omega
        have hnm : IntKind.i64.wrap (18 + 10 * (lp : Int)) = (n : Int) := by rw [← hnlp]; exact IntWalk.i64_in _ (by omega)
        have fo1 := o1.free; have co10 := o1.cell 0 _ rfl; have co11 := o1.cell 1 _ rfl; have co12 := o1.cell 2 _ rfl; have co13 := o1.cell 3 _ rfl; have co14 := o1.cell 4 _ rfl; have co15 := o1.cell 5 _ rfl; have co16 := o1.cell 6 _ rfl
        go_wp2_with fail
        clear co10 co11 co12 co13 co14 co15 co16 fo1 o1
        have htorn := fun k (hk : k < n) => torn_enc HV.out (k := k) (by rw [← HN.out]; exact hk)
        have HT := Lib.hid htorn
        clear htorn
        go_loopw [77] (fun iv wr => ∃ k : Nat, k ≤ n ∧ iv = .int .i64 (k : Int) ∧ Below w.heap.size w wr ∧ BytesA wr (some ⟨g, 0, none⟩) (enc f)) (fun i _ => n - (intOf i).toNat)
        case atStart => exact ⟨0, Nat.zero_le _, rfl, hB, hE⟩
        case round =>
          clear hB hE
          obtain ⟨k, hk, rfl, hB, hE⟩ := hrel
          by_cases hlt : k < n
          · have i1 : (0 : Int) ≤ (k : Int) := by omega
            have i2 : (k : Int) ≤ (cb : Int) := by omega
            have i3 : (k : Int) ≤ (n : Int) := by omega
            have i4 : ((k : Int)).toNat = k := by omega
            go_wp2_with fail
            have htk : ((enc f).take k).length = k := by rw [List.length_take, ← HN.out]; omega
            refine (decode_spec (some ⟨g, 0, none⟩) ((enc f).take k) k k wr (hE.take k) htk (Nat.le_refl _) (by omega)).mono ?_
            rintro e W9 ⟨_, rfl, hpost, hb9⟩
            unfold DecPost at hpost
            have ht := HT.out k hlt
            rw [if_neg (by rw [ht]; decide), if_neg (by rw [ht]; decide), ht] at hpost
            obtain ⟨u, rfl, hu⟩ := hpost
            obtain ⟨am2, lm2, cm2, ap2, lp2, cp2, rfl⟩ := hu.open
            have hB := hB.trans (hb9.mono hB.size)
            have hE := hE.below hb9 (Nat.le_refl _)
            clear hu htk ht
            have hst := run_store_float
            go_upto_region 13 with (fail)
            obtain ⟨V3, hV3, o11, hBV3, hSV3⟩ := boxes1 W9 29 [.int .u32 ((zeroFr.seq : Nat) : Int), .int .i64 zeroFr.point, .int .i64 zeroFr.source, .int .i64 zeroFr.turn, .float .f32 zeroFr.scale, .slice am2 lm2 cm2, .slice ap2 lp2 cp2]
            rw [← hV3]
            clear hV3 o11
            have hB := hB.trans (hBV3.mono hB.size)
            have hE := hE.below hBV3 (Nat.le_refl _)
            go_wp2_with fail
            go_roundw
            case rel => exact ⟨k + 1, by omega, by go_num, hB, hE⟩
            case measure => simp [intOf]; omega
          · obtain rfl : k = n := by omega
            go_wp2_with fail
            refine (HNO2.out _ hB).mono ?_
            rintro e W9 ⟨rfl, hB⟩
            go_wp2_with fail
            go_ret
            exact ⟨_, rfl, rfl, hB⟩
end Go.Proofs.Ytohnlmfmpflbpaa
