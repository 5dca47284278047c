/- RecordBits, whatever the frame and the bit. Conditions: none. -/
import Derived.Test.YtohnlmfmpflbpaaMAwake
import Derived.Test.YtohnlmfmpflbpaaMCrc
import Derived.Test.YtohnlmfmpflbpaaMDecD
import Derived.Test.YtohnlmfmpflbpaaMLawA
set_option linter.unusedSimpArgs false
set_option linter.unusedVariables false
set_option linter.all false
namespace Go.Proofs.Ytohnlmfmpflbpaa
open Go.RowKit

/-- A box that holds a frame, as a slice of one. -/
theorem frs_one {w : World} {g : Nat} {f : Fr} {am ap : Option Addr} {lm cm lp cp : Nat} (o : Own w 29 g [.int .u32 (f.seq : Int), .int .i64 f.point, .int .i64 f.source, .int .i64 f.turn, .float .f32 f.scale, .slice am lm cm, .slice ap lp cp])
    (h : FrRep w (.agg #[.int .u32 (f.seq : Int), .int .i64 f.point, .int .i64 f.source, .int .i64 f.turn, .float .f32 f.scale, .slice am lm cm, .slice ap lp cp]) f) : FrsA w (some ⟨g, 0, none⟩) [f] := fun i f' hi => by
  have hi0 : i = 0 := by
    have := (List.getElem?_eq_some_iff.1 hi).1
    simpa using this
  subst hi0
  simp only [List.getElem?_cons_zero, Option.some.injEq] at hi
  subst hi
  exact ⟨g, 0, am, lm, cm, ap, lp, cp, rfl, o.cell 0 _ rfl, o.cell 1 _ rfl, o.cell 2 _ rfl, o.cell 3 _ rfl, o.cell 4 _ rfl, o.cell 5 _ rfl, o.cell 6 _ rfl, h⟩
theorem small_one (f : Fr) : smallB [f] 1 = few f := by simp [smallB]

/-- A valid frame's value is its cells. -/
theorem FrRep.open {w : World} {v : Value} {f : Fr} (h : FrRep w v f) : ∃ (am : Option Addr) (lm cm : Nat) (ap : Option Addr) (lp cp : Nat), v = .agg #[.int .u32 (f.seq : Int), .int .i64 f.point, .int .i64 f.source, .int .i64 f.turn, .float .f32 f.scale, .slice am lm cm, .slice ap lp cp] := by
  obtain ⟨vm, vp, rfl, hm, hp, _⟩ := h
  obtain ⟨am, lm, cm, rfl, _⟩ := hm.any
  obtain ⟨ap, lp, cp, rfl, _⟩ := hp.any
  exact ⟨am, lm, cm, ap, lp, cp, rfl⟩

/-- The byte and the bit of a number. -/
theorem bit_parts (bit n : Nat) (hn : 18 ≤ n) (hn2 : n ≤ 98) : ∃ K I J : Nat, (bit : Int) % (8 * (n : Int)) = (K : Int) ∧ (K : Int).tdiv 8 = (I : Int) ∧ wrap64 (I : Int) = (I : Int) ∧ (K : Int) % 8 = (J : Int) ∧ I < n ∧ J < 8 := by
  have hK8 : bit % (8 * n) < 8 * n := Nat.mod_lt _ (by omega)
  refine ⟨bit % (8 * n), bit % (8 * n) / 8, bit % (8 * n) % 8, by push_cast; rfl, ?_, ?_, ?_, ?_, ?_⟩
  · rw [Int.tdiv_eq_ediv_of_nonneg (by omega)]; rfl
  · exact IntWalk.wrap64_in _ ⟨by omega, by omega⟩
  · rfl
  · omega
  · omega

/-- One bit changed. -/
theorem flip_bit (x : UInt8) {J : Nat} (hJ : J < 8) : ∃ y : UInt8, bits .xor .u8 ((x.toNat : Nat) : Int) (2 ^ J % 256) = ((y.toNat : Nat) : Int) ∧ x ≠ y := by
  have hx := x.toNat_lt
  have h2 : 2 ^ J < 256 := Nat.pow_lt_pow_right (a := 2) (n := 8) (by omega) hJ
  have h1 : 0 < 2 ^ J := Nat.two_pow_pos J
  have hz : x.toNat ^^^ 2 ^ J < 256 := Nat.xor_lt_two_pow (n := 8) hx h2
  refine ⟨UInt8.ofNat (x.toNat ^^^ 2 ^ J), ?_, fun e => ?_⟩
  · have hp : ((2 : Int) ^ J % 256) = ((2 ^ J % 256 : Nat) : Int) := by rw [Int.natCast_emod, Int.natCast_pow]; rfl
    rw [hp, Nat.mod_eq_of_lt h2, u8_xor_nat _ _ hx h2, ofNat_val hz]
  · have e2 : x.toNat = x.toNat ^^^ 2 ^ J := by
      have := congrArg UInt8.toNat e
      rwa [ofNat_val hz] at this
    have e3 : 2 ^ J ^^^ x.toNat = 0 ^^^ x.toNat := by rw [Nat.xor_comm, ← e2, Nat.zero_xor]
    have := xor_back e3
    omega

/-- A byte of a row changed. -/
theorem bytes_set {w : World} {base g n cb i : Nat} {l : List UInt8} {y : UInt8} (h : w.ownsRow base 5 1 (.slice (some ⟨g, 0, none⟩) n cb) n (l.map byteV)) : BytesA (w.setCell ⟨g, i, none⟩ (byteV y)) (some ⟨g, 0, none⟩) (l.set i y) := fun j x hx => by
  have h2 := (h.stored i (byteV y)).1
  refine ⟨g, 0, rfl, ?_⟩
  have := h2.cells (g := g) rfl j (byteV x) (by rw [← List.map_set, List.getElem?_map, hx]; rfl)
  rw [Addr.add_lit] at this
  exact this

set_option maxRecDepth 100000 in
set_option maxHeartbeats 1600000 in
theorem recordBits_spec (v : Value) (f : Fr) (bit : Nat) (w : World) (h : FrRep w v f) (hbit : bit < 65536) :
    Calls Try.prog 5 #[v, .int .u16 (bit : Int)] w (Ret w fun _ v' => v' = .bool true) := by
  obtain ⟨am, lm, cm, ap, lp, cp, rfl⟩ := h.open
  have hok : f.ok := by obtain ⟨_, _, _, _, _, hok⟩ := h; exact hok
  have HOK := Lib.hid hok
  clear hok
  have hst := run_store_float
  go_enter Try.func5, Try.ntmps5
  go_upto_region 1 with (fail)
  obtain ⟨W, hW, o1, hB, hS⟩ := boxes1 w 29 [.int .u32 (f.seq : Int), .int .i64 f.point, .int .i64 f.source, .int .i64 f.turn, .float .f32 f.scale, .slice am lm cm, .slice ap lp cp]
  rw [← hW]
  clear hW
  have h := h.below hB (Nat.le_refl _)
  have fo1 := o1.free; have co10 := o1.cell 0 _ rfl; have co11 := o1.cell 1 _ rfl; have co12 := o1.cell 2 _ rfl; have co13 := o1.cell 3 _ rfl; have co14 := o1.cell 4 _ rfl; have co15 := o1.cell 5 _ rfl; have co16 := o1.cell 6 _ rfl
  go_wp2_with fail
  obtain ⟨V, hV, ob, hBV, hSV⟩ := boxes1 W 29 [.int .u32 (f.seq : Int), .int .i64 f.point, .int .i64 f.source, .int .i64 f.turn, .float .f32 f.scale, .slice am lm cm, .slice ap lp cp]
  rw [← hV]
  clear hV co10 co11 co12 co13 co14 co15 co16 fo1
  have hsV : W.heap.size ≤ V.heap.size := hBV.size; have hB := hB.trans (hBV.mono hB.size); have o1 := o1.below hBV o1.lt; have h := h.below hBV (Nat.le_refl _)
  refine (small_spec _ 1 1 1 [f] V (frs_one ob h) rfl (by omega) (by omega)).mono ?_
  rintro e W1 ⟨_, rfl, rfl, hb1⟩
  rw [small_one]
  clear ob
  have hsW1 : V.heap.size ≤ W1.heap.size := hb1.size; have hB := hB.trans (hb1.mono hB.size); have o1 := o1.below hb1 o1.lt; have h := h.below hb1 (Nat.le_refl _)
  cases hfew : few f
  · have HF := Lib.hid hfew
    clear hfew
    go_wp2_with fail
    refine (awake_spec W1).mono ?_
    rintro e W2 ⟨_, rfl, rfl, hb2⟩
    have hB := hB.trans (hb2.mono hB.size)
    go_wp2_with fail
    go_ret
    exact ⟨_, rfl, rfl, hB⟩
  · have HF := Lib.hid hfew
    clear hfew
    have fo1 := o1.free; have co10 := o1.cell 0 _ rfl; have co11 := o1.cell 1 _ rfl; have co12 := o1.cell 2 _ rfl; have co13 := o1.cell 3 _ rfl; have co14 := o1.cell 4 _ rfl; have co15 := o1.cell 5 _ rfl; have co16 := o1.cell 6 _ rfl
    go_wp2_with fail
    clear co10 co11 co12 co13 co14 co15 co16 fo1
    cases hv : f.valid
    · refine (encode_no _ f W1 h hv).mono ?_
      rintro e W2 ⟨_, rfl, rfl, hb2⟩
      have hB := hB.trans (hb2.mono hB.size)
      have HV := Lib.hid hv
      clear hv
      go_wp2_with fail
      refine (awake_spec W2).mono ?_
      rintro e W3 ⟨_, rfl, rfl, hb3⟩
      have hB := hB.trans (hb3.mono hB.size)
      go_wp2_with fail
      go_ret
      exact ⟨_, rfl, rfl, hB⟩
    · refine (encode_yes _ f W1 h hv).mono ?_
      rintro e W2 ⟨vb, rfl, hob, hb2⟩
      have HV := Lib.hid hv
      obtain ⟨ab, cb, rfl, hcb1, hcb2⟩ := hob.shape
      have hlen := enc_length hv
      have hn1 := (Fr.valid_iff.1 hv).1
      obtain ⟨n, hn⟩ : ∃ n, n = (enc f).length := ⟨_, rfl⟩
      rw [← hn] at hcb1 hlen hob ⊢
      have HN := Lib.hid hn
      have hn18 : 18 ≤ n := by omega
      have hn98 : n ≤ 98 := by omega
      have hB := hB.trans (hb2.mono hB.size)
      have hbase := hob.1
      obtain ⟨g, rfl⟩ : ∃ g, ab = some ⟨g, 0, none⟩ := by
        obtain ⟨g, cap, e, _⟩ := World.ownsRow.form hob (by omega)
        injection e with e _ _
        exact ⟨g, e⟩
      clear hv hn1 hlen hn h o1 hbase
      go_upto_region 7 with (fail)
      obtain ⟨K, I, J, hKz, e0, e1, e2, hI2, hJ2⟩ := bit_parts bit n hn18 hn98
      rw [hKz]
      clear hKz
      by_cases h2 : I = 2
      · subst h2
        go_wp2_with fail
        refine (awake_spec W2).mono ?_
        rintro e W3 ⟨_, rfl, rfl, hb3⟩
        have hB := hB.trans (hb3.mono hB.size)
        go_wp2_with fail
        go_ret
        exact ⟨_, rfl, rfl, hB⟩
      · have h2' : ((I : Int) == 2) = false := by simp; omega
        obtain ⟨x, hx⟩ : ∃ x, (enc f)[I]? = some x := ⟨_, List.getElem?_eq_getElem (by rw [← HN.out]; exact hI2)⟩
        have q : W2.cell? ⟨g, I, none⟩ = some (.int .u8 ((x.toNat : Nat) : Int)) := by
          have := hob.cells (g := g) rfl I (byteV x) (by rw [List.getElem?_map, hx]; rfl)
          rw [Addr.add_lit, Nat.zero_add] at this
          exact this
        have hobn : W2.ownsRow W1.heap.size 5 1 (.slice (some ⟨g, 0, none⟩) n cb) n ((enc f).map byteV) := by have h := hob; unfold OwnB at h; rw [← HN.out] at h; exact h
        have qf : W2.frozen? ⟨g, I, none⟩ = false := hobn.frozenAt I
        have i1 : (0 : Int) ≤ (I : Int) := by omega
        have i2 : (I : Int) < (n : Int) := by omega
        have i3 : ((I : Int)).toNat = I := by omega
        have hx8 := x.toNat_lt
        go_upto_region 9 with (fail)
        go_region
        obtain ⟨y, hy, hxy⟩ := flip_bit x hJ2
        rw [hy]
        have hz := changed_enc HV.out HOK.out hx hxy h2
        have hbs : BytesA (W2.setCell ⟨g, I, none⟩ (byteV y)).drew (some ⟨g, 0, none⟩) ((enc f).set I y) := bytes_set hobn
        have hln : Hid (((enc f).set I y).length = n) := by show _ = _; rw [List.length_set, ← HN.out]
        have hgb : W1.heap.size ≤ g := (hobn.lt g rfl).1
        have hW3 : Below w.heap.size w (W2.setCell ⟨g, I, none⟩ (byteV y)).drew := (hB.setCell (p := ⟨g, I, none⟩) (show w.heap.size ≤ g by have := hB.size; omega) _).drew
        clear hy hxy hobn hob q qf i1 i2 i3 e0 e1 e2 h2' hx hx8 hB
        generalize (enc f).set I y = l at *
        try simp only [Exit.then]
        have e5 : (W2.setCell ⟨g, I, none⟩ (.int .u8 ((y.toNat : Nat) : Int))).drew = (W2.setCell ⟨g, I, none⟩ (byteV y)).drew := rfl
        rw [e5]
        clear e5
        generalize (W2.setCell ⟨g, I, none⟩ (byteV y)).drew = W3 at *
        have HZ := Lib.hid hz
        clear hz
        go_wp2_with fail
        refine (decode_spec _ l n cb W3 hbs hln hcb1 hcb2).mono ?_
        rintro e W4 ⟨_, rfl, hpost, hb4⟩
        unfold DecPost at hpost
        rw [if_neg HZ.out, if_neg HZ.out] at hpost
        obtain ⟨u, rfl, hu⟩ := hpost
        obtain ⟨er, her⟩ : ∃ er : Nat, er = decErr l := ⟨_, rfl⟩
        have hz := HZ.out
        rw [← her] at hz ⊢
        have hz' : ((er : Int) != 0) = true := by simp; omega
        clear her hz HZ hbs hln
        obtain ⟨am, lm, cm, ap, lp, cp, rfl⟩ := hu.open
        have hu : FrRep W4 (.agg #[.int .u32 0, .int .i64 0, .int .i64 0, .int .i64 0, .float .f32 0, .slice am lm cm, .slice ap lp cp]) zeroFr := hu
        simp only [zeroFr]
        have hB := hW3.trans (hb4.mono hW3.size)
        clear hW3
        have hst := run_store_float
        go_upto_region 11 with (fail)
        obtain ⟨V2, hV2, o8, hBV2, hSV2⟩ := boxes1 W4 29 [.int .u32 0, .int .i64 0, .int .i64 0, .int .i64 0, .float .f32 0, .slice am lm cm, .slice ap lp cp]
        rw [← hV2]
        clear hV2 hst
        have hu := hu.below hBV2 (Nat.le_refl _)
        have hB := hB.trans (hBV2.mono hB.size)
        have fo8 := o8.free; have co80 := o8.cell 0 _ rfl; have co81 := o8.cell 1 _ rfl; have co82 := o8.cell 2 _ rfl; have co83 := o8.cell 3 _ rfl; have co84 := o8.cell 4 _ rfl; have co85 := o8.cell 5 _ rfl; have co86 := o8.cell 6 _ rfl
        go_wp2_with fail
        refine (sameFrames_yes _ _ zeroFr V2 hu (zeroFr_rep V2)).mono ?_
        rintro e W5 ⟨_, rfl, rfl, hb5⟩
        have hB := hB.trans (hb5.mono hB.size)
        clear co80 co81 co82 co83 co84 co85 co86 fo8 o8 hu
        go_wp2_with fail
        refine (awake_spec W5).mono ?_
        rintro e W6 ⟨_, rfl, rfl, hb6⟩
        have hB := hB.trans (hb6.mono hB.size)
        go_wp2_with fail
        go_ret
        exact ⟨_, rfl, rfl, hB⟩
end Go.Proofs.Ytohnlmfmpflbpaa
