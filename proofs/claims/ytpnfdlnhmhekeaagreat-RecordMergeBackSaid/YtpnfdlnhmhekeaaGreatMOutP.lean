/- slices.Clone of a row of numbers, record.copied. Conditions: no row is empty. The sweep that Merge and Cut build up: its box, its three rows. Conditions: none. -/
import Derived.Test.YtpnfdlnhmhekeaaGreatMFreqs
import Derived.Test.YtpnfdlnhmhekeaaGreatMSquare
import Derived.Lib.LazyBuf
set_option linter.unusedSimpArgs false
set_option linter.unusedVariables false
set_option linter.all false
namespace Go.Proofs.YtpnfdlnhmhekeaaGreat
open Go.RowKit

set_option maxRecDepth 100000 in
set_option maxHeartbeats 1600000 in
theorem clone_spec (v : Value) (l : List CQ) (w : World) (h : NumSl w v l) (h0 : 0 < l.length ∧ l.length ≤ 1000) :
    Calls Tryz.prog 117 #[v] w (Ret w fun w' v' => NumRow w.heap.size w' v' l) := by
  obtain ⟨a, c, rfl, hc, hc2⟩ := h.dims
  obtain ⟨b, o, _, _, _, _, _, _, _, _, _, _, _, rfl, -⟩ := h.num (List.getElem?_eq_getElem h0.1)
  obtain ⟨n, hn⟩ : ∃ n, l.length = n := ⟨_, rfl⟩
  have HL := Lib.hid h
  rw [hn] at HL hc h0 ⊢
  obtain ⟨h0, h1⟩ := h0
  clear h hn
  have hb0 : Below w.heap.size w (w.alloc (.cells #[] 51)) := (Below.refl _ _).alloc (Nat.le_refl _) _
  have hL2 := HL.out.below hb0 (Nat.le_refl _)
  have hr0 : RowOf NumC 51 5 (w.alloc (.cells #[] 51)) w.heap.size (.slice (some ⟨w.heap.size, 0, none⟩) 0 0) ([] : List CQ) := ⟨[], rfl, ⟨rfl, .inr ⟨w.heap.size, 0, #[], rfl, Nat.le_refl _, by show (w.heap.push _)[w.heap.size]? = _; simp, Nat.le_refl _, by unfold maxLen; omega, rfl, rfl⟩⟩, fun i u x hu => by simp at hu⟩
  have hs0 := hb0.size
  have hz : 0 + n ≤ 1000000 := by omega
  have heq : ∀ w, (binOp .eql 30 (.slice (some ⟨b, o, none⟩) n c) (.slice none 0 0)).run Tryz.prog w = .ok (.bool false) w := fun w => Lib.run_eql_slice_nil w _ _ _ _ _ 0 0 Tryz.underlying30
  go_enter Tryz.func117, Tryz.ntmps117
  go_wp2_with (at_builtin; (refine append_many (w.alloc (.cells #[] 51)) rfl (.tmp 5) (.tmp 6) 30 51 (.agg #[.bool false, .slice none 0 0, .bool false, .slice none 0 0, .slice none 0 0]) 5 88 rfl Tryz.underlying30 info_num rfl (by omega) (by omega) w.heap.size _ 0 [] l num_stable (by decide) one_num rfl hr0 rfl _ n c rfl hL2.1 h0 hz hs0 ?_); intro g cap w' hr' hb' _ hsz')
  go_ret
  exact ⟨_, rfl, by unfold NumRow; simpa using hr', hb0.trans hb'⟩

set_option maxRecDepth 100000 in
set_option maxHeartbeats 1600000 in
theorem copied_spec (v : Value) (m : List (List CQ)) (w : World) (h : NumMat w v m) (hn : m.length ≤ 1000) (hm : ∀ l ∈ m, 0 < l.length ∧ l.length ≤ 1000) :
    Calls Tryz.prog 87 #[v] w (Ret w fun w' v' => RowOf (NumsP (fun b => w.heap.size ≤ b)) 30 1 w' w.heap.size v' m) := by
  obtain ⟨n, hln⟩ : ∃ n, m.length = n := ⟨_, rfl⟩
  obtain ⟨a, c, rfl, hc, hc2⟩ := h.dims
  have HL := Lib.hid h
  have HN := Lib.hid hln
  have HM := Lib.hid hm
  rw [hln] at hn hc ⊢
  rw [hln] at HL
  clear h hln hm
  go_enter Tryz.func87, Tryz.ntmps87
  go_wp2_with (at_make; refine make_row (R := NumsP (fun b => w.heap.size ≤ b)) _ rfl _ _ 30 _ 1 24 rfl Tryz.underlying65 info_nums rfl (by omega) (by omega) _ n rfl rfl (by omega) [] (fun w => ⟨_, rfl, nil_slT, fun b hb => by cases hb⟩) ?_; intro w1 hr1 hb1 hs1)
  go_loopw [11] (fun iv wr => ∃ k : Nat, k ≤ n ∧ iv = .int .i64 (k : Int) ∧ RowOf (NumsP (fun b => w.heap.size ≤ b)) 30 1 wr w.heap.size (.slice (some ⟨w.heap.size, 0, none⟩) n n) (fillTo m [] k) ∧ Below w.heap.size w wr ∧ w.heap.size < wr.heap.size) (fun i _ => n - (intOf i).toNat)
  case atStart => exact ⟨0, Nat.zero_le _, rfl, by rw [fillTo_zero, HN.out]; exact hr1, hb1, by omega⟩
  case round =>
    clear hr1 hb1 hs1
    obtain ⟨k, hk, rfl, hI, hB, hlw⟩ := hrel
    by_cases hlt : k < n
    · obtain ⟨r, hr⟩ : ∃ r, m[k]? = some r := ⟨_, List.getElem?_eq_getElem (by have := HN.out; omega)⟩
      obtain ⟨b1, o1, a1, c1, rfl, -, e0, hsv2, hc3, hc4⟩ := (HL.out.below hB (Nat.le_refl _)).list hr
      have hrl := HM.out r (List.mem_of_getElem? hr)
      have HR := Lib.hid hr
      have hk' : k < (fillTo m [] k).length := by rw [fillTo_len _ _ (by rw [HN.out]; omega), HN.out]; exact hlt
      clear hr
      obtain ⟨rl0, hrl0⟩ : ∃ x, r.length = x := ⟨_, rfl⟩
      rw [hrl0] at e0 hsv2 hc3
      clear hrl0
      go_wp2_with fail
      refine (clone_spec _ r wr hsv2 hrl).mono ?_
      rintro e W1 ⟨x, rfl, hx, hb1⟩
      obtain ⟨xa, xc, rfl⟩ := RowOf.shape hx
      have hI3 := hI.below (numsP_stable _) hb1
      have hB3 : Below w.heap.size w W1 := hB.trans (hb1.mono (by omega))
      obtain ⟨y, hy, hys⟩ := hI3.spot hk'
      obtain ⟨y0, rfl⟩ : ∃ y0, y = [y0] := by match y, hy with | [y0], _ => exact ⟨y0, rfl⟩
      have c0 : W1.cell? ⟨w.heap.size, k, none⟩ = some y0 := by have := hys 0 _ rfl; rwa [Nat.mul_one, Nat.add_zero] at this
      have fz := hI3.free
      have hp := RowOf.put (u := [.slice xa r.length xc]) (numsP_stable _) (by decide) hI3 hk' rfl (show NumsP (fun b => w.heap.size ≤ b) W1 _ r from ⟨_, rfl, RowOf.slT hx, fun b hb => ⟨Nat.le_trans hB.size (RowOf.block hx b hb).1, (RowOf.block hx b hb).2⟩⟩)
      rw [fillTo_set HR.out, Nat.mul_one] at hp
      have HP := Lib.hid hp
      have hlt1 : w.heap.size < W1.heap.size := by have := hb1.size; omega
      clear hI hI3 hys hk' hp hy e0 hsv2 hx
      generalize r.length = rl at *
      go_wp2_with fail
      go_roundw
      case rel => exact ⟨k + 1, by omega, by go_num, HP.out.1, hB3.trans HP.out.2.2, by simpa [World.setCell] using hlt1⟩
      case measure => simp [intOf]; omega
    · obtain rfl : k = n := by omega
      rw [← HN.out, fillTo_all, HN.out] at hI
      go_wp2_with fail
      go_ret
      exact ⟨_, rfl, hI, hB⟩
end Go.Proofs.YtpnfdlnhmhekeaaGreat

namespace Go.Proofs.YtpnfdlnhmhekeaaGreat
open Go.RowKit

theorem Own.apart {w w' : World} {E T : TypeId} {g base size n : Nat} {cs xs : List Value} {v : Value} (o : Own w E g cs) (hl : cs.length ≤ 1000) (hr : w.ownsRow base T size v n xs) (hne : E ≠ T) (hg : w.grownBy w' v.ownBlock) : Own w' E g cs := by
  have h1 := row_ne (o.asRow hl) hr hne
  have hlt := o.lt
  unfold Own at *
  rw [hg.block g hlt (fun e => by
    rcases h1 with h | h
    · cases h
    · exact h (by first | exact e | exact e.symm))]
  exact o

theorem typed_ne {w : World} {b base size n : Nat} {T E : TypeId} {v : Value} {xs : List Value} (hb : TyB w b T) (hr : w.ownsRow base E size v n xs) (hne : E ≠ T) : v.ownBlock ≠ some b := fun e => by
  rcases hr.2 with ⟨rfl, _⟩ | ⟨g, cap, cur, rfl, hg1, hg2, _⟩
  · cases e
  · obtain rfl : g = b := Option.some.inj e
    obtain ⟨cs', fr, hb⟩ := hb
    rw [hg2] at hb
    injection hb with hb
    injection hb with _ hb _
    exact hne hb
theorem typed_kept {w w' : World} {b base size n : Nat} {T E : TypeId} {v : Value} {xs : List Value} (hb : TyB w b T) (hr : w.ownsRow base E size v n xs) (hne : E ≠ T) (hg : w.grownBy w' v.ownBlock) : w'.heap[b]? = w.heap[b]? := by
  obtain ⟨cs', fr, hc⟩ := id hb
  exact hg.block b (Array.getElem?_eq_some_iff.1 hc).1 (fun e => typed_ne hb hr hne (by first | exact e | exact e.symm))

/-- The growing sweep. -/
structure OutP (w : World) (g base : Nat) (sf sa sb : Value) (fr : List CQ) (a b : List (List (List CQ))) : Prop where
  box : Own w 33 g [sf, sa, sb]
  rf : RowOf NumC 51 5 w base sf fr
  ra : RowOf (NumsMP fun k => sf.ownBlock ≠ some k) 65 1 w base sa a
  rb : RowOf (NumsMP fun k => sf.ownBlock ≠ some k) 65 1 w base sb b
  ap : sa.ownBlock = none ∨ sa.ownBlock ≠ sb.ownBlock
  lt : g < base
  bs : base ≤ w.heap.size

theorem OutP.below {w w' : World} {g base : Nat} {sf sa sb : Value} {fr : List CQ} {a b : List (List (List CQ))} (h : OutP w g base sf sa sb fr a b) (hb : Below w.heap.size w w') : OutP w' g base sf sa sb fr a b :=
  ⟨h.box.below hb h.box.lt, h.rf.below num_stable hb, h.ra.below (numsMP_stable _) hb, h.rb.below (numsMP_stable _) hb, h.ap, h.lt, Nat.le_trans h.bs hb.size⟩

/-- A row of frequencies has grown: the matrices are kept, and avoid its block. -/
theorem mats_kept {w w' : World} {base base' size n g' : Nat} {sf sf' sa : Value} {xs : List Value} {a : List (List (List CQ))} (h : RowOf (NumsMP fun k => sf.ownBlock ≠ some k) 65 1 w base sa a)
    (hr : w.ownsRow base' 51 size sf n xs) (hg : w.grownBy w' sf.ownBlock) (hs : sf'.ownBlock = some g') (hx : sf.ownBlock = some g' ∨ g' = w.heap.size) : RowOf (NumsMP fun k => sf'.ownBlock ≠ some k) 65 1 w' base sa a := by
  refine h.lift (fun u x hu => ?_) (fun n' xs' h' => World.ownsRow.kept h' hg ?_)
  · obtain ⟨v, e, hv⟩ := hu
    refine ⟨v, e, hv.lift (fun u2 x2 h2 => ?_) (fun b hb => typed_kept hb hr (by decide) hg)⟩
    have h3 : NumsP (fun k => sf.ownBlock ≠ some k ∧ sf'.ownBlock ≠ some k) w u2 x2 := CellP.weaken h2 fun b hb hp => ⟨hp, fun e => by
      rw [hs] at e
      have e := Option.some.inj e
      rcases hx with hx | hx
      · exact hp (e ▸ hx)
      · omega⟩
    exact CellP.weaken (CellP.keepRow num_stable h3 hr (by decide) (fun b hp => hp.1) hg) fun b _ hp => hp.2
  · have := row_ne h' hr (by decide)
    exact this

theorem OutP.set {w : World} {g base i : Nat} {sf sa sb y : Value} {fr : List CQ} {a b : List (List (List CQ))} {p : Nat → Prop} {cs : List Value} (box : Own w 33 g cs) (hl : cs.length = 3) (rf : RowOf NumC 51 5 w base sf fr) (ra : RowOf (NumsMP p) 65 1 w base sa a) (rb : RowOf (NumsMP p) 65 1 w base sb b) :
    RowOf NumC 51 5 (w.setCell ⟨g, i, none⟩ y) base sf fr ∧ RowOf (NumsMP p) 65 1 (w.setCell ⟨g, i, none⟩ y) base sa a ∧ RowOf (NumsMP p) 65 1 (w.setCell ⟨g, i, none⟩ y) base sb b :=
  ⟨RowOf.putBox num_stable rf box (by decide) (by omega) i y, RowOf.putBox (numsMP_stable _) ra box (by decide) (by omega) i y, RowOf.putBox (numsMP_stable _) rb box (by decide) (by omega) i y⟩

/-- x.Freqs = append(x.Freqs, y). -/
theorem OutP.freq {w wa : World} {g base g' n cap : Nat} {sf sa sb : Value} {fr : List CQ} {y : CQ} {a b : List (List (List CQ))} (h : OutP w g base sf sa sb fr a b) (hg : w.grownBy wa sf.ownBlock) (hnew : RowOf NumC 51 5 wa base (.slice (some ⟨g', 0, none⟩) n cap) (fr ++ [y])) (hx : sf.ownBlock = some g' ∨ g' = w.heap.size) :
    OutP (wa.setCell ⟨g, 0, none⟩ (.slice (some ⟨g', 0, none⟩) n cap)) g base (.slice (some ⟨g', 0, none⟩) n cap) sa sb (fr ++ [y]) a b := by
  obtain ⟨us, -, hr, -⟩ := id h.rf
  have hbox : Own wa 33 g [sf, sa, sb] := h.box.apart (by simp) hr (by decide) hg
  have hs : (Value.slice (some ⟨g', 0, none⟩) n cap).ownBlock = some g' := rfl
  obtain ⟨p1, p2, p3⟩ := OutP.set (i := 0) (y := .slice (some ⟨g', 0, none⟩) n cap) hbox rfl hnew (mats_kept h.ra hr hg hs hx) (mats_kept h.rb hr hg hs hx)
  exact ⟨hbox.set 0 _, p1, p2, p3, h.ap, h.lt, by have := h.bs; have := hg.size; simp [World.setCell]; omega⟩

/-- The three rows, whatever the box holds. -/
structure OutR (w : World) (base : Nat) (sf sa sb : Value) (fr : List CQ) (a b : List (List (List CQ))) : Prop where
  rf : RowOf NumC 51 5 w base sf fr
  ra : RowOf (NumsMP fun k => sf.ownBlock ≠ some k) 65 1 w base sa a
  rb : RowOf (NumsMP fun k => sf.ownBlock ≠ some k) 65 1 w base sb b
  ap : sa.ownBlock = none ∨ sa.ownBlock ≠ sb.ownBlock
  bs : base ≤ w.heap.size
theorem OutP.rows {w : World} {g base : Nat} {sf sa sb : Value} {fr : List CQ} {a b : List (List (List CQ))} (h : OutP w g base sf sa sb fr a b) : OutR w base sf sa sb fr a b := ⟨h.rf, h.ra, h.rb, h.ap, h.bs⟩
theorem OutR.below {w w' : World} {base : Nat} {sf sa sb : Value} {fr : List CQ} {a b : List (List (List CQ))} (h : OutR w base sf sa sb fr a b) (hb : Below w.heap.size w w') : OutR w' base sf sa sb fr a b :=
  ⟨h.rf.below num_stable hb, h.ra.below (numsMP_stable _) hb, h.rb.below (numsMP_stable _) hb, h.ap, Nat.le_trans h.bs hb.size⟩
theorem OutR.set {w : World} {g base i : Nat} {sf sa sb y : Value} {fr : List CQ} {a b : List (List (List CQ))} {cs : List Value} (h : OutR w base sf sa sb fr a b) (box : Own w 33 g cs) (hl : cs.length = 3) : OutR (w.setCell ⟨g, i, none⟩ y) base sf sa sb fr a b := by
  obtain ⟨p1, p2, p3⟩ := OutP.set (i := i) (y := y) box hl h.rf h.ra h.rb
  exact ⟨p1, p2, p3, h.ap, by have := h.bs; simpa [World.setCell] using this⟩

/-- A row of matrices has grown: the rest is kept. -/
theorem OutR.matA {w wa : World} {base g' n cap : Nat} {sf sa sb : Value} {fr : List CQ} {m : List (List CQ)} {a b : List (List (List CQ))} (h : OutR w base sf sa sb fr a b) (hg : w.grownBy wa sa.ownBlock) (hnew : RowOf (NumsMP fun k => sf.ownBlock ≠ some k) 65 1 wa base (.slice (some ⟨g', 0, none⟩) n cap) (a ++ [m])) (hx : sa.ownBlock = some g' ∨ g' = w.heap.size) :
    OutR wa base sf (.slice (some ⟨g', 0, none⟩) n cap) sb fr (a ++ [m]) b := by
  obtain ⟨us, -, hr, -⟩ := id h.ra
  obtain ⟨vs, q1, q2, q3⟩ := id h.rb
  have hab : sb.ownBlock = none ∨ sb.ownBlock ≠ sa.ownBlock := by
    rcases h.ap with e | e
    · cases eb : sb.ownBlock with
      | none => exact .inl rfl
      | some k => exact .inr (by rw [e]; exact fun h => by cases h)
    · exact .inr e.symm
  refine ⟨h.rf.lift (fun u x hu => num_stable.row hu hr (by decide) hg) (fun n' xs' h' => World.ownsRow.kept h' hg (row_ne h' hr (by decide))), hnew, ⟨vs, q1, World.ownsRow.kept q2 hg hab, fun i u x hu hx => ⟨(q3 i u x hu hx).1, (numsMP_stable _).row (q3 i u x hu hx).2 hr (by decide) hg⟩⟩, .inr fun e => ?_, by have := h.bs; have := hg.size; omega⟩
  have e2 : sb.ownBlock = some g' := e.symm
  rcases hx with hx | hx
  · rcases hab with h1 | h1
    · rw [h1] at e2; cases e2
    · exact h1 (e2.trans hx.symm)
  · have := (q2.lt g' e2).2
    omega
theorem OutR.matB {w wa : World} {base g' n cap : Nat} {sf sa sb : Value} {fr : List CQ} {m : List (List CQ)} {a b : List (List (List CQ))} (h : OutR w base sf sa sb fr a b) (hg : w.grownBy wa sb.ownBlock) (hnew : RowOf (NumsMP fun k => sf.ownBlock ≠ some k) 65 1 wa base (.slice (some ⟨g', 0, none⟩) n cap) (b ++ [m])) (hx : sb.ownBlock = some g' ∨ g' = w.heap.size) :
    OutR wa base sf sa (.slice (some ⟨g', 0, none⟩) n cap) fr a (b ++ [m]) := by
  obtain ⟨us, -, hr, -⟩ := id h.rb
  obtain ⟨vs, q1, q2, q3⟩ := id h.ra
  refine ⟨h.rf.lift (fun u x hu => num_stable.row hu hr (by decide) hg) (fun n' xs' h' => World.ownsRow.kept h' hg (row_ne h' hr (by decide))), ⟨vs, q1, World.ownsRow.kept q2 hg h.ap, fun i u x hu hx => ⟨(q3 i u x hu hx).1, (numsMP_stable _).row (q3 i u x hu hx).2 hr (by decide) hg⟩⟩, hnew, ?_, by have := h.bs; have := hg.size; omega⟩
  cases ea : sa.ownBlock with
  | none => exact .inl rfl
  | some k =>
    refine .inr fun e => ?_
    have e2 : k = g' := Option.some.inj e
    subst e2
    rcases hx with hx | hx
    · rcases h.ap with h1 | h1
      · rw [h1] at ea; cases ea
      · exact h1 (ea.trans hx.symm)
    · have := (q2.lt k ea).2
      omega
end Go.Proofs.YtpnfdlnhmhekeaaGreat
