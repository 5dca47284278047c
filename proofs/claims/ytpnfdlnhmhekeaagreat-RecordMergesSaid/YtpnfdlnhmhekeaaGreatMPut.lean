/- Short forms of the steps of XLate. Conditions: none. slices.Clone of a row of numbers, record.copied. Conditions: no row is empty. The sweep that Merge and Cut build up: its box, its three rows. Conditions: none. The drawn regions of put. Conditions: none. (*Waves).put. Conditions: rows that are not empty. -/
import Derived.Test.YtpnfdlnhmhekeaaGreatMFreqs
import Derived.Test.YtpnfdlnhmhekeaaGreatMRegion
import Derived.Test.YtpnfdlnhmhekeaaGreatMSquare
import Derived.Lib.LazyBuf
set_option linter.all false
namespace Go.Proofs.YtpnfdlnhmhekeaaGreat
open Go.RowKit
section
variable {α : Type}
theorem q1 {l : List α} {i : Nat} {a : α} : l.toArray.setIfInBounds i a = (l.set i a).toArray := List.setIfInBounds_toArray ..
theorem q2 {a b : α} {l : List α} : (a :: l).set 0 b = b :: l := rfl
theorem q3 {a b : α} {l : List α} {n : Nat} : (a :: l).set (n + 1) b = a :: l.set n b := rfl
theorem q4 {l : List α} {i : Nat} (h : i < l.toArray.size) : l.toArray[i] = l[i]'(by simpa using h) := rfl
theorem q5 {a : α} {l : List α} (h : 0 < (a :: l).length) : (a :: l)[0] = a := rfl
theorem q6 {a : α} {l : List α} {n : Nat} (h : n + 1 < (a :: l).length) : (a :: l)[n + 1] = l[n]'(by simpa using h) := rfl
theorem q7 {l : List α} {i : Nat} : l.toArray[i]? = l[i]? := List.getElem?_toArray ..
theorem q8 {a : α} {l : List α} : (a :: l)[0]? = some a := rfl
theorem q9 {a : α} {l : List α} {n : Nat} : (a :: l)[n + 1]? = l[n]? := rfl
end
theorem lr {n : Nat} : n ≤ n := Nat.le_refl n
section
variable {P : Program} {md : Region.Mode} {ops : Array Oper} {Q : Exit → Act → World → Prop} {S L : World → Prop} {late : Nat → Bool}
theorem mt (i : Nat) (v : Value) {oi : Oper} {n : Nat} {listed : Array Bool} {a : Act} {w : World} (hi : ops[i]? = some oi)
    (hw : Region.wanted oi (yielded ops a.tmps) = true) (hy : ∀ w, S w → (execOp a.eval oi).run P w = .ok (.value v) w) (hS : S w)
    (h : wpAnyM P md ops Q S L late n (listed.setIfInBounds i true) (a.put oi.dst v) w) (hs : (Region.noSelect ops && Region.free md ops listed i && (Region.ready md ops listed).contains i) = true := by kernel_rfl)
    (hQ : ∀ c a w, Q (.panic c) (a.put oi.dst v) w → Q (.panic c) a w := by exact fun _ _ _ h => h) : wpAnyM P md ops Q S L late (n + 1) listed a w := by
  rw [Bool.and_eq_true, Bool.and_eq_true] at hs
  exact wpAnyM_take hi hs.1.1 hs.1.2 hs.2 hQ hw hy hS h
theorem mk (i : Nat) {oi : Oper} {n : Nat} {listed : Array Bool} {a : Act} {w : World} (hi : ops[i]? = some oi)
    (hw : Region.wanted oi (yielded ops a.tmps) = false) (hS : S w) (h : wpAnyM P md ops Q S L late n (listed.setIfInBounds i true) (a.put oi.dst undef) w)
    (hs : (Region.noSelect ops && Region.free md ops listed i && (Region.ready md ops listed).contains i) = true := by kernel_rfl)
    (hQ : ∀ c a w, Q (.panic c) (a.put oi.dst undef) w → Q (.panic c) a w := by exact fun _ _ _ h => h) : wpAnyM P md ops Q S L late (n + 1) listed a w := by
  rw [Bool.and_eq_true, Bool.and_eq_true] at hs
  exact wpAnyM_skip hi hs.1.1 hs.1.2 hs.2 hQ hw hS h
theorem mo (i : Nat) {o : Oper} {n : Nat} {listed : Array Bool} {a : Act} {w : World} (ho : ops[i]? = some o)
    (h : ∀ K : Act → World → Prop, (∀ a' w', S w' → (late i = false → L w → L w') → wpAnyM P md ops Q S L late n (listed.setIfInBounds i true) a' w' → K a' w') →
      if Region.wanted o (yielded ops a.tmps) = true then o.wp P a w K Q else K (a.put o.dst undef) w) (hr : Region.ready md ops listed = [i] := by kernel_rfl) : wpAnyM P md ops Q S L late (n + 1) listed a w := wpAnyM_one hr ho h
end
end Go.Proofs.YtpnfdlnhmhekeaaGreat
namespace Go.Proofs.YtpnfdlnhmhekeaaGreat
open Go.RowKit
set_option maxRecDepth 100000 in
set_option maxHeartbeats 1600000 in
theorem clone_spec (v : Value) (l : List CQ) (w : World) (h : NumSl w v l) (h0 : 0 < l.length ∧ l.length ≤ 1000) :
    Calls Tryz.prog 117 #[v] w (Ret w fun w' v' => NumRow w.heap.size w' v' l) := by
  obtain ⟨a, c, rfl, hc, hc2⟩ := h.dims
  obtain ⟨b, o, _, _, _, _, _, _, _, _, _, _, _, rfl, -⟩ := h.num (List.getElem?_eq_getElem h0.1)
  obtain ⟨n, hn⟩ : ∃ n, l.length = n := ⟨_, rfl⟩
  have HL := Lib.hid h
  rw [hn] at HL hc h0 ⊢
  obtain ⟨h0, h1⟩ := h0
  clear h hn
  have hb0 : Below w.heap.size w (w.alloc (.cells #[] 51)) := (Below.refl _ _).alloc (Nat.le_refl _) _
  have hL2 := HL.out.below hb0 (Nat.le_refl _)
  have hr0 : RowOf NumC 51 5 (w.alloc (.cells #[] 51)) w.heap.size (.slice (some ⟨w.heap.size, 0, none⟩) 0 0) ([] : List CQ) := ⟨[], rfl, ⟨rfl, .inr ⟨w.heap.size, 0, #[], rfl, Nat.le_refl _, by show (w.heap.push _)[w.heap.size]? = _; simp, Nat.le_refl _, by unfold maxLen; omega, rfl, rfl⟩⟩, fun i u x hu => by simp at hu⟩
  have hs0 := hb0.size
  have hz : 0 + n ≤ 1000000 := by omega
  have heq : ∀ w, (binOp .eql 30 (.slice (some ⟨b, o, none⟩) n c) (.slice none 0 0)).run Tryz.prog w = .ok (.bool false) w := fun w => Lib.run_eql_slice_nil w _ _ _ _ _ 0 0 Tryz.underlying30
  go_enter Tryz.func117, Tryz.ntmps117
  go_wp2_with (at_builtin; (refine append_many (w.alloc (.cells #[] 51)) rfl (.tmp 5) (.tmp 6) 30 51 (.agg #[.bool false, .slice none 0 0, .bool false, .slice none 0 0, .slice none 0 0]) 5 88 rfl Tryz.underlying30 info_num rfl (by omega) (by omega) w.heap.size _ 0 [] l num_stable (by decide) one_num rfl hr0 rfl _ n c rfl hL2.1 h0 hz hs0 ?_); intro g cap w' hr' hb' _ hsz')
  go_ret
  exact ⟨_, rfl, by unfold NumRow; simpa using hr', hb0.trans hb'⟩
set_option maxRecDepth 100000 in
set_option maxHeartbeats 1600000 in
theorem copied_spec (v : Value) (m : List (List CQ)) (w : World) (h : NumMat w v m) (hn : m.length ≤ 1000) (hm : ∀ l ∈ m, 0 < l.length ∧ l.length ≤ 1000) :
    Calls Tryz.prog 87 #[v] w (Ret w fun w' v' => RowOf (NumsP (fun b => w.heap.size ≤ b)) 30 1 w' w.heap.size v' m) := by
  obtain ⟨n, hln⟩ : ∃ n, m.length = n := ⟨_, rfl⟩
  obtain ⟨a, c, rfl, hc, hc2⟩ := h.dims
  have HL := Lib.hid h
  have HN := Lib.hid hln
  have HM := Lib.hid hm
  rw [hln] at hn hc ⊢
  rw [hln] at HL
  clear h hln hm
  go_enter Tryz.func87, Tryz.ntmps87
  go_wp2_with (at_make; refine make_row (R := NumsP (fun b => w.heap.size ≤ b)) _ rfl _ _ 30 _ 1 24 rfl Tryz.underlying65 info_nums rfl (by omega) (by omega) _ n rfl rfl (by omega) [] (fun w => ⟨_, rfl, nil_slT, fun b hb => by cases hb⟩) ?_; intro w1 hr1 hb1 hs1)
  go_loopw [11] (fun iv wr => ∃ k : Nat, k ≤ n ∧ iv = .int .i64 (k : Int) ∧ RowOf (NumsP (fun b => w.heap.size ≤ b)) 30 1 wr w.heap.size (.slice (some ⟨w.heap.size, 0, none⟩) n n) (fillTo m [] k) ∧ Below w.heap.size w wr ∧ w.heap.size < wr.heap.size) (fun i _ => n - (intOf i).toNat)
  case atStart => exact ⟨0, Nat.zero_le _, rfl, by rw [fillTo_zero, HN.out]; exact hr1, hb1, by omega⟩
  case round =>
    clear hr1 hb1 hs1
    obtain ⟨k, hk, rfl, hI, hB, hlw⟩ := hrel
    by_cases hlt : k < n
    · obtain ⟨r, hr⟩ : ∃ r, m[k]? = some r := ⟨_, List.getElem?_eq_getElem (by have := HN.out; omega)⟩
      obtain ⟨b1, o1, a1, c1, rfl, -, e0, hsv2, hc3, hc4⟩ := (HL.out.below hB (Nat.le_refl _)).list hr
      have hrl := HM.out r (List.mem_of_getElem? hr)
      have HR := Lib.hid hr
      have hk' : k < (fillTo m [] k).length := by rw [fillTo_len _ _ (by rw [HN.out]; omega), HN.out]; exact hlt
      clear hr
      obtain ⟨rl0, hrl0⟩ : ∃ x, r.length = x := ⟨_, rfl⟩
      rw [hrl0] at e0 hsv2 hc3
      clear hrl0
      go_wp2_with fail
      refine (clone_spec _ r wr hsv2 hrl).mono ?_
      rintro e W1 ⟨x, rfl, hx, hb1⟩
      obtain ⟨xa, xc, rfl⟩ := RowOf.shape hx
      have hI3 := hI.below (numsP_stable _) hb1
      have hB3 : Below w.heap.size w W1 := hB.trans (hb1.mono (by omega))
      obtain ⟨y, hy, hys⟩ := hI3.spot hk'
      obtain ⟨y0, rfl⟩ : ∃ y0, y = [y0] := by match y, hy with | [y0], _ => exact ⟨y0, rfl⟩
      have c0 : W1.cell? ⟨w.heap.size, k, none⟩ = some y0 := by have := hys 0 _ rfl; rwa [Nat.mul_one, Nat.add_zero] at this
      have fz := hI3.free
      have hp := RowOf.put (u := [.slice xa r.length xc]) (numsP_stable _) (by decide) hI3 hk' rfl (show NumsP (fun b => w.heap.size ≤ b) W1 _ r from ⟨_, rfl, RowOf.slT hx, fun b hb => ⟨Nat.le_trans hB.size (RowOf.block hx b hb).1, (RowOf.block hx b hb).2⟩⟩)
      rw [fillTo_set HR.out, Nat.mul_one] at hp
      have HP := Lib.hid hp
      have hlt1 : w.heap.size < W1.heap.size := by have := hb1.size; omega
      clear hI hI3 hys hk' hp hy e0 hsv2 hx
      generalize r.length = rl at *
      go_wp2_with fail
      go_roundw
      case rel => exact ⟨k + 1, by omega, by go_num, HP.out.1, hB3.trans HP.out.2.2, by simpa [World.setCell] using hlt1⟩
      case measure => simp [intOf]; omega
    · obtain rfl : k = n := by omega
      rw [← HN.out, fillTo_all, HN.out] at hI
      go_wp2_with fail
      go_ret
      exact ⟨_, rfl, hI, hB⟩
end Go.Proofs.YtpnfdlnhmhekeaaGreat
namespace Go.Proofs.YtpnfdlnhmhekeaaGreat
open Go.RowKit
theorem Own.apart {w w' : World} {E T : TypeId} {g base size n : Nat} {cs xs : List Value} {v : Value} (o : Own w E g cs) (hl : cs.length ≤ 1000) (hr : w.ownsRow base T size v n xs) (hne : E ≠ T) (hg : w.grownBy w' v.ownBlock) : Own w' E g cs := by
  have h1 := row_ne (o.asRow hl) hr hne
  have hlt := o.lt
  unfold Own at *
  rw [hg.block g hlt (fun e => by
    rcases h1 with h | h
    · cases h
    · exact h (by first | exact e | exact e.symm))]
  exact o
theorem typed_ne {w : World} {b base size n : Nat} {T E : TypeId} {v : Value} {xs : List Value} (hb : TyB w b T) (hr : w.ownsRow base E size v n xs) (hne : E ≠ T) : v.ownBlock ≠ some b := fun e => by
  rcases hr.2 with ⟨rfl, _⟩ | ⟨g, cap, cur, rfl, hg1, hg2, _⟩
  · cases e
  · obtain rfl : g = b := Option.some.inj e
    obtain ⟨cs', fr, hb⟩ := hb
    rw [hg2] at hb
    injection hb with hb
    injection hb with _ hb _
    exact hne hb
theorem typed_kept {w w' : World} {b base size n : Nat} {T E : TypeId} {v : Value} {xs : List Value} (hb : TyB w b T) (hr : w.ownsRow base E size v n xs) (hne : E ≠ T) (hg : w.grownBy w' v.ownBlock) : w'.heap[b]? = w.heap[b]? := by
  obtain ⟨cs', fr, hc⟩ := id hb
  exact hg.block b (Array.getElem?_eq_some_iff.1 hc).1 (fun e => typed_ne hb hr hne (by first | exact e | exact e.symm))
structure OutP (w : World) (g base : Nat) (sf sa sb : Value) (fr : List CQ) (a b : List (List (List CQ))) : Prop where
  box : Own w 33 g [sf, sa, sb]
  rf : RowOf NumC 51 5 w base sf fr
  ra : RowOf (NumsMP fun k => sf.ownBlock ≠ some k) 65 1 w base sa a
  rb : RowOf (NumsMP fun k => sf.ownBlock ≠ some k) 65 1 w base sb b
  ap : sa.ownBlock = none ∨ sa.ownBlock ≠ sb.ownBlock
  lt : g < base
  bs : base ≤ w.heap.size
theorem OutP.below {w w' : World} {g base : Nat} {sf sa sb : Value} {fr : List CQ} {a b : List (List (List CQ))} (h : OutP w g base sf sa sb fr a b) (hb : Below w.heap.size w w') : OutP w' g base sf sa sb fr a b :=
  ⟨h.box.below hb h.box.lt, h.rf.below num_stable hb, h.ra.below (numsMP_stable _) hb, h.rb.below (numsMP_stable _) hb, h.ap, h.lt, Nat.le_trans h.bs hb.size⟩
theorem mats_kept {w w' : World} {base base' size n g' : Nat} {sf sf' sa : Value} {xs : List Value} {a : List (List (List CQ))} (h : RowOf (NumsMP fun k => sf.ownBlock ≠ some k) 65 1 w base sa a)
    (hr : w.ownsRow base' 51 size sf n xs) (hg : w.grownBy w' sf.ownBlock) (hs : sf'.ownBlock = some g') (hx : sf.ownBlock = some g' ∨ g' = w.heap.size) : RowOf (NumsMP fun k => sf'.ownBlock ≠ some k) 65 1 w' base sa a := by
  refine h.lift (fun u x hu => ?_) (fun n' xs' h' => World.ownsRow.kept h' hg ?_)
  · obtain ⟨v, e, hv⟩ := hu
    refine ⟨v, e, hv.lift (fun u2 x2 h2 => ?_) (fun b hb => typed_kept hb hr (by decide) hg)⟩
    have h3 : NumsP (fun k => sf.ownBlock ≠ some k ∧ sf'.ownBlock ≠ some k) w u2 x2 := CellP.weaken h2 fun b hb hp => ⟨hp, fun e => by
      rw [hs] at e
      have e := Option.some.inj e
      rcases hx with hx | hx
      · exact hp (e ▸ hx)
      · omega⟩
    exact CellP.weaken (CellP.keepRow num_stable h3 hr (by decide) (fun b hp => hp.1) hg) fun b _ hp => hp.2
  · have := row_ne h' hr (by decide)
    exact this
theorem OutP.set {w : World} {g base i : Nat} {sf sa sb y : Value} {fr : List CQ} {a b : List (List (List CQ))} {p : Nat → Prop} {cs : List Value} (box : Own w 33 g cs) (hl : cs.length = 3) (rf : RowOf NumC 51 5 w base sf fr) (ra : RowOf (NumsMP p) 65 1 w base sa a) (rb : RowOf (NumsMP p) 65 1 w base sb b) :
    RowOf NumC 51 5 (w.setCell ⟨g, i, none⟩ y) base sf fr ∧ RowOf (NumsMP p) 65 1 (w.setCell ⟨g, i, none⟩ y) base sa a ∧ RowOf (NumsMP p) 65 1 (w.setCell ⟨g, i, none⟩ y) base sb b :=
  ⟨RowOf.putBox num_stable rf box (by decide) (by omega) i y, RowOf.putBox (numsMP_stable _) ra box (by decide) (by omega) i y, RowOf.putBox (numsMP_stable _) rb box (by decide) (by omega) i y⟩
theorem OutP.freq {w wa : World} {g base g' n cap : Nat} {sf sa sb : Value} {fr : List CQ} {y : CQ} {a b : List (List (List CQ))} (h : OutP w g base sf sa sb fr a b) (hg : w.grownBy wa sf.ownBlock) (hnew : RowOf NumC 51 5 wa base (.slice (some ⟨g', 0, none⟩) n cap) (fr ++ [y])) (hx : sf.ownBlock = some g' ∨ g' = w.heap.size) :
    OutP (wa.setCell ⟨g, 0, none⟩ (.slice (some ⟨g', 0, none⟩) n cap)) g base (.slice (some ⟨g', 0, none⟩) n cap) sa sb (fr ++ [y]) a b := by
  obtain ⟨us, -, hr, -⟩ := id h.rf
  have hbox : Own wa 33 g [sf, sa, sb] := h.box.apart (by simp) hr (by decide) hg
  have hs : (Value.slice (some ⟨g', 0, none⟩) n cap).ownBlock = some g' := rfl
  obtain ⟨p1, p2, p3⟩ := OutP.set (i := 0) (y := .slice (some ⟨g', 0, none⟩) n cap) hbox rfl hnew (mats_kept h.ra hr hg hs hx) (mats_kept h.rb hr hg hs hx)
  exact ⟨hbox.set 0 _, p1, p2, p3, h.ap, h.lt, by have := h.bs; have := hg.size; simp [World.setCell]; omega⟩
structure OutR (w : World) (base : Nat) (sf sa sb : Value) (fr : List CQ) (a b : List (List (List CQ))) : Prop where
  rf : RowOf NumC 51 5 w base sf fr
  ra : RowOf (NumsMP fun k => sf.ownBlock ≠ some k) 65 1 w base sa a
  rb : RowOf (NumsMP fun k => sf.ownBlock ≠ some k) 65 1 w base sb b
  ap : sa.ownBlock = none ∨ sa.ownBlock ≠ sb.ownBlock
  bs : base ≤ w.heap.size
theorem OutP.rows {w : World} {g base : Nat} {sf sa sb : Value} {fr : List CQ} {a b : List (List (List CQ))} (h : OutP w g base sf sa sb fr a b) : OutR w base sf sa sb fr a b := ⟨h.rf, h.ra, h.rb, h.ap, h.bs⟩
theorem OutR.below {w w' : World} {base : Nat} {sf sa sb : Value} {fr : List CQ} {a b : List (List (List CQ))} (h : OutR w base sf sa sb fr a b) (hb : Below w.heap.size w w') : OutR w' base sf sa sb fr a b :=
  ⟨h.rf.below num_stable hb, h.ra.below (numsMP_stable _) hb, h.rb.below (numsMP_stable _) hb, h.ap, Nat.le_trans h.bs hb.size⟩
theorem OutR.set {w : World} {g base i : Nat} {sf sa sb y : Value} {fr : List CQ} {a b : List (List (List CQ))} {cs : List Value} (h : OutR w base sf sa sb fr a b) (box : Own w 33 g cs) (hl : cs.length = 3) : OutR (w.setCell ⟨g, i, none⟩ y) base sf sa sb fr a b := by
  obtain ⟨p1, p2, p3⟩ := OutP.set (i := i) (y := y) box hl h.rf h.ra h.rb
  exact ⟨p1, p2, p3, h.ap, by have := h.bs; simpa [World.setCell] using this⟩
theorem OutR.matA {w wa : World} {base g' n cap : Nat} {sf sa sb : Value} {fr : List CQ} {m : List (List CQ)} {a b : List (List (List CQ))} (h : OutR w base sf sa sb fr a b) (hg : w.grownBy wa sa.ownBlock) (hnew : RowOf (NumsMP fun k => sf.ownBlock ≠ some k) 65 1 wa base (.slice (some ⟨g', 0, none⟩) n cap) (a ++ [m])) (hx : sa.ownBlock = some g' ∨ g' = w.heap.size) :
    OutR wa base sf (.slice (some ⟨g', 0, none⟩) n cap) sb fr (a ++ [m]) b := by
  obtain ⟨us, -, hr, -⟩ := id h.ra
  obtain ⟨vs, q1, q2, q3⟩ := id h.rb
  have hab : sb.ownBlock = none ∨ sb.ownBlock ≠ sa.ownBlock := by
    rcases h.ap with e | e
    · cases eb : sb.ownBlock with
      | none => exact .inl rfl
      | some k => exact .inr (by rw [e]; exact fun h => by cases h)
    · exact .inr e.symm
  refine ⟨h.rf.lift (fun u x hu => num_stable.row hu hr (by decide) hg) (fun n' xs' h' => World.ownsRow.kept h' hg (row_ne h' hr (by decide))), hnew, ⟨vs, q1, World.ownsRow.kept q2 hg hab, fun i u x hu hx => ⟨(q3 i u x hu hx).1, (numsMP_stable _).row (q3 i u x hu hx).2 hr (by decide) hg⟩⟩, .inr fun e => ?_, by have := h.bs; have := hg.size; omega⟩
  have e2 : sb.ownBlock = some g' := e.symm
  rcases hx with hx | hx
  · rcases hab with h1 | h1
    · rw [h1] at e2; cases e2
    · exact h1 (e2.trans hx.symm)
  · have := (q2.lt g' e2).2
    omega
theorem OutR.matB {w wa : World} {base g' n cap : Nat} {sf sa sb : Value} {fr : List CQ} {m : List (List CQ)} {a b : List (List (List CQ))} (h : OutR w base sf sa sb fr a b) (hg : w.grownBy wa sb.ownBlock) (hnew : RowOf (NumsMP fun k => sf.ownBlock ≠ some k) 65 1 wa base (.slice (some ⟨g', 0, none⟩) n cap) (b ++ [m])) (hx : sb.ownBlock = some g' ∨ g' = w.heap.size) :
    OutR wa base sf sa (.slice (some ⟨g', 0, none⟩) n cap) fr a (b ++ [m]) := by
  obtain ⟨us, -, hr, -⟩ := id h.rb
  obtain ⟨vs, q1, q2, q3⟩ := id h.ra
  refine ⟨h.rf.lift (fun u x hu => num_stable.row hu hr (by decide) hg) (fun n' xs' h' => World.ownsRow.kept h' hg (row_ne h' hr (by decide))), ⟨vs, q1, World.ownsRow.kept q2 hg h.ap, fun i u x hu hx => ⟨(q3 i u x hu hx).1, (numsMP_stable _).row (q3 i u x hu hx).2 hr (by decide) hg⟩⟩, hnew, ?_, by have := h.bs; have := hg.size; omega⟩
  cases ea : sa.ownBlock with
  | none => exact .inl rfl
  | some k =>
    refine .inr fun e => ?_
    have e2 : k = g' := Option.some.inj e
    subst e2
    rcases hx with hx | hx
    · rcases h.ap with h1 | h1
      · rw [h1] at ea; cases ea
      · exact h1 (ea.trans hx.symm)
    · have := (q2.lt k ea).2
      omega
end Go.Proofs.YtpnfdlnhmhekeaaGreat
namespace Go.Proofs.YtpnfdlnhmhekeaaGreat
open Go.RowKit
noncomputable def putregion1 : Code := (Tryz.f39.body.bind (findRegion 1)).getD .skip
noncomputable def putregion2 : Code := (Tryz.f39.body.bind (findRegion 2)).getD .skip
theorem cell_far {w : World} {g i : Nat} {y : Value} {p : Addr} (h : p.block ≠ g) : (w.setCell ⟨g, i, none⟩ y).cell? p = w.cell? p := World.cell?_of_block (heap_setCell_other w ⟨g, i, none⟩ p.block y h)
set_option maxRecDepth 100000 in
set_option maxHeartbeats 3200000 in
theorem putreg1 (w : World) (g g4 base n c k b o m : Nat) (sf sa sb va vb : Value) (l : List CQ) (la lb : List (List (List CQ))) (y : CQ) (s0 s2 : Bool) (a1 a3 a4 : Option Addr) (l1 m1 l3 m3 l4 m4 : Nat) {R : Act → World → Prop} {u1 u3 u5 u6 u7 u8 u9 u10 u11 u12 u13 u14 u15 u16 u17 u18 u19 u20 u21 u22 u23 u24 u25 u26 u27 u28 u29 u30 u31 u32 u33 u34 u35 u36 u37 u38 u39 u40 u41 u42 u43 u44 u45 u46 u47 u48 u49 : Value}
    (h : OutP w g base sf sa sb l la lb) (o4 : Own w 33 g4 [.slice (some ⟨b, o, none⟩) n c, va, vb]) (hm : l.length = m) (hm2 : m < 100000) (h4 : g ≠ g4) (hb : b < g)
    (hk : k < n) (hn : n ≤ 100000) (hy : NumRep w (.agg #[.bool s0, .slice a1 l1 m1, .bool s2, .slice a3 l3 m3, .slice a4 l4 m4]) y)
    (e0 : w.cell? ⟨b, o + k * 5, none⟩ = some (.bool s0)) (e1 : w.cell? ⟨b, o + k * 5 + 1, none⟩ = some (.slice a1 l1 m1)) (e2 : w.cell? ⟨b, o + k * 5 + 2, none⟩ = some (.bool s2)) (e3 : w.cell? ⟨b, o + k * 5 + 3, none⟩ = some (.slice a3 l3 m3)) (e4 : w.cell? ⟨b, o + k * 5 + 4, none⟩ = some (.slice a4 l4 m4))
    (hQ : ∀ (W' : World) (sf' x6 x7 x8 x9 x10 x11 x12 x13 x14 x15 x16 x17 x18 x19 : Value), OutP W' g base sf' sa sb (l ++ [y]) la lb → Own W' 33 g4 [.slice (some ⟨b, o, none⟩) n c, va, vb] → Below g w W' → R ⟨List.toArray (.pointer (some ⟨g, 0, none⟩) :: u1 :: .int .i64 (k : Int) :: u3 :: .pointer (some ⟨g4, 0, none⟩) :: u5 :: x6 :: x7 :: x8 :: x9 :: x10 :: x11 :: x12 :: x13 :: x14 :: x15 :: x16 :: x17 :: x18 :: x19 :: u20 :: u21 :: u22 :: u23 :: u24 :: u25 :: u26 :: u27 :: u28 :: u29 :: u30 :: u31 :: u32 :: u33 :: u34 :: u35 :: u36 :: u37 :: u38 :: u39 :: u40 :: u41 :: u42 :: u43 :: u44 :: u45 :: u46 :: u47 :: u48 :: u49 :: []), []⟩ W') :
    Code.wp Tryz.prog putregion1 (Only R) ⟨List.toArray (.pointer (some ⟨g, 0, none⟩) :: u1 :: .int .i64 (k : Int) :: u3 :: .pointer (some ⟨g4, 0, none⟩) :: u5 :: u6 :: u7 :: u8 :: u9 :: u10 :: u11 :: u12 :: u13 :: u14 :: u15 :: u16 :: u17 :: u18 :: u19 :: u20 :: u21 :: u22 :: u23 :: u24 :: u25 :: u26 :: u27 :: u28 :: u29 :: u30 :: u31 :: u32 :: u33 :: u34 :: u35 :: u36 :: u37 :: u38 :: u39 :: u40 :: u41 :: u42 :: u43 :: u44 :: u45 :: u46 :: u47 :: u48 :: u49 :: []), []⟩ w := by
  conv => arg 2; whnf
  have hkn : (k : Int) < (n : Int) := by omega
  have hk0 : (0 : Int) ≤ (k : Int) := by omega
  have og := h.box
  have hlt := h.lt
  have hbs := h.bs
  have ltg := og.lt
  have lt4 := o4.lt
  obtain ⟨us, hul, hr, hus⟩ := h.rf
  rw [hm] at hr hul
  have HS := Lib.hid (show ∀ W' : World, Own W' 33 g4 [.slice (some ⟨b, o, none⟩) n c, va, vb] → (∀ p : Addr, p.block < g → W'.cell? p = w.cell? p) → W'.cell? ⟨g4, 0, none⟩ = some (.slice (some ⟨b, o, none⟩) n c) ∧ W'.cell? ⟨b, o + k * 5, none⟩ = some (.bool s0) ∧ W'.cell? ⟨b, o + k * 5 + 1, none⟩ = some (.slice a1 l1 m1) ∧ W'.cell? ⟨b, o + k * 5 + 2, none⟩ = some (.bool s2) ∧ W'.cell? ⟨b, o + k * 5 + 3, none⟩ = some (.slice a3 l3 m3) ∧ W'.cell? ⟨b, o + k * 5 + 4, none⟩ = some (.slice a4 l4 m4) from fun W' h1 h2 => ⟨h1.cell 0 _ rfl, (h2 _ hb).trans e0, (h2 _ hb).trans e1, (h2 _ hb).trans e2, (h2 _ hb).trans e3, (h2 _ hb).trans e4⟩)
  have HL := Lib.hid (fun (W' : World) (h1 : Own W' 33 g [sf, sa, sb]) => h1.cell 0 _ rfl)
  have hb10 : Below w.heap.size w (w.drew.alloc (.cells #[.bool s0, .slice a1 l1 m1, .bool s2, .slice a3 l3 m3, .slice a4 l4 m4] 51)) := (Below.refl _ _).drew.alloc (Nat.le_refl _) _
  have h10 := h.below hb10
  have o410 := o4.below hb10 lt4
  have hS := HS.out w.drew o4 (fun p _ => rfl)
  have hL := HL.out w.drew og
  have H := Lib.hid h10
  have HR := Lib.hid hr
  have HU := Lib.hid hus
  have HY := Lib.hid hy
  clear hr hus h hy e0 e1 e2 e3 e4 h10
  refine wp_region_late (fun w' => w'.cell? ⟨g4, 0, none⟩ = some (.slice (some ⟨b, o, none⟩) n c) ∧ w'.cell? ⟨b, o + k * 5, none⟩ = some (.bool s0) ∧ w'.cell? ⟨b, o + k * 5 + 1, none⟩ = some (.slice a1 l1 m1) ∧ w'.cell? ⟨b, o + k * 5 + 2, none⟩ = some (.bool s2) ∧ w'.cell? ⟨b, o + k * 5 + 3, none⟩ = some (.slice a3 l3 m3) ∧ w'.cell? ⟨b, o + k * 5 + 4, none⟩ = some (.slice a4 l4 m4)) (fun w' => w'.cell? ⟨g, 0, none⟩ = some sf) (fun i => i == 14) (by kernel_rfl) ?_; try simp only [List.size_toArray, List.length_cons, List.length_nil, Nat.reduceAdd]
  (refine mt 0 ?_ rfl (by rfl) ?_ hS ?_; rotate_left; (intro w' h; (try dsimp only at h); go_simp; try exact rfl)); simp only [Act.put,q1,q2,q3,q4,q5,q6,q7,q8,q9]; (refine mt 1 ?_ rfl (by rfl) ?_ hS ?_; rotate_left; (intro w' h; (try dsimp only at h); go_simp; try exact rfl)); simp only [Act.put,q1,q2,q3,q4,q5,q6,q7,q8,q9]; (refine mt 2 ?_ rfl (by rfl) ?_ hS ?_; rotate_left; (intro w' h; (try dsimp only at h); go_simp; try exact rfl)); simp only [Act.put,q1,q2,q3,q4,q5,q6,q7,q8,q9]; (refine mt 3 ?_ rfl (by rfl) ?_ hS ?_; rotate_left; (intro w' h; (try dsimp only at h); go_simp; try exact rfl)); simp only [Act.put,q1,q2,q3,q4,q5,q6,q7,q8,q9]
  (refine wpAnyM_takeL (i := 4) (oi := _) (v := ?_) rfl (by kernel_rfl) (by kernel_rfl) (by kernel_rfl) (by kernel_rfl) (fun _ _ _ h => h) (by rfl) ?_ hS hL ?_; rotate_left; (intro w' hSw; (try dsimp only at hSw); go_simp; try exact rfl)); (try simp only [Act.put, List.setIfInBounds_toArray, List.set_cons_zero, List.set_cons_succ, List.getElem_toArray, List.getElem_cons_zero, List.getElem_cons_succ, List.getElem?_toArray, List.getElem?_cons_zero, List.getElem?_cons_succ])
  (refine mt 5 ?_ rfl (by rfl) ?_ hS ?_; rotate_left; (intro w' h; (try dsimp only at h); go_simp; try exact rfl)); simp only [Act.put,q1,q2,q3,q4,q5,q6,q7,q8,q9]; (refine mt 6 ?_ rfl (by rfl) ?_ hS ?_; rotate_left; (intro w' h; (try dsimp only at h); go_simp; try exact rfl)); simp only [Act.put,q1,q2,q3,q4,q5,q6,q7,q8,q9]; (refine mt 7 ?_ rfl (by rfl) ?_ hS ?_; rotate_left; (intro w' h; (try dsimp only at h); go_simp; try exact rfl)); simp only [Act.put,q1,q2,q3,q4,q5,q6,q7,q8,q9]; (refine mt 8 ?_ rfl (by rfl) ?_ hS ?_; rotate_left; (intro w' h; (try dsimp only at h); go_simp; try exact rfl)); simp only [Act.put,q1,q2,q3,q4,q5,q6,q7,q8,q9]; (refine mt 9 ?_ rfl (by rfl) ?_ hS ?_; rotate_left; (intro w' h; (try dsimp only at h); go_simp; try exact rfl)); simp only [Act.put,q1,q2,q3,q4,q5,q6,q7,q8,q9]
  refine mo 10 rfl fun K hK => ?_; go_simp; have hS := HS.out _ o410 (fun p hp => hb10.cell (by omega)); have hL := HL.out _ (og.below hb10 ltg); refine hK _ _ hS (fun _ _ => hL) ?_; clear hK K; (try simp only [Act.put,q1,q2,q3,q4,q5,q6,q7,q8,q9])
  refine mo 11 rfl fun K hK => ?_; refine step_app (s := .tmp 10) (x := .tmp 16) (t := 30) (e := 51) (z := .agg #[.bool false, .slice none 0 0, .bool false, .slice none 0 0, .slice none 0 0]) (size := 5) (bytes := 88) (base := base) (v := sf) (n := m) (xs := us.flatten) (gs := w.heap.size) (cs := [.bool s0, .slice a1 l1 m1, .bool s2, .slice a3 l3 m3, .slice a4 l4 m4]) _ ?_ ?_ Tryz.underlying30 info_num ?_ ?_ ?_ ?_ ?_ ?_ ?_ ?_ ?_ ?_ ?_ ?_; exact rfl; exact rfl; exact rfl; omega; omega; exact rfl; exact World.ownsRow.alloc (row_below HR.out (Below.refl w.heap.size w).drew) _; exact rfl; exact own_new w.drew 51 [.bool s0, .slice a1 l1 m1, .bool s2, .slice a3 l3 m3, .slice a4 l4 m4]; exact rfl; exact one5; omega; exact Nat.le_trans hbs hb10.size; intro ga ca wa hma hga hgx; obtain ⟨hbR, hnew, hbs2⟩ := row_push (T := 51) (size := 5) (R := NumC) (u := [.bool s0, .slice a1 l1 m1, .bool s2, .slice a3 l3 m3, .slice a4 l4 m4]) (x := y) num_stable (by decide) hm hul HR.out HU.out hbs ((Below.refl w.heap.size w).drew) (show NumC w.drew _ y from HY.out.below ((Below.refl w.heap.size w).drew) (Nat.le_refl _)) rfl hma hga; have hr10 := World.ownsRow.alloc (row_below HR.out (Below.refl w.heap.size w).drew) (.cells #[.bool s0, .slice a1 l1 m1, .bool s2, .slice a3 l3 m3, .slice a4 l4 m4] 51); have o411 := o410.apart (by simp) hr10 (by decide) hga; have og11 := (H.out.box).apart (by simp) hr10 (by decide) hga; have hS := HS.out wa o411 (fun p hp => hbR.cell (by omega)); have hL := HL.out wa og11; refine hK _ _ hS (fun _ _ => hL) ?_; clear hK K; (try simp only [Act.put,q1,q2,q3,q4,q5,q6,q7,q8,q9])
  (refine mt 12 ?_ rfl (by rfl) ?_ hS ?_; rotate_left; (intro w' h; (try dsimp only at h); go_simp; try exact rfl)); simp only [Act.put,q1,q2,q3,q4,q5,q6,q7,q8,q9]; (refine mt 13 ?_ rfl (by rfl) ?_ hS ?_; rotate_left; (intro w' h; (try dsimp only at h); go_simp; try exact rfl)); simp only [Act.put,q1,q2,q3,q4,q5,q6,q7,q8,q9]
  have hfin := H.out.freq hga hnew hgx
  have c11 := og11.cell 0 _ rfl
  have f11 := og11.free
  have o414 := o411.other (a := ⟨g, 0, none⟩) h4 (.slice (some ⟨ga, 0, none⟩) (m + 1) ca)
  refine wpAnyM_one (i := 14) (o := _) (by kernel_rfl) rfl (fun K hK => ?_); go_simp; have hS := HS.out _ o414 (fun p hp => (cell_far (show p.block ≠ g by omega)).trans (hbR.cell (by omega))); refine hK _ _ hS (fun h => absurd h (by decide)) ?_; clear hK K; (try simp only [Act.put, List.setIfInBounds_toArray, List.set_cons_zero, List.set_cons_succ, List.getElem_toArray, List.getElem_cons_zero, List.getElem_cons_succ, List.getElem?_toArray, List.getElem?_cons_zero, List.getElem?_cons_succ])
  refine wpAnyM_done (by kernel_rfl) ?_ _
  show R _ _
  exact hQ _ _ _ _ _ _ _ _ _ _ _ _ _ _ _ _ hfin o414 ((hbR.mono (by omega)).setCell (Nat.le_refl g) _)
set_option maxRecDepth 100000 in
set_option maxHeartbeats 6400000 in
theorem putreg2 (w : World) (g g4 base nA cA nB cB k bA oA bB oB m : Nat) (sf sa sb vf MA MB : Value) (l : List CQ) (la lb : List (List (List CQ))) (ma mb : List (List CQ)) {R : Act → World → Prop} {u1 u3 u5 u6 u7 u8 u9 u10 u11 u12 u13 u14 u15 u16 u17 u18 u19 u20 u21 u22 u23 u24 u25 u26 u27 u28 u29 u30 u31 u32 u33 u34 u35 u36 u37 u38 u39 u40 u41 u42 u43 u44 u45 u46 u47 u48 u49 : Value}
    (h : OutP w g base sf sa sb l la lb) (o4 : Own w 33 g4 [vf, .slice (some ⟨bA, oA, none⟩) nA cA, .slice (some ⟨bB, oB, none⟩) nB cB]) (hma : la.length = m) (hmb : lb.length = m) (hm2 : m < 100000) (h4 : g ≠ g4) (hbA : bA < g) (hbB : bB < g)
    (hk : k < nA) (hnA : nA ≤ 100000) (hkB : k < nB) (hnB : nB ≤ 100000) (eA : w.cell? ⟨bA, oA + k, none⟩ = some MA) (eB : w.cell? ⟨bB, oB + k, none⟩ = some MB)
    (HMA : ∀ W', Below g w W' → NumMat W' MA ma) (HMB : ∀ W', Below g w W' → NumMat W' MB mb) (dA : ma.length ≤ 1000 ∧ ∀ r ∈ ma, 0 < r.length ∧ r.length ≤ 1000) (dB : mb.length ≤ 1000 ∧ ∀ r ∈ mb, 0 < r.length ∧ r.length ≤ 1000)
    (hQ : ∀ (W' : World) (sa' sb' x20 x21 x22 x23 x24 x25 x26 x27 x28 x29 x30 x31 x32 x33 x34 x35 x36 x37 x38 x39 x40 x41 x42 x43 x44 x45 x46 x47 x48 x49 : Value), OutP W' g base sf sa' sb' l (la ++ [ma]) (lb ++ [mb]) → Below g w W' → R ⟨List.toArray (.pointer (some ⟨g, 0, none⟩) :: u1 :: .int .i64 (k : Int) :: u3 :: .pointer (some ⟨g4, 0, none⟩) :: u5 :: u6 :: u7 :: u8 :: u9 :: u10 :: u11 :: u12 :: u13 :: u14 :: u15 :: u16 :: u17 :: u18 :: u19 :: x20 :: x21 :: x22 :: x23 :: x24 :: x25 :: x26 :: x27 :: x28 :: x29 :: x30 :: x31 :: x32 :: x33 :: x34 :: x35 :: x36 :: x37 :: x38 :: x39 :: x40 :: x41 :: x42 :: x43 :: x44 :: x45 :: x46 :: x47 :: x48 :: x49 :: []), []⟩ W') :
    Code.wp Tryz.prog putregion2 (Only R) ⟨List.toArray (.pointer (some ⟨g, 0, none⟩) :: u1 :: .int .i64 (k : Int) :: u3 :: .pointer (some ⟨g4, 0, none⟩) :: u5 :: u6 :: u7 :: u8 :: u9 :: u10 :: u11 :: u12 :: u13 :: u14 :: u15 :: u16 :: u17 :: u18 :: u19 :: u20 :: u21 :: u22 :: u23 :: u24 :: u25 :: u26 :: u27 :: u28 :: u29 :: u30 :: u31 :: u32 :: u33 :: u34 :: u35 :: u36 :: u37 :: u38 :: u39 :: u40 :: u41 :: u42 :: u43 :: u44 :: u45 :: u46 :: u47 :: u48 :: u49 :: []), []⟩ w := by
  conv => arg 2; whnf
  have hknA : (k : Int) < (nA : Int) := by omega
  have hknB : (k : Int) < (nB : Int) := by omega
  have hk0 : (0 : Int) ≤ (k : Int) := by omega
  have og := h.box
  have hlt := h.lt
  have hbs := h.bs
  have ltg := og.lt
  have lt4 := o4.lt
  have HS := Lib.hid (show ∀ W' : World, Own W' 33 g4 [vf, .slice (some ⟨bA, oA, none⟩) nA cA, .slice (some ⟨bB, oB, none⟩) nB cB] → (∀ p : Addr, p.block < g → W'.cell? p = w.cell? p) → W'.cell? ⟨g4, 1, none⟩ = some (.slice (some ⟨bA, oA, none⟩) nA cA) ∧ W'.cell? ⟨g4, 2, none⟩ = some (.slice (some ⟨bB, oB, none⟩) nB cB) ∧ W'.cell? ⟨bA, oA + k, none⟩ = some MA ∧ W'.cell? ⟨bB, oB + k, none⟩ = some MB from fun W' h1 h2 => ⟨h1.cell 1 _ rfl, h1.cell 2 _ rfl, (h2 _ hbA).trans eA, (h2 _ hbB).trans eB⟩)
  have HL := Lib.hid (show ∀ W' : World, Own W' 33 g [sf, sa, sb] → W'.cell? ⟨g, 1, none⟩ = some sa ∧ W'.cell? ⟨g, 2, none⟩ = some sb from fun W' h1 => ⟨h1.cell 1 _ rfl, h1.cell 2 _ rfl⟩)
  have hS := HS.out w.drew o4 (fun p _ => rfl)
  have hL := HL.out w.drew og
  have hR := h.rows
  have HD := Lib.hid hlt
  have hfb : ∀ k : Nat, w.heap.size ≤ k → sf.ownBlock ≠ some k := fun k hk e => by
    have := (h.rf.block k e).2
    omega
  have HFB := Lib.hid hfb
  have HAA := Lib.hid (copied_spec MA ma w.drew (HMA w.drew ((Below.refl _ _).drew)) dA.1 dA.2)
  have HBB := Lib.hid (fun W' hb => copied_spec MB mb W' (HMB W' hb) dB.1 dB.2)
  clear eA eB HMA HMB dA dB hfb
  refine wp_region_late (fun w' => w'.cell? ⟨g4, 1, none⟩ = some (.slice (some ⟨bA, oA, none⟩) nA cA) ∧ w'.cell? ⟨g4, 2, none⟩ = some (.slice (some ⟨bB, oB, none⟩) nB cB) ∧ w'.cell? ⟨bA, oA + k, none⟩ = some MA ∧ w'.cell? ⟨bB, oB + k, none⟩ = some MB) (fun w' => w'.cell? ⟨g, 1, none⟩ = some sa ∧ w'.cell? ⟨g, 2, none⟩ = some sb) (fun i => [28, 31].contains i) (by kernel_rfl) ?_; try simp only [List.size_toArray, List.length_cons, List.length_nil, Nat.reduceAdd]
  (refine mt 0 ?_ rfl (by rfl) ?_ hS ?_; rotate_left; (intro w' h; (try dsimp only at h); go_simp; try exact rfl)); simp only [Act.put,q1,q2,q3,q4,q5,q6,q7,q8,q9]; (refine mt 1 ?_ rfl (by rfl) ?_ hS ?_; rotate_left; (intro w' h; (try dsimp only at h); go_simp; try exact rfl)); simp only [Act.put,q1,q2,q3,q4,q5,q6,q7,q8,q9]; (refine mt 2 ?_ rfl (by rfl) ?_ hS ?_; rotate_left; (intro w' h; (try dsimp only at h); go_simp; try exact rfl)); simp only [Act.put,q1,q2,q3,q4,q5,q6,q7,q8,q9]; (refine mt 3 ?_ rfl (by rfl) ?_ hS ?_; rotate_left; (intro w' h; (try dsimp only at h); go_simp; try exact rfl)); simp only [Act.put,q1,q2,q3,q4,q5,q6,q7,q8,q9]; (refine mt 4 ?_ rfl (by rfl) ?_ hS ?_; rotate_left; (intro w' h; (try dsimp only at h); go_simp; try exact rfl)); simp only [Act.put,q1,q2,q3,q4,q5,q6,q7,q8,q9]
  (refine wpAnyM_takeL (i := 5) (oi := _) (v := ?_) rfl (by kernel_rfl) (by kernel_rfl) (by kernel_rfl) (by kernel_rfl) (fun _ _ _ h => h) (by rfl) ?_ hS hL ?_; rotate_left; (intro w' hSw; (try dsimp only at hSw); go_simp; try exact rfl)); (try simp only [Act.put, List.setIfInBounds_toArray, List.set_cons_zero, List.set_cons_succ, List.getElem_toArray, List.getElem_cons_zero, List.getElem_cons_succ, List.getElem?_toArray, List.getElem?_cons_zero, List.getElem?_cons_succ])
  (refine mt 6 ?_ rfl (by rfl) ?_ hS ?_; rotate_left; (intro w' h; (try dsimp only at h); go_simp; try exact rfl)); simp only [Act.put,q1,q2,q3,q4,q5,q6,q7,q8,q9]; (refine mt 7 ?_ rfl (by rfl) ?_ hS ?_; rotate_left; (intro w' h; (try dsimp only at h); go_simp; try exact rfl)); simp only [Act.put,q1,q2,q3,q4,q5,q6,q7,q8,q9]; (refine mt 8 ?_ rfl (by rfl) ?_ hS ?_; rotate_left; (intro w' h; (try dsimp only at h); go_simp; try exact rfl)); simp only [Act.put,q1,q2,q3,q4,q5,q6,q7,q8,q9]; (refine mt 9 ?_ rfl (by rfl) ?_ hS ?_; rotate_left; (intro w' h; (try dsimp only at h); go_simp; try exact rfl)); simp only [Act.put,q1,q2,q3,q4,q5,q6,q7,q8,q9]; (refine mt 10 ?_ rfl (by rfl) ?_ hS ?_; rotate_left; (intro w' h; (try dsimp only at h); go_simp; try exact rfl)); simp only [Act.put,q1,q2,q3,q4,q5,q6,q7,q8,q9]; (refine mt 14 ?_ rfl (by rfl) ?_ hS ?_; rotate_left; (intro w' h; (try dsimp only at h); go_simp; try exact rfl)); simp only [Act.put,q1,q2,q3,q4,q5,q6,q7,q8,q9]; (refine mt 15 ?_ rfl (by rfl) ?_ hS ?_; rotate_left; (intro w' h; (try dsimp only at h); go_simp; try exact rfl)); simp only [Act.put,q1,q2,q3,q4,q5,q6,q7,q8,q9]; (refine mt 16 ?_ rfl (by rfl) ?_ hS ?_; rotate_left; (intro w' h; (try dsimp only at h); go_simp; try exact rfl)); simp only [Act.put,q1,q2,q3,q4,q5,q6,q7,q8,q9]
  (refine wpAnyM_takeL (i := 17) (oi := _) (v := ?_) rfl (by kernel_rfl) (by kernel_rfl) (by kernel_rfl) (by kernel_rfl) (fun _ _ _ h => h) (by rfl) ?_ hS hL ?_; rotate_left; (intro w' hSw; (try dsimp only at hSw); go_simp; try exact rfl)); (try simp only [Act.put, List.setIfInBounds_toArray, List.set_cons_zero, List.set_cons_succ, List.getElem_toArray, List.getElem_cons_zero, List.getElem_cons_succ, List.getElem?_toArray, List.getElem?_cons_zero, List.getElem?_cons_succ])
  (refine mt 18 ?_ rfl (by rfl) ?_ hS ?_; rotate_left; (intro w' h; (try dsimp only at h); go_simp; try exact rfl)); simp only [Act.put,q1,q2,q3,q4,q5,q6,q7,q8,q9]; (refine mt 19 ?_ rfl (by rfl) ?_ hS ?_; rotate_left; (intro w' h; (try dsimp only at h); go_simp; try exact rfl)); simp only [Act.put,q1,q2,q3,q4,q5,q6,q7,q8,q9]; (refine mt 20 ?_ rfl (by rfl) ?_ hS ?_; rotate_left; (intro w' h; (try dsimp only at h); go_simp; try exact rfl)); simp only [Act.put,q1,q2,q3,q4,q5,q6,q7,q8,q9]; (refine mt 21 ?_ rfl (by rfl) ?_ hS ?_; rotate_left; (intro w' h; (try dsimp only at h); go_simp; try exact rfl)); simp only [Act.put,q1,q2,q3,q4,q5,q6,q7,q8,q9]; (refine mt 22 ?_ rfl (by rfl) ?_ hS ?_; rotate_left; (intro w' h; (try dsimp only at h); go_simp; try exact rfl)); simp only [Act.put,q1,q2,q3,q4,q5,q6,q7,q8,q9]
  refine mo 11 rfl fun K hK => ?_; go_simp; go_at_call 87; (with_reducible refine HAA.out.mono ?_); rintro e1 W1 ⟨x1, rfl, hx1, hb1⟩; obtain ⟨xa, xc, rfl⟩ := RowOf.shape hx1; have hbw1 : Below w.heap.size w W1 := (Below.refl w.heap.size w).drew.trans hb1; have hR1 := hR.below hbw1; have o41 := o4.below hbw1 lt4; have og1 := og.below hbw1 ltg; have hS := HS.out W1 o41 (fun p hp => hbw1.cell (by omega)); have hL := HL.out W1 og1; refine hK _ _ hS (fun _ _ => hL) ?_; clear hK K; (try simp only [Act.put,q1,q2,q3,q4,q5,q6,q7,q8,q9])
  refine mo 12 rfl fun K hK => ?_; go_simp; have hb12 : Below W1.heap.size W1 (W1.alloc (.cells #[.slice xa ma.length xc] 65)) := (Below.refl _ _).alloc (Nat.le_refl _) _; have o42 := o41.below hb12 o41.lt; have og2 := og1.below hb12 og1.lt; have hbw2 := hbw1.trans (hb12.mono hbw1.size); have hS := HS.out _ o42 (fun p hp => hbw2.cell (by omega)); have hL := HL.out _ og2; refine hK _ _ hS (fun _ _ => hL) ?_; clear hK K; (try simp only [Act.put,q1,q2,q3,q4,q5,q6,q7,q8,q9])
  obtain ⟨us, hul, hra, hus⟩ := hR1.ra
  rw [hma] at hra hul
  have hsz1 : base ≤ W1.heap.size := hR1.bs
  have hsz2 : base ≤ (W1.alloc (.cells #[.slice xa ma.length xc] 65)).heap.size := Nat.le_trans hsz1 hb12.size
  have hxM : NumsMP (fun k => sf.ownBlock ≠ some k) W1 [.slice xa ma.length xc] ma := NumsMP.weaken (p := fun b => w.drew.heap.size ≤ b) ⟨_, rfl, RowOf.slT hx1⟩ (fun b _ hb => HFB.out b hb)
  have HRA := Lib.hid hra
  have HUS := Lib.hid hus
  have HXM := Lib.hid hxM
  have HR2 := Lib.hid (hR1.below hb12)
  clear hra hus hxM hx1
  refine mo 13 rfl fun K hK => ?_; refine step_app (s := .tmp 25) (x := .tmp 32) (t := 31) (e := 65) (z := .slice none 0 0) (size := 1) (bytes := 24) (base := base) (v := sa) (n := m) (xs := us.flatten) (gs := W1.heap.size) (cs := [.slice xa ma.length xc]) _ ?_ ?_ Tryz.underlying31 info_rows ?_ ?_ ?_ ?_ ?_ ?_ ?_ ?_ ?_ ?_ ?_ ?_; exact rfl; exact rfl; exact rfl; omega; omega; exact rfl; exact World.ownsRow.alloc HRA.out _; exact rfl; exact own_new W1 65 [.slice xa ma.length xc]; exact rfl; exact oneS; omega; exact hsz2; intro ga ca wa hma3 hga hgx; obtain ⟨hbR, hnew, hbs2⟩ := row_push (T := 65) (size := 1) (R := NumsMP fun k => sf.ownBlock ≠ some k) (u := [.slice xa ma.length xc]) (x := ma) (numsMP_stable _) (by decide) hma hul HRA.out HUS.out hsz1 (Below.refl W1.heap.size W1) HXM.out rfl hma3 hga; have hra2 := World.ownsRow.alloc HRA.out (.cells #[.slice xa ma.length xc] 65); have o43 := o42.apart (by simp) hra2 (by decide) hga; have og3 := og2.apart (by simp) hra2 (by decide) hga; have hR3 := HR2.out.matA hga hnew hgx; have hbw3 : Below base w wa := (hbw1.mono hbs).trans hbR; have hS := HS.out wa o43 (fun p hp => hbw3.cell (by omega)); have hL := HL.out wa og3; refine hK _ _ hS (fun _ _ => hL) ?_; clear hK K; (try simp only [Act.put,q1,q2,q3,q4,q5,q6,q7,q8,q9])
  have HB3 := Lib.hid (HBB.out wa (hbw3.mono (by omega)))
  refine mo 23 rfl fun K hK => ?_; go_simp; go_at_call 87; (with_reducible refine HB3.out.mono ?_); rintro e1 W3 ⟨x2, rfl, hx2, hb3⟩; obtain ⟨xb, xd, rfl⟩ := RowOf.shape hx2; have hR4 := hR3.below hb3; have o44 := o43.below hb3 o43.lt; have og4 := og3.below hb3 og3.lt; have hbw4 := hbw3.trans (hb3.mono hbs2); have hS := HS.out W3 o44 (fun p hp => hbw4.cell (by omega)); have hL := HL.out W3 og4; refine hK _ _ hS (fun _ _ => hL) ?_; clear hK K; (try simp only [Act.put,q1,q2,q3,q4,q5,q6,q7,q8,q9])
  refine mo 24 rfl fun K hK => ?_; go_simp; have hb24 : Below W3.heap.size W3 (W3.alloc (.cells #[.slice xb mb.length xd] 65)) := (Below.refl _ _).alloc (Nat.le_refl _) _; have o45 := o44.below hb24 o44.lt; have og5 := og4.below hb24 og4.lt; have hbw5 := hbw4.trans (hb24.mono hR4.bs); have hS := HS.out _ o45 (fun p hp => hbw5.cell (by omega)); have hL := HL.out _ og5; refine hK _ _ hS (fun _ _ => hL) ?_; clear hK K; (try simp only [Act.put,q1,q2,q3,q4,q5,q6,q7,q8,q9])
  obtain ⟨vs, hvl, hrb, hvs⟩ := hR4.rb
  rw [hmb] at hrb hvl
  have hsz3 : base ≤ W3.heap.size := hR4.bs
  have hsz4 : base ≤ (W3.alloc (.cells #[.slice xb mb.length xd] 65)).heap.size := Nat.le_trans hsz3 hb24.size
  have hxN : NumsMP (fun k => sf.ownBlock ≠ some k) W3 [.slice xb mb.length xd] mb := NumsMP.weaken (p := fun b => wa.heap.size ≤ b) ⟨_, rfl, RowOf.slT hx2⟩ (fun b _ hb => HFB.out b (Nat.le_trans (Nat.le_trans hbw1.size (Nat.le_trans hb12.size hga.size)) hb))
  have HRB := Lib.hid hrb
  have HVS := Lib.hid hvs
  have HXN := Lib.hid hxN
  have HR5 := Lib.hid (hR4.below hb24)
  clear hrb hvs hxN hx2
  refine mo 25 rfl fun K hK => ?_; refine step_app (s := .tmp 37) (x := .tmp 44) (t := 31) (e := 65) (z := .slice none 0 0) (size := 1) (bytes := 24) (base := base) (v := sb) (n := m) (xs := vs.flatten) (gs := W3.heap.size) (cs := [.slice xb mb.length xd]) _ ?_ ?_ Tryz.underlying31 info_rows ?_ ?_ ?_ ?_ ?_ ?_ ?_ ?_ ?_ ?_ ?_ ?_; exact rfl; exact rfl; exact rfl; omega; omega; exact rfl; exact World.ownsRow.alloc HRB.out _; exact rfl; exact own_new W3 65 [.slice xb mb.length xd]; exact rfl; exact oneS; omega; exact hsz4; intro gb cb wb hmb3 hgb hgy; obtain ⟨hbR2, hnew2, hbs3⟩ := row_push (T := 65) (size := 1) (R := NumsMP fun k => sf.ownBlock ≠ some k) (u := [.slice xb mb.length xd]) (x := mb) (numsMP_stable _) (by decide) hmb hvl HRB.out HVS.out hsz3 (Below.refl W3.heap.size W3) HXN.out rfl hmb3 hgb; have hrb2 := World.ownsRow.alloc HRB.out (.cells #[.slice xb mb.length xd] 65); have o46 := o45.apart (by simp) hrb2 (by decide) hgb; have og6 := og5.apart (by simp) hrb2 (by decide) hgb; have hR6 := HR5.out.matB hgb hnew2 hgy; have hbw6 : Below base w wb := hbw4.trans hbR2; have hS := HS.out wb o46 (fun p hp => hbw6.cell (by omega)); have hL := HL.out wb og6; refine hK _ _ hS (fun _ _ => hL) ?_; clear hK K; (try simp only [Act.put,q1,q2,q3,q4,q5,q6,q7,q8,q9])
  (refine mt 26 ?_ rfl (by rfl) ?_ hS ?_; rotate_left; (intro w' h; (try dsimp only at h); go_simp; try exact rfl)); simp only [Act.put,q1,q2,q3,q4,q5,q6,q7,q8,q9]; (refine mt 27 ?_ rfl (by rfl) ?_ hS ?_; rotate_left; (intro w' h; (try dsimp only at h); go_simp; try exact rfl)); simp only [Act.put,q1,q2,q3,q4,q5,q6,q7,q8,q9]
  have c61 := og6.cell 1 _ rfl
  have f6 := og6.free
  have o47 := o46.other (a := ⟨g, 1, none⟩) h4 (.slice (some ⟨ga, 0, none⟩) (m + 1) ca)
  have og7 := og6.set 1 (.slice (some ⟨ga, 0, none⟩) (m + 1) ca)
  have hR7 := hR6.set (i := 1) (y := .slice (some ⟨ga, 0, none⟩) (m + 1) ca) og6 rfl
  have hb7 : Below g w (wb.setCell ⟨g, 1, none⟩ (.slice (some ⟨ga, 0, none⟩) (m + 1) ca)) := (hbw6.mono (by omega)).setCell (Nat.le_refl g) _
  refine wpAnyM_one (i := 28) (o := _) (by kernel_rfl) rfl (fun K hK => ?_); go_simp; have hS := HS.out _ o47 (fun p hp => hb7.cell (by omega)); refine hK _ _ hS (fun h => absurd h (by decide)) ?_; clear hK K; (try simp only [Act.put, List.setIfInBounds_toArray, List.set_cons_zero, List.set_cons_succ, List.getElem_toArray, List.getElem_cons_zero, List.getElem_cons_succ, List.getElem?_toArray, List.getElem?_cons_zero, List.getElem?_cons_succ])
  (refine mt 29 ?_ rfl (by rfl) ?_ hS ?_; rotate_left; (intro w' h; (try dsimp only at h); go_simp; try exact rfl)); simp only [Act.put,q1,q2,q3,q4,q5,q6,q7,q8,q9]; (refine mt 30 ?_ rfl (by rfl) ?_ hS ?_; rotate_left; (intro w' h; (try dsimp only at h); go_simp; try exact rfl)); simp only [Act.put,q1,q2,q3,q4,q5,q6,q7,q8,q9]
  have c72 := og7.cell 2 _ rfl
  have f7 := og7.free
  have o48 := o47.other (a := ⟨g, 2, none⟩) h4 (.slice (some ⟨gb, 0, none⟩) (m + 1) cb)
  have og8 := og7.set 2 (.slice (some ⟨gb, 0, none⟩) (m + 1) cb)
  have hR8 := hR7.set (i := 2) (y := .slice (some ⟨gb, 0, none⟩) (m + 1) cb) og7 rfl
  have hb8 := hb7.setCell (Nat.le_refl g) (p := ⟨g, 2, none⟩) (.slice (some ⟨gb, 0, none⟩) (m + 1) cb)
  refine wpAnyM_one (i := 31) (o := _) (by kernel_rfl) rfl (fun K hK => ?_); go_simp; have hS := HS.out _ o48 (fun p hp => hb8.cell (by omega)); refine hK _ _ hS (fun h => absurd h (by decide)) ?_; clear hK K; (try simp only [Act.put, List.setIfInBounds_toArray, List.set_cons_zero, List.set_cons_succ, List.getElem_toArray, List.getElem_cons_zero, List.getElem_cons_succ, List.getElem?_toArray, List.getElem?_cons_zero, List.getElem?_cons_succ])
  refine wpAnyM_done (by kernel_rfl) ?_ _
  show R _ _
  exact hQ _ _ _ _ _ _ _ _ _ _ _ _ _ _ _ _ _ _ _ _ _ _ _ _ _ _ _ _ _ _ _ _ _ ⟨og8, hR8.rf, hR8.ra, hR8.rb, hR8.ap, HD.out, hR8.bs⟩ hb8
end Go.Proofs.YtpnfdlnhmhekeaaGreat
namespace Go.Proofs.YtpnfdlnhmhekeaaGreat
open Go.RowKit
def OutW (w : World) (g base : Nat) (x : Wv) : Prop := ∃ sf sa sb, OutP w g base sf sa sb x.fr x.a x.b
theorem OutW.below {w w' : World} {g base : Nat} {x : Wv} (h : OutW w g base x) (hb : Below w.heap.size w w') : OutW w' g base x := by
  obtain ⟨sf, sa, sb, h⟩ := h
  exact ⟨sf, sa, sb, h.below hb⟩
def matFit (m : List (List CQ)) : Prop := m.length ≤ 1000 ∧ ∀ r ∈ m, 0 < r.length ∧ r.length ≤ 1000
set_option maxRecDepth 100000 in
set_option maxHeartbeats 3200000 in
theorem put_spec (g base k : Nat) (vv : Value) (v x : Wv) (y : CQ) (ma mb : List (List CQ)) (w0 w : World) (h : OutW w g base x) (hv : WvT w0 vv v) (hB0 : Below w0.heap.size w0 w) (h0g : w0.heap.size ≤ g)
    (hy : v.fr[k]? = some y) (hma : v.a[k]? = some ma) (hmb : v.b[k]? = some mb) (fA : matFit ma) (fB : matFit mb) (hl : v.fr.length ≤ 100000) (hla : v.a.length ≤ 100000) (hlb : v.b.length ≤ 100000) (m : Nat) (hx1 : x.fr.length = m) (hx2 : x.a.length = m) (hx3 : x.b.length = m) (hm : m < 100000) :
    Calls Tryz.prog 39 #[.pointer (some ⟨g, 0, none⟩), vv, .int .i64 (k : Int)] w (fun e w' => (∃ r, e = .returned r) ∧ OutW w' g base ⟨x.fr ++ [y], x.a ++ [ma], x.b ++ [mb]⟩ ∧ Below g w w') := by
  obtain ⟨vf, va, vb, rfl, hf, ha, hb⟩ := hv
  obtain ⟨af, cf, rfl, hcf, hcf2⟩ := hf.dims
  obtain ⟨aa, ca, rfl, hca, hca2⟩ := ha.dims
  obtain ⟨ab, cb, rfl, hcb, hcb2⟩ := hb.dims
  have hk1 : k < v.fr.length := (List.getElem?_eq_some_iff.1 hy).1
  have hk2 : k < v.a.length := (List.getElem?_eq_some_iff.1 hma).1
  have hk3 : k < v.b.length := (List.getElem?_eq_some_iff.1 hmb).1
  obtain ⟨b1, o1, s0, s2, a1, a3, a4, l1, m1, l3, m3, l4, m4, rfl, hb1, hrep, e0, e1, e2, e3, e4⟩ := hf.num hy
  obtain ⟨b2, o2, c2, d2, rfl, hb2, f2, hM2, -, -⟩ := ha.mat hma
  obtain ⟨b3, o3, c3, d3, rfl, hb3, f3, hM3, -, -⟩ := hb.mat hmb
  generalize v.fr.length = n1 at *
  generalize v.a.length = n2 at *
  generalize v.b.length = n3 at *
  have HFA := Lib.hid fA
  have HFB := Lib.hid fB
  obtain ⟨sf, sa, sb, hO⟩ := h
  have HO := Lib.hid hO
  have HM2 := Lib.hid hM2
  have HM3 := Lib.hid hM3
  have HRP := Lib.hid hrep
  have hgw := hO.box.lt
  have hbs0 := hO.bs
  clear hf ha hb hy hma hmb fA fB hO hM2 hM3 hrep
  go_enter Tryz.func39, Tryz.ntmps39
  go_upto_region 1 with (fail)
  obtain ⟨W, hW, oW, hB, hS⟩ := boxes1 w 33 [.slice (some ⟨b1, o1, none⟩) n1 cf, .slice (some ⟨b2, o2, none⟩) n2 ca, .slice (some ⟨b3, o3, none⟩) n3 cb]
  rw [← hW]
  clear hW
  have hBW : Below w0.heap.size w0 W := hB0.trans (hB.mono hB0.size)
  have hOW := HO.out.below hB
  refine only_of (putreg1 W g w.heap.size base n1 cf k b1 o1 m sf sa sb _ _ x.fr x.a x.b y s0 s2 a1 a3 a4 l1 m1 l3 m3 l4 m4 hOW oW hx1 hm (by omega) (by omega) hk1 hl (HRP.out.below hBW (Nat.le_refl _))
    ((hBW.cell hb1).trans e0) ((hBW.cell hb1).trans e1) ((hBW.cell hb1).trans e2) ((hBW.cell hb1).trans e3) ((hBW.cell hb1).trans e4) ?_)
  intro W1 sf' x6 x7 x8 x9 x10 x11 x12 x13 x14 x15 x16 x17 x18 x19 hO1 oW1 hb11
  try simp only [Exit.then]
  have hBW1 : Below w0.heap.size w0 W1 := hBW.trans (hb11.mono h0g)
  go_upto_region 2 with (fail)
  refine only_of (putreg2 W1 g w.heap.size base n2 ca n3 cb k b2 o2 b3 o3 m sf' sa sb _ _ _ (x.fr ++ [y]) x.a x.b ma mb hO1 oW1 hx2 hx3 hm (by omega) (by omega) (by omega) hk2 hla hk3 hlb ((hBW1.cell hb2).trans f2) ((hBW1.cell hb3).trans f3)
    (fun W' hb => HM2.out.below (hBW1.trans (hb.mono h0g)) (Nat.le_refl _)) (fun W' hb => HM3.out.below (hBW1.trans (hb.mono h0g)) (Nat.le_refl _)) HFA.out HFB.out ?_)
  intro W2 sa' sb' x20 x21 x22 x23 x24 x25 x26 x27 x28 x29 x30 x31 x32 x33 x34 x35 x36 x37 x38 x39 x40 x41 x42 x43 x44 x45 x46 x47 x48 x49 hO2 hb22
  try simp only [Exit.then]
  have hfin : Below g w W2 := (hB.mono (by omega)).trans (hb11.trans hb22)
  go_wp2_with fail
  exact bodyPost_end (results_none rfl _ _ _) rfl ⟨⟨_, rfl⟩, ⟨_, _, _, hO2⟩, hfin⟩
end Go.Proofs.YtpnfdlnhmhekeaaGreat
