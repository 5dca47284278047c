/- The reference's Decode: what holds between its steps. Conditions: none. -/
import Derived.Test.YtohnlmfmpflbpaaGreatMCrc
import Derived.Test.YtohnlmfmpflbpaaGreatMDecR
import Derived.Test.YtohnlmfmpflbpaaGreatMRefB
import Derived.Test.YtohnlmfmpflbpaaGreatMRefS
set_option linter.unusedSimpArgs false
set_option linter.unusedVariables false
set_option linter.all false
namespace Go.Proofs.YtohnlmfmpflbpaaGreat
open Go.RowKit

theorem BytesA.drop {w : World} {b o : Nat} {l : List UInt8} (h : BytesA w (some ⟨b, o, none⟩) l) (k : Nat) : BytesA w (some ⟨b, o + k, none⟩) (l.drop k) := fun i x hx => by
  rw [List.getElem?_drop] at hx
  obtain ⟨b', o', e, hc⟩ := h (k + i) x hx
  injection e with e
  injection e with e1 e2
  subst e1 e2
  exact ⟨b, o + k, rfl, by rw [Nat.add_assoc]; exact hc⟩
theorem byteAt_drop {l : List UInt8} {k i : Nat} : byteAt (l.drop k) i = byteAt l (k + i) := by
  unfold byteAt; rw [List.getD_eq_getElem?_getD, List.getD_eq_getElem?_getD, List.getElem?_drop]
theorem wordAt_drop {l : List UInt8} {k i : Nat} : wordAt (l.drop k) i = wordAt l (k + i) := by
  unfold wordAt; rw [byteAt_drop, byteAt_drop, Nat.add_assoc]
theorem beVal_word {l : List UInt8} {k : Nat} (h : k + 2 ≤ l.length) : beVal ((l.drop k).take 2) = wordAt l k := by
  rw [beVal_two (by rw [List.length_drop]; omega), wordAt_drop]; rfl
theorem beVal_four {m : List UInt8} (h : 4 ≤ m.length) : beVal (m.take 4) = longAt m 0 := by
  match m, h with
  | a :: b :: c :: d :: t, _ => simp [beVal, longAt, wordAt, byteAt]; omega
theorem beVal_long {l : List UInt8} {k : Nat} (h : k + 4 ≤ l.length) : beVal ((l.drop k).take 4) = longAt l k := by
  rw [beVal_four (by rw [List.length_drop]; omega)]
  unfold longAt
  rw [wordAt_drop, wordAt_drop]; rfl

/-- b[k:k+2] read. -/
theorem read_two (b o : Nat) (l : List UInt8) (n cap k : Nat) (w : World) (hA : BytesA w (some ⟨b, o, none⟩) l) (Hn : Hid (l.length = n)) (hk : k + 2 ≤ n) (hcap : n ≤ cap) (hmax : cap ≤ 9223372036854775807) :
    Calls Tryz.prog 72 #[.slice (some ⟨b, o + k, none⟩) 2 (cap - k)] w (fun e w' => e = .returned (.int .i64 (wordAt l k : Int)) ∧ w = w') := by
  have h := read_spec (some ⟨b, o + k, none⟩) ((l.drop k).take 2) 2 (cap - k) w ((hA.drop k).take 2) (by show _ = _; rw [List.length_take, List.length_drop, Hn.out]; omega) (by omega) (by omega) (by omega)
  rw [beVal_word (by rw [Hn.out]; exact hk)] at h
  exact h
theorem read_four (b o : Nat) (l : List UInt8) (n cap k : Nat) (w : World) (hA : BytesA w (some ⟨b, o, none⟩) l) (Hn : Hid (l.length = n)) (hk : k + 4 ≤ n) (hcap : n ≤ cap) (hmax : cap ≤ 9223372036854775807) :
    Calls Tryz.prog 72 #[.slice (some ⟨b, o + k, none⟩) 4 (cap - k)] w (fun e w' => e = .returned (.int .i64 (longAt l k : Int)) ∧ w = w') := by
  have h := read_spec (some ⟨b, o + k, none⟩) ((l.drop k).take 4) 4 (cap - k) w ((hA.drop k).take 4) (by show _ = _; rw [List.length_take, List.length_drop, Hn.out]; omega) (by omega) (by omega) (by omega)
  rw [beVal_long (by rw [Hn.out]; exact hk)] at h
  exact h
theorem signed_at (b o : Nat) (l : List UInt8) (n cap k : Nat) (w : World) (hA : BytesA w (some ⟨b, o, none⟩) l) (Hn : Hid (l.length = n)) (hk : k + 2 ≤ n) (hcap : n ≤ cap) (hmax : cap ≤ 9223372036854775807) :
    Calls Tryz.prog 74 #[.slice (some ⟨b, o + k, none⟩) (n - k) (cap - k)] w (fun e w' => e = .returned (.int .i16 (s16 (wordAt l k))) ∧ w = w') := by
  have h := signed_spec (some ⟨b, o + k, none⟩) (l.drop k) (n - k) (cap - k) w (hA.drop k) (by show _ = _; rw [List.length_drop, Hn.out]) (by omega) (by omega) (by omega)
  rw [wordAt_drop] at h
  exact h

/-- The boxes of the reference's Decode. -/
structure RBox (w0 wr : World) (l : List UInt8) (g2 g7 : Nat) (vm vp : Value) : Prop where
  o2 : Own wr 27 g2 [.int .u32 0, .int .i64 0, .int .i64 0, .int .i64 0, .float .f32 0, .slice none 0 0, .slice none 0 0]
  o7 : Own wr 27 g7 [.int .u32 (longAt l 4 : Int), .int .i64 (wordAt l 8 : Int), .int .i64 (byteAt l 3 : Int), .int .i64 (byteAt l 10 : Int), .float .f32 (longAt l 12), vm, vp]
  hB : Below g2 w0 wr

/-- What holds at the head of a round: i mates and j pairs have been read. -/
def RInv (w0 : World) (l : List UInt8) (g2 g7 base i j : Nat) (wr : World) : Prop :=
  ∃ vm vp, RBox w0 wr l g2 g7 vm vp ∧ wr.ownsRow base 3 1 vm i (mts l i) ∧ wr.ownsRow base 90 4 vp j (prs l j) ∧ base ≤ wr.heap.size

theorem rinv14 {w0 w wa : World} {l : List UInt8} {g2 g7 base k : Nat} {vm vp vm' : Value} (hb : RBox w0 w l g2 g7 vm vp) (hm : w.ownsRow base 3 1 vm k (mts l k)) (hp : w.ownsRow base 90 4 vp k (prs l k))
    (hbs : base ≤ w.heap.size) (h27 : g2 < g7) (h7 : g7 < base) (hg : w.grownBy wa vm.ownBlock) (hma : wa.ownsRow base 3 1 vm' (k + 1) (mts l (k + 1))) : RInv w0 l g2 g7 base (k + 1) k (wa.setCell ⟨g7, 5, none⟩ vm') := by
  refine ⟨vm', vp, ⟨?_, ?_, ?_⟩, row_far hma h7, row_far (hp.kept hg (row_ne hp hm (by decide))) h7, ?_⟩
  · exact (hb.o2.keptRow hm hg (by omega)).far (by omega)
  · exact (hb.o7.keptRow hm hg (by omega)).set 5 vm'
  · exact (below_row hb.hB hm hg (by omega) (by omega)).setCell (p := ⟨g7, 5, none⟩) (show g2 ≤ g7 by omega) _
  · have := hg.size; simp [World.setCell]; omega
theorem rinv15 {w0 w wa : World} {l : List UInt8} {g2 g7 base k : Nat} {vm vp vp' : Value} (hb : RBox w0 w l g2 g7 vm vp) (hm : w.ownsRow base 3 1 vm (k + 1) (mts l (k + 1))) (hp : w.ownsRow base 90 4 vp k (prs l k))
    (hbs : base ≤ w.heap.size) (h27 : g2 < g7) (h7 : g7 < base) (hg : w.grownBy wa vp.ownBlock) (hma : wa.ownsRow base 90 4 vp' (k + 1) (prs l (k + 1))) : RInv w0 l g2 g7 base (k + 1) (k + 1) (wa.setCell ⟨g7, 6, none⟩ vp') := by
  refine ⟨vm, vp', ⟨?_, ?_, ?_⟩, row_far (hm.kept hg (row_ne hm hp (by decide))) h7, row_far hma h7, ?_⟩
  · exact (hb.o2.keptRow hp hg (by omega)).far (by omega)
  · exact (hb.o7.keptRow hp hg (by omega)).set 6 vp'
  · exact (below_row hb.hB hp hg (by omega) (by omega)).setCell (p := ⟨g7, 6, none⟩) (show g2 ≤ g7 by omega) _
  · have := hg.size; simp [World.setCell]; omega
theorem RInv.below {w0 wr : World} {l : List UInt8} {g2 g7 base i j : Nat} (h : RInv w0 l g2 g7 base i j wr) : Below g2 w0 wr := by
  obtain ⟨_, _, hb, _⟩ := h
  exact hb.hB
end Go.Proofs.YtohnlmfmpflbpaaGreat
