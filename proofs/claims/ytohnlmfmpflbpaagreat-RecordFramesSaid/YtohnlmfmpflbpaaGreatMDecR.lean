/- What Decode has collected is a frame. Conditions: none. -/
import Derived.Test.YtohnlmfmpflbpaaGreatMDecA
set_option linter.unusedSimpArgs false
set_option linter.unusedVariables false
set_option linter.all false
namespace Go.Proofs.YtohnlmfmpflbpaaGreat
open Go.RowKit

theorem row_below {w w' : World} {base n size : Nat} {T : TypeId} {xs : List Value} {v : Value} (h : w.ownsRow base T size v n xs) (hb : Below w.heap.size w w') : w'.ownsRow base T size v n xs :=
  World.ownsRow.kept h (grown_of_below hb none) (by cases v.ownBlock <;> simp)
theorem row7 {w : World} {base n size g : Nat} {T : TypeId} {xs : List Value} {v v0 v1 v2 v3 v4 v5 v6 : Value} (h : w.ownsRow base T size v n xs) (hg : g < base) : (((((((w.setCell ⟨g, 0, none⟩ v0).setCell ⟨g, 1, none⟩ v1).setCell ⟨g, 2, none⟩ v2).setCell ⟨g, 3, none⟩ v3).setCell ⟨g, 4, none⟩ v4).setCell ⟨g, 5, none⟩ v5).setCell ⟨g, 6, none⟩ v6).ownsRow base T size v n xs :=
  row_far (row_far (row_far (row_far (row_far (row_far (row_far h hg) hg) hg) hg) hg) hg) hg

theorem row_sl {w : World} {base n : Nat} {T : TypeId} {xs : List Value} {v : Value} (h : w.ownsRow base T 1 v n xs) : Sl w v xs := by
  have hl := h.1
  rcases h.2 with ⟨rfl, h0⟩ | ⟨g, cap, cur, rfl, hb, hg, hc, hm, hs, ht⟩
  · exact .inl ⟨rfl, List.eq_nil_of_length_eq_zero (by omega)⟩
  · rw [Nat.mul_one] at hl
    refine .inr ⟨g, 0, cap, by rw [hl], by omega, hm, fun i hi => ?_⟩
    have := h.cells (g := g) rfl i xs[i] (List.getElem?_eq_getElem hi)
    rw [Addr.add_lit] at this
    exact this

theorem flat_get {l : List Pr} {i j : Nat} {p : Pr} {x : Value} (hp : l[i]? = some p) (hx : p.cells[j]? = some x) : (l.flatMap Pr.cells)[i * 4 + j]? = some x := by
  have hj : j < 4 := by have := (List.getElem?_eq_some_iff.1 hx).1; exact this
  induction l generalizing i with
  | nil => simp at hp
  | cons q t ih =>
    rw [List.flatMap_cons]
    cases i with
    | zero =>
      simp only [List.getElem?_cons_zero, Option.some.injEq] at hp
      subst hp
      rw [List.getElem?_append_left (by show _ < 4; omega), Nat.zero_mul, Nat.zero_add]
      exact hx
    | succ i =>
      rw [List.getElem?_cons_succ] at hp
      rw [List.getElem?_append_right (by show 4 ≤ _; omega)]
      show (List.flatMap Pr.cells t)[(i + 1) * 4 + j - 4]? = _
      rw [show (i + 1) * 4 + j - 4 = i * 4 + j by omega]
      exact ih hp
theorem flat_length (l : List Pr) : (l.flatMap Pr.cells).length = 4 * l.length := by
  induction l with
  | nil => rfl
  | cons q t ih => rw [List.flatMap_cons, List.length_append, ih, List.length_cons]; show 4 + _ = _; omega

theorem row_slp {w : World} {base n : Nat} {T : TypeId} {l : List Pr} {v : Value} (h : w.ownsRow base T 4 v n (l.flatMap Pr.cells)) : SlP w v l := by
  have hl := h.1
  rw [flat_length] at hl
  rcases h.2 with ⟨rfl, h0⟩ | ⟨g, cap, cur, rfl, hb, hg, hc, hm, hs, ht⟩
  · exact .inl ⟨rfl, List.eq_nil_of_length_eq_zero (by omega)⟩
  · have hn : n = l.length := by omega
    subst hn
    refine .inr ⟨g, 0, cap, rfl, hc, hm, fun i p hi j x hx => ?_⟩
    have := h.cells (g := g) rfl (i * 4 + j) x (flat_get hi hx)
    rw [Addr.add_lit] at this
    simpa [Nat.add_assoc] using this

theorem decFr_ok (l : List UInt8) : (decFr l).ok := by
  have h1 := longAt_lt l 4
  have h2 := longAt_lt l 12
  have h3 := wordAt_lt l 8
  have h4 := byteAt_lt l 3
  have h5 := byteAt_lt l 10
  constructor
  · exact h1
  · show I64 (wordAt l 8 : Int); unfold I64; omega
  · show I64 (byteAt l 3 : Int); unfold I64; omega
  · show I64 (byteAt l 10 : Int); unfold I64; omega
  · exact h2
  · intro x hx
    obtain ⟨i, _, rfl⟩ := List.mem_map.1 hx
    have := wordAt_lt l (16 + 10 * i)
    unfold I64; omega
  · intro p hp
    obtain ⟨i, _, rfl⟩ := List.mem_map.1 hp
    exact ⟨s16_ok (wordAt_lt _ _), s16_ok (wordAt_lt _ _), s16_ok (wordAt_lt _ _), s16_ok (wordAt_lt _ _)⟩

theorem dec_rep {w : World} {l : List UInt8} {base : Nat} {vm vp : Value} (hm : w.ownsRow base 3 1 vm (byteAt l 2) (mts l (byteAt l 2))) (hp : w.ownsRow base 90 4 vp (byteAt l 2) (prs l (byteAt l 2))) :
    FrRep w (.agg #[.int .u32 (longAt l 4 : Int), .int .i64 (wordAt l 8 : Int), .int .i64 (byteAt l 3 : Int), .int .i64 (byteAt l 10 : Int), .float .f32 (longAt l 12), vm, vp]) (decFr l) := by
  refine ⟨vm, vp, rfl, ?_, ?_, decFr_ok l⟩
  · have e : (decFr l).mates.map i64v = mts l (byteAt l 2) := by simp [decFr, mts, i64v]
    rw [e]; exact row_sl hm
  · have e : (decFr l).pairs.flatMap Pr.cells = prs l (byteAt l 2) := by simp [decFr, prs, List.flatMap_map]
    exact row_slp (by rw [e]; exact hp)

theorem dec_one {l : List UInt8} {w : World} (h : decErr l = if byteAt l 11 ≠ 0 ∨ (decFr l).valid = false then 1 else 0) (h1 : byteAt l 11 ≠ 0 ∨ (decFr l).valid = false) :
    DecPost l w (.tuple #[.agg #[.int .u32 0, .int .i64 0, .int .i64 0, .int .i64 0, .float .f32 0, .slice none 0 0, .slice none 0 0], .int .i64 0, .int .i64 1]) :=
  dec_bad (e := 1) (by rw [h, if_pos h1]) (by omega)
theorem dec_zero {l : List UInt8} {w : World} {u : Value} {N : Nat} (hN : N = headLen l) (h : decErr l = if byteAt l 11 ≠ 0 ∨ (decFr l).valid = false then 1 else 0) (h1 : byteAt l 11 = 0) (h2 : (decFr l).valid = true) (hu : FrRep w u (decFr l)) :
    DecPost l w (.tuple #[u, .int .i64 (N : Int), .int .i64 0]) := by
  have e : decErr l = 0 := by rw [h, if_neg (by rw [h2]; simp [h1])]
  unfold DecPost
  rw [if_pos e, if_pos e, e, ← hN]
  exact ⟨u, rfl, hu⟩
end Go.Proofs.YtohnlmfmpflbpaaGreat
