/- Slices of frames that came in. Conditions: none. -/
import Derived.Test.YtohnlmfmpflbpaaMLoose
import Derived.Test.YtohnlmfmpflbpaaMTop
set_option linter.unusedSimpArgs false
set_option linter.unusedVariables false
set_option linter.all false
namespace Go.Proofs.Ytohnlmfmpflbpaa
open Go.ChangeShapes Go.WideShapes Go.ChangeAt Go.RowKit Go.Deep

section
variable {H : Type} {enc : TypeId × Value → H} {w : World}

theorem trod_float32 {base : Nat} {spare : Nat → Bool} {held : Bool} {fuel : Nat} {P : Program} {t : TypeId} {cs : List Value} {x : DataW H × List MemPlace} (ht : P.underlying t = some (.float .f32)) (h : DataW.trod enc P w base spare held fuel t cs = some x) : ∃ b, cs = [.float .f32 b] ∧ b < 4294967296 := by
  cases fuel with
  | zero => simp [DataW.trod] at h
  | succ n =>
    unfold DataW.trod at h
    rw [ht] at h
    have h2 : ∃ b, cs = [.float .f32 b] ∧ (Lit.float .f32 b).wf = true := by
      split at h <;> simp_all
    obtain ⟨b, rfl, hb⟩ := h2
    exact ⟨b, rfl, by simpa [Lit.wf] using hb⟩

set_option maxRecDepth 100000 in
theorem open_mates {fuel : Nat} {cs : List Value} {x : DataW H × List MemPlace} (h : DataW.trod enc Try.prog w 0 (fun _ => true) true fuel 26 cs = some x) :
    ∃ (a : Option Addr) (n c : Nat) (ms : List Int), cs = [.slice a n c] ∧ ms.length = n ∧ n ≤ 9223372036854775807 ∧ (∀ x ∈ ms, I64 x) ∧ (0 < n → Sl w (.slice a n c) (ms.map i64v)) := by
  rcases open_ints Try.underlying26 Try.underlying3 (by kernel_rfl) h with ⟨hcs, _⟩ | ⟨a, n, c, zs, hcs, _, hl, hm, hz, _, hcz, hwz⟩
  · subst hcs
    exact ⟨none, 0, 0, [], rfl, rfl, by omega, fun x hx => by simp at hx, fun h => by omega⟩
  · subst hcs
    simp only [if_true] at hz
    have hln : (zs.take n).length = n := by rw [List.length_take]; omega
    refine ⟨some a, n, c, zs.take n, rfl, hln, by unfold maxLen at hm; omega, fun x hx => i64_of (hwz x (List.mem_of_mem_take hx)), fun h0 => ?_⟩
    obtain ⟨ab, ao, spot⟩ := a
    have hspot : spot = none := by simpa [Addr.add] using World.cell?_spot (hcz 0 (by omega))
    subst hspot
    refine .inr ⟨ab, ao, c, by rw [List.length_map, hln], by rw [List.length_map, hln]; exact hl, hm, fun i hi => ?_⟩
    rw [List.length_map, hln] at hi
    have := hcz i (by omega)
    rw [Addr.add_lit] at this
    rw [this, List.getElem_map, List.getElem_take]
    simp [i64v, List.getD, List.getElem?_eq_getElem (show i < zs.length by omega)]

set_option maxRecDepth 100000 in
theorem open_pairs {fuel : Nat} {cs : List Value} {x : DataW H × List MemPlace} (h : DataW.trod enc Try.prog w 0 (fun _ => true) true fuel 27 cs = some x) :
    ∃ (a : Option Addr) (n c : Nat) (ps : List Pr), cs = [.slice a n c] ∧ ps.length = n ∧ n ≤ 9223372036854775807 ∧ (∀ x ∈ ps, x.ok) ∧ (0 < n → SlP w (.slice a n c) ps) := by
  rcases open_slice Try.underlying27 h with ⟨hcs, _⟩ | ⟨a, n, c, mm, nn, D, Pl, hcs, _, hl, hm, hmm, _, hi⟩
  · subst hcs
    exact ⟨none, 0, 0, [], rfl, rfl, by omega, fun x hx => by simp at hx, fun h => by omega⟩
  · subst hcs
    simp only [if_true] at hmm
    have hc4 : Try.prog.cellsOf 86 = 4 := by kernel_rfl
    obtain ⟨ab, ao, spot⟩ := a
    obtain ⟨ps, hpl, hps⟩ := list_of (n := n) (R := fun i (q : Pr) => q.ok ∧ ∀ (j : Nat) (x : Value), q.cells[j]? = some x → w.cell? (((⟨ab, ao, spot⟩ : Addr).add (i * 4)).add j) = some x) fun i hin => by
      obtain ⟨cs', hc, ht'⟩ := hi i (by omega)
      rw [hc4] at hc
      obtain ⟨q, rfl, hq⟩ := open_pair ht'
      refine ⟨q, hq, fun j x hj => ?_⟩
      obtain ⟨_, _, hat⟩ := World.cells?_some hc
      have hj4 : j < 4 := (List.getElem?_eq_some_iff.1 hj).1
      have := hat j hj4
      rw [this, hj]
    refine ⟨some ⟨ab, ao, spot⟩, n, c, ps, rfl, hpl, by unfold maxLen at hm; omega, fun x hx => ?_, fun h0 => ?_⟩
    · obtain ⟨i, hi2⟩ := List.getElem?_of_mem hx
      exact (hps i x hi2).1
    · have h1 := (hps 0 _ (List.getElem?_eq_getElem (by omega))).2 0 _ rfl
      have hspot : spot = none := by simpa [Addr.add] using World.cell?_spot h1
      subst hspot
      refine .inr ⟨ab, ao, c, by rw [hpl], by rw [hpl]; exact hl, hm, fun i q hq => ?_⟩
      intro j x hj
      have := (hps i q hq).2 j x hj
      rw [Addr.add_lit, Addr.add_lit] at this
      exact this

set_option maxRecDepth 100000 in
/-- A frame that lies in a row that came in. -/
theorem open_framecells {fuel : Nat} {cs : List Value} {x : DataW H × List MemPlace} (h : DataW.trod enc Try.prog w 0 (fun _ => true) true fuel 29 cs = some x) :
    ∃ (f : Fr) (am : Option Addr) (lm cm : Nat) (ap : Option Addr) (lp cp : Nat), cs = [.int .u32 (f.seq : Int), .int .i64 f.point, .int .i64 f.source, .int .i64 f.turn, .float .f32 f.scale, .slice am lm cm, .slice ap lp cp] ∧
      f.mates.length = lm ∧ f.pairs.length = lp ∧ lm ≤ 9223372036854775807 ∧ lp ≤ 9223372036854775807 ∧
      (FrRep w (.agg #[.int .u32 (f.seq : Int), .int .i64 f.point, .int .i64 f.source, .int .i64 f.turn, .float .f32 f.scale, .slice am lm cm, .slice ap lp cp]) f ∨ lm = 0 ∨ lp = 0) := by
  obtain ⟨xs, m, _, _, hlen, hx, hg⟩ := DataW.trod_struct Try.underlying29 h
  have hcl : Try.prog.cellsOf 29 = 7 := by kernel_rfl
  rw [hcl] at hlen
  have hx7 : xs.length = 7 := hx
  match cs, hlen with
  | [c0, c1, c2, c3, c4, c5, c6], _ =>
    have g0 : DataW.trod enc Try.prog w 0 (fun _ => true) true m 24 (([c0, c1, c2, c3, c4, c5, c6].drop 0).take (Try.prog.cellsOf 24)) = xs[0]? := hg 0 _ rfl
    have g1 : DataW.trod enc Try.prog w 0 (fun _ => true) true m 3 (([c0, c1, c2, c3, c4, c5, c6].drop 1).take (Try.prog.cellsOf 3)) = xs[1]? := hg 1 _ rfl
    have g2 : DataW.trod enc Try.prog w 0 (fun _ => true) true m 3 (([c0, c1, c2, c3, c4, c5, c6].drop 2).take (Try.prog.cellsOf 3)) = xs[2]? := hg 2 _ rfl
    have g3 : DataW.trod enc Try.prog w 0 (fun _ => true) true m 3 (([c0, c1, c2, c3, c4, c5, c6].drop 3).take (Try.prog.cellsOf 3)) = xs[3]? := hg 3 _ rfl
    have g4 : DataW.trod enc Try.prog w 0 (fun _ => true) true m 25 (([c0, c1, c2, c3, c4, c5, c6].drop 4).take (Try.prog.cellsOf 25)) = xs[4]? := hg 4 _ rfl
    have g5 : DataW.trod enc Try.prog w 0 (fun _ => true) true m 26 (([c0, c1, c2, c3, c4, c5, c6].drop 5).take (Try.prog.cellsOf 26)) = xs[5]? := hg 5 _ rfl
    have g6 : DataW.trod enc Try.prog w 0 (fun _ => true) true m 27 (([c0, c1, c2, c3, c4, c5, c6].drop 6).take (Try.prog.cellsOf 27)) = xs[6]? := hg 6 _ rfl
    rw [List.getElem?_eq_getElem (by omega)] at g0 g1 g2 g3 g4 g5 g6
    rw [show Try.prog.cellsOf 24 = 1 by kernel_rfl] at g0
    rw [show Try.prog.cellsOf 3 = 1 by kernel_rfl] at g1 g2 g3
    rw [show Try.prog.cellsOf 25 = 1 by kernel_rfl] at g4
    rw [show Try.prog.cellsOf 26 = 1 by kernel_rfl] at g5
    rw [show Try.prog.cellsOf 27 = 1 by kernel_rfl] at g6
    obtain ⟨n0, e0, _, w0⟩ := DataW.trod_int Try.underlying24 g0
    obtain ⟨n1, e1, _, w1⟩ := DataW.trod_int Try.underlying3 g1
    obtain ⟨n2, e2, _, w2⟩ := DataW.trod_int Try.underlying3 g2
    obtain ⟨n3, e3, _, w3⟩ := DataW.trod_int Try.underlying3 g3
    obtain ⟨b4, e4, hb4⟩ := trod_float32 Try.underlying25 g4
    obtain ⟨am, lm, cm, ms, e5, hml, hm2, hms, hSm⟩ := open_mates g5
    obtain ⟨ap, lp, cp, ps, e6, hpl, hp2, hps, hSp⟩ := open_pairs g6
    simp at e0 e1 e2 e3 e4 e5 e6
    subst e0 e1 e2 e3 e4 e5 e6
    have b0 := bounds_u32 w0
    have hn0 : ((n0.toNat : Nat) : Int) = n0 := by omega
    refine ⟨⟨n0.toNat, n1, n2, n3, b4, ms, ps⟩, am, lm, cm, ap, lp, cp, by simp only [hn0], hml, hpl, hm2, hp2, ?_⟩
    rcases Nat.eq_zero_or_pos lm with h0 | h0
    · exact .inr (.inl h0)
    · rcases Nat.eq_zero_or_pos lp with h1 | h1
      · exact .inr (.inr h1)
      · exact .inl ⟨_, _, rfl, hSm h0, hSp h1, ⟨by simp only; omega, i64_of w1, i64_of w2, i64_of w3, hb4, hms, hps⟩⟩

set_option maxRecDepth 100000 in
/-- Frames that came in. -/
theorem open_frames {b0 : Nat} {v : Value} {d : DataW H} {p : List MemPlace} (hval : Value.okWide Try.prog w .any b0 38 v) (h1 : DataW.Trod enc Try.prog w 0 (fun _ => true) true 38 v d p) :
    ∃ (a : Option Addr) (n c : Nat) (fs : List Fr), v = .slice a n c ∧ FrsL w a fs ∧ fs.length = n ∧ n ≤ c ∧ c ≤ 9223372036854775807 := by
  obtain ⟨a1, len, cap, rfl⟩ := okWide_slice Try.underlying38 hval
  obtain ⟨fuel, hf⟩ := h1
  rcases open_slice Try.underlying38 hf with ⟨hcs, _⟩ | ⟨a, n, c, mm, nn, D, Pl, hcs, _, hl, hm, hmm, _, hi⟩
  · simp [Value.cells] at hcs
    obtain ⟨rfl, rfl, rfl⟩ := hcs
    exact ⟨none, 0, 0, [], rfl, fun i x hx => (by simp at hx), rfl, Nat.le_refl _, by omega⟩
  · simp [Value.cells] at hcs
    obtain ⟨rfl, rfl, rfl⟩ := hcs
    simp only [if_true] at hmm
    have hc7 : Try.prog.cellsOf 29 = 7 := by kernel_rfl
    obtain ⟨ab, ao, spot⟩ := a
    obtain ⟨fs, hfl, hfs⟩ := list_of (n := len) (R := fun i (f : Fr) => ∃ (am : Option Addr) (lm cm : Nat) (ap : Option Addr) (lp cp : Nat), (∀ (j : Nat) (x : Value), ([.int .u32 (f.seq : Int), .int .i64 f.point, .int .i64 f.source, .int .i64 f.turn, .float .f32 f.scale, .slice am lm cm, .slice ap lp cp] : List Value)[j]? = some x → w.cell? (((⟨ab, ao, spot⟩ : Addr).add (i * 7)).add j) = some x) ∧
        f.mates.length = lm ∧ f.pairs.length = lp ∧ lm ≤ 9223372036854775807 ∧ lp ≤ 9223372036854775807 ∧
        (FrRep w (.agg #[.int .u32 (f.seq : Int), .int .i64 f.point, .int .i64 f.source, .int .i64 f.turn, .float .f32 f.scale, .slice am lm cm, .slice ap lp cp]) f ∨ lm = 0 ∨ lp = 0)) fun i hin => by
      obtain ⟨cs', hc, ht'⟩ := hi i (by omega)
      rw [hc7] at hc
      obtain ⟨f, am, lm, cm, ap, lp, cp, rfl, hr⟩ := open_framecells ht'
      refine ⟨f, am, lm, cm, ap, lp, cp, fun j x hj => ?_, hr⟩
      obtain ⟨_, _, hat⟩ := World.cells?_some hc
      have hj7 : j < 7 := (List.getElem?_eq_some_iff.1 hj).1
      have := hat j hj7
      rw [this, hj]
    refine ⟨some ⟨ab, ao, spot⟩, len, cap, fs, rfl, fun i f hf => ?_, hfl, hl, by unfold maxLen at hm; omega⟩
    obtain ⟨am, lm, cm, ap, lp, cp, hcell, hr⟩ := hfs i f hf
    have hspot : spot = none := by
      obtain ⟨_, _, _, _, _, _, h0, _⟩ := hfs 0 _ (List.getElem?_eq_getElem (by have := (List.getElem?_eq_some_iff.1 hf).1; omega))
      simpa [Addr.add] using World.cell?_spot (h0 0 _ rfl)
    subst hspot
    have hc := fun j x hj => by have := hcell j x hj; rw [Addr.add_lit, Addr.add_lit] at this; exact this
    exact ⟨ab, ao, am, lm, cm, ap, lp, cp, rfl, hc 0 _ rfl, hc 1 _ rfl, hc 2 _ rfl, hc 3 _ rfl, hc 4 _ rfl, hc 5 _ rfl, hc 6 _ rfl, hr⟩
end
end Go.Proofs.Ytohnlmfmpflbpaa
