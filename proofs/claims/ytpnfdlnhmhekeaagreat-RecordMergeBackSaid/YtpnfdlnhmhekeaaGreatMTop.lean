/- The way between a statement and the calls: arguments opened (bytes, frames), the post of 'true, nothing changed'. Conditions: none. -/
import Derived.Test.YtpnfdlnhmhekeaaGreatMRec
import Derived.Test.YtpnfdlnhmhekeaaGreatMSum
import Derived.Test.YtpnfdlnhmhekeaaGreatRows
import Derived.WalkKit
import Derived.ProofKit
import Derived.OpenShut
import Derived.JoinedCond
import Derived.Carry
import Derived.Deep.Slices
import Derived.ChangeSlices
set_option linter.unusedSimpArgs false
set_option linter.unusedVariables false
set_option linter.all false
namespace Go.Proofs.YtpnfdlnhmhekeaaGreat
open Go.ChangeShapes Go.WideShapes Go.ChangeAt Go.RowKit Go.Deep

set_option maxRecDepth 100000 in
theorem own : ownKnob Tryz.prog.godebug = none := by kernel_rfl
set_option maxRecDepth 100000 in
theorem laidOut : laidOutB Tryz.prog = true := by kernel_rfl

section
variable {H : Type} {enc : TypeId × Value → H} {w : World} {base : Nat} {spare : Nat → Bool} {held : Bool}

set_option maxRecDepth 100000 in
theorem carry_all {W W' : World} (hb : Below W.heap.size W W') : ∀ {ts : List TypeId} {vs : List Value} {ds : List (DataW H)} {p : List MemPlace}, (∀ t ∈ ts, Tryz.prog.readableRec t = true ∧ t < Tryz.prog.types.size) → (∀ x ∈ p, x.block < W.heap.size) →
    DataW.TrodAll enc Tryz.prog W 0 (fun _ => true) true ts vs ds p → DataW.TrodAll enc Tryz.prog W' 0 (fun b => decide (b < W.heap.size)) true ts vs ds p
  | [], _, _, _, _, _, h => by
    obtain ⟨rfl, rfl, rfl⟩ := trodAll_nil h
    exact trodAll_mk0
  | t :: ts, _, _, _, hr, hlt, h => by
    obtain ⟨v, vs1, d, ds1, a, b, rfl, rfl, rfl, h1, h2⟩ := trodAll_cons h
    exact trodAll_cons_mk (Below.trod laidOut (hr t List.mem_cons_self).1 (hr t List.mem_cons_self).2 h1 hb (fun x hx => hlt x (List.mem_append_left _ hx))) (carry_all hb (fun t ht => hr t (List.mem_cons_of_mem _ ht)) (fun x hx => hlt x (List.mem_append_right _ hx)) h2)

set_option maxRecDepth 100000 in
/-- What a law's post asks: true, and the arguments as they were. -/
theorem post_true {f : Func} {s : ChangeSpec} {W W' : World} {args : Array Value} {ds gs : List (DataW H)} {before : List MemPlace}
    (hW : DataW.Whole enc Tryz.prog f.params.toList s.vars false W args.toList ds gs before) (hv : s.vars = [])
    (hr : ∀ t ∈ f.params.toList, Tryz.prog.readableRec t = true ∧ t < Tryz.prog.types.size) (hrt : f.resultTypes = #[4])
    (hres : ∀ ds : List (DataW H), ds.length = f.params.size → (s.fn H ds).results = [.lit (.bool true)] ∧ (s.fn H ds).args = ds ∧ (s.fn H ds).vars = []) (hl : ds.length = f.params.size) (hb : Below W.heap.size W W') :
    s.post enc Tryz.prog f false true false false W args (.bool true) W' := by
  have hlt : ∀ x ∈ before, x.block < W.heap.size := fun x hx => by simpa using hW.lt x hx
  have hW' := hW
  obtain ⟨p, q, hA, hV, rfl, _, _⟩ := hW
  rw [hv] at hV
  obtain ⟨rfl, rfl⟩ := trodVars_none hV
  obtain ⟨h1, h2, h3⟩ := hres ds hl
  rw [List.append_nil] at hlt hW'
  refine ⟨ds, [], p, [], p, [], hW', ?_, ?_, ?_, hb.frame _, fun h => by cases h⟩
  · rw [List.append_nil, h1, hrt]
    exact trodAll_mk1 (shut_bool Tryz.underlying4 true)
  · rw [List.append_nil, h2]
    exact carry_all hb hr hlt hA
  · rw [List.append_nil, h3, hv]
    rfl

set_option maxRecDepth 100000 in
/-- Bytes that came in. -/
theorem open_bytes {W : World} {b0 : Nat} {v : Value} {d : DataW H} {p : List MemPlace} (hval : Value.okWide Tryz.prog W .any b0 77 v) (h1 : DataW.Trod enc Tryz.prog W 0 (fun _ => true) true 77 v d p) :
    ∃ (a : Option Addr) (n cap : Nat) (l : List UInt8), v = .slice a n cap ∧ BytesA W a l ∧ l.length = n ∧ n ≤ cap ∧ cap ≤ 9223372036854775807 ∧ (a = none → n = 0 ∧ cap = 0) := by
  obtain ⟨a1, len, cap, rfl⟩ := okWide_slice Tryz.underlying77 hval
  obtain ⟨fuel, hf⟩ := h1
  rcases open_ints Tryz.underlying77 Tryz.underlying5 (by kernel_rfl) hf with ⟨hcs, _⟩ | ⟨a, len', cap', zs, hcs, _, hl, hm, hz, _, hcell, hwz⟩
  · simp [Value.cells] at hcs
    obtain ⟨rfl, rfl, rfl⟩ := hcs
    exact ⟨none, 0, 0, [], rfl, fun i x hx => (by simp at hx), rfl, Nat.le_refl _, by omega, fun _ => ⟨rfl, rfl⟩⟩
  · simp [Value.cells] at hcs
    obtain ⟨rfl, rfl, rfl⟩ := hcs
    simp only [if_true] at hz
    have hlen : ((zs.take len).map fun n => UInt8.ofNat n.toNat).length = len := by simp; omega
    refine ⟨some a, len, cap, (zs.take len).map fun n => UInt8.ofNat n.toNat, rfl, fun i x hx => ?_, hlen, hl, by unfold maxLen at hm; exact hm, fun e => by cases e⟩
    have hi : i < len := by rw [← hlen]; exact (List.getElem?_eq_some_iff.1 hx).1
    obtain ⟨ab, ao, spot⟩ := a
    have hspot : spot = none := by simpa [Addr.add] using World.cell?_spot (hcell 0 (by omega))
    subst hspot
    refine ⟨ab, ao, rfl, ?_⟩
    have hcj := hcell i (by omega)
    rw [Addr.add_lit] at hcj
    rw [hcj]
    have hb := range_u8 hwz i
    have e : zs.getD i 0 = zs[i]'(by omega) := by simp [List.getD, List.getElem?_eq_getElem (show i < zs.length by omega)]
    rw [List.getD_eq_getElem?_getD] at e
    rw [e] at hb
    rw [List.getD_eq_getElem?_getD, e]
    rw [List.getElem?_map, List.getElem?_take_of_lt hi, List.getElem?_eq_getElem (by omega)] at hx
    simp only [Option.map_some, Option.some.injEq] at hx
    subst hx
    congr 2
    simp only [UInt8.toNat_ofNat']
    omega

set_option maxRecDepth 100000 in
theorem i64_of {z : Int} (h : (Lit.int .i64 z).wf = true) : I64 z := bounds_i64 h
set_option maxRecDepth 100000 in
theorem i16_of {z : Int} (h : (Lit.int .i16 z).wf = true) : I16 z := bounds_i16 h

set_option maxRecDepth 100000 in
/-- Two samples. -/
theorem open_two {fuel : Nat} {cs : List Value} {x : DataW H × List MemPlace} (h : DataW.trod enc Tryz.prog w base spare held fuel 138 cs = some x) : ∃ a b : Int, cs = [.int .i16 a, .int .i16 b] ∧ I16 a ∧ I16 b := by
  obtain ⟨xs, m, _, _, hlen, hx, hg⟩ := DataW.trod_array Tryz.underlying138 h
  rw [show Tryz.prog.cellsOf 138 = 2 by kernel_rfl] at hlen
  have hc : Tryz.prog.cellsOf 137 = 1 := by kernel_rfl
  match cs, hlen with
  | [c0, c1], _ =>
    have g0 := hg 0 (by omega)
    have g1 := hg 1 (by omega)
    rw [hc, List.getElem?_eq_getElem (by omega)] at g0 g1
    obtain ⟨a, e0, _, w0⟩ := DataW.trod_int Tryz.underlying137 g0
    obtain ⟨b, e1, _, w1⟩ := DataW.trod_int Tryz.underlying137 g1
    simp at e0 e1
    subst e0 e1
    exact ⟨a, b, rfl, i16_of w0, i16_of w1⟩

set_option maxRecDepth 100000 in
theorem open_pair {fuel : Nat} {cs : List Value} {x : DataW H × List MemPlace} (h : DataW.trod enc Tryz.prog w base spare held fuel 140 cs = some x) : ∃ p : Pr, cs = p.cells ∧ p.ok := by
  obtain ⟨xs, m, _, _, hlen, hx, hg⟩ := DataW.trod_struct Tryz.underlying140 h
  rw [show Tryz.prog.cellsOf 140 = 4 by kernel_rfl] at hlen
  have hc : Tryz.prog.cellsOf 138 = 2 := by kernel_rfl
  have hx2 : xs.length = 2 := hx
  match cs, hlen with
  | [c0, c1, c2, c3], _ =>
    have g0 : DataW.trod enc Tryz.prog w base spare held m 138 (([c0, c1, c2, c3].drop 0).take (Tryz.prog.cellsOf 138)) = xs[0]? := hg 0 _ rfl
    have g1 : DataW.trod enc Tryz.prog w base spare held m 138 (([c0, c1, c2, c3].drop 2).take (Tryz.prog.cellsOf 138)) = xs[1]? := hg 1 _ rfl
    rw [hc, List.getElem?_eq_getElem (by omega)] at g0 g1
    obtain ⟨a, b, e0, h1, h2⟩ := open_two g0
    obtain ⟨c, d, e1, h3, h4⟩ := open_two g1
    simp at e0 e1
    obtain ⟨rfl, rfl⟩ := e0
    obtain ⟨rfl, rfl⟩ := e1
    exact ⟨⟨a, b, c, d⟩, rfl, h1, h2, h3, h4⟩

set_option maxRecDepth 100000 in
/-- A list out of what holds at each index. -/
theorem list_of {α : Type} {n : Nat} {R : Nat → α → Prop} (h : ∀ i, i < n → ∃ x, R i x) : ∃ l : List α, l.length = n ∧ ∀ i x, l[i]? = some x → R i x := by
  induction n with
  | zero => exact ⟨[], rfl, fun i x hx => by simp at hx⟩
  | succ n ih =>
    obtain ⟨l, hl, hR⟩ := ih fun i hi => h i (by omega)
    obtain ⟨y, hy⟩ := h n (by omega)
    refine ⟨l ++ [y], by simp [hl], fun i x hx => ?_⟩
    rcases Nat.lt_or_ge i n with hi | hi
    · rw [List.getElem?_append_left (by omega)] at hx; exact hR i x hx
    · have := (List.getElem?_eq_some_iff.1 hx).1
      simp [hl] at this
      obtain rfl : i = n := by omega
      rw [List.getElem?_append_right (by omega), hl, Nat.sub_self] at hx
      simp at hx
      subst hx; exact hy

set_option maxRecDepth 100000 in
/-- A frame that came in. -/
theorem open_frame {W : World} {b0 : Nat} {v : Value} {d : DataW H} {p : List MemPlace} (hval : Value.okWide Tryz.prog W .any b0 85 v) (h1 : DataW.Trod enc Tryz.prog W 0 (fun _ => true) true 85 v d p) : ∃ f : Fr, FrRep W v f := by
  have hrow := hval
  unfold Value.okWide at hrow
  rw [Tryz.underlying85] at hrow
  obtain ⟨cs, rfl, hsz, ts, hts, _, hcell⟩ := hrow
  have hts2 : ts = [80, 3, 3, 3, 81, 82, 83] := Option.some.inj (hts.symm.trans (by kernel_rfl))
  subst hts2
  obtain ⟨fuel, hf⟩ := h1
  obtain ⟨cs⟩ := cs
  obtain ⟨xs, m, _, _, hlen, hx, hg⟩ := DataW.trod_struct Tryz.underlying85 hf
  have hcl : Tryz.prog.cellsOf 85 = 7 := by kernel_rfl
  rw [hcl] at hsz
  have hx7 : xs.length = 7 := hx
  match cs, hsz with
  | [c0, c1, c2, c3, c4, c5, c6], _ =>
    have g0 : DataW.trod enc Tryz.prog W 0 (fun _ => true) true m 80 (([c0, c1, c2, c3, c4, c5, c6].drop 0).take (Tryz.prog.cellsOf 80)) = xs[0]? := hg 0 _ rfl
    have g1 : DataW.trod enc Tryz.prog W 0 (fun _ => true) true m 3 (([c0, c1, c2, c3, c4, c5, c6].drop 1).take (Tryz.prog.cellsOf 3)) = xs[1]? := hg 1 _ rfl
    have g2 : DataW.trod enc Tryz.prog W 0 (fun _ => true) true m 3 (([c0, c1, c2, c3, c4, c5, c6].drop 2).take (Tryz.prog.cellsOf 3)) = xs[2]? := hg 2 _ rfl
    have g3 : DataW.trod enc Tryz.prog W 0 (fun _ => true) true m 3 (([c0, c1, c2, c3, c4, c5, c6].drop 3).take (Tryz.prog.cellsOf 3)) = xs[3]? := hg 3 _ rfl
    have g5 : DataW.trod enc Tryz.prog W 0 (fun _ => true) true m 82 (([c0, c1, c2, c3, c4, c5, c6].drop 5).take (Tryz.prog.cellsOf 82)) = xs[5]? := hg 5 _ rfl
    have g6 : DataW.trod enc Tryz.prog W 0 (fun _ => true) true m 83 (([c0, c1, c2, c3, c4, c5, c6].drop 6).take (Tryz.prog.cellsOf 83)) = xs[6]? := hg 6 _ rfl
    rw [List.getElem?_eq_getElem (by omega)] at g0 g1 g2 g3 g5 g6
    rw [show Tryz.prog.cellsOf 80 = 1 by kernel_rfl] at g0
    rw [show Tryz.prog.cellsOf 3 = 1 by kernel_rfl] at g1 g2 g3
    rw [show Tryz.prog.cellsOf 82 = 1 by kernel_rfl] at g5
    rw [show Tryz.prog.cellsOf 83 = 1 by kernel_rfl] at g6
    obtain ⟨n0, e0, _, w0⟩ := DataW.trod_int Tryz.underlying80 g0
    obtain ⟨n1, e1, _, w1⟩ := DataW.trod_int Tryz.underlying3 g1
    obtain ⟨n2, e2, _, w2⟩ := DataW.trod_int Tryz.underlying3 g2
    obtain ⟨n3, e3, _, w3⟩ := DataW.trod_int Tryz.underlying3 g3
    simp at e0 e1 e2 e3
    subst e0 e1 e2 e3
    have k4 := hcell 4 c4 rfl
    obtain ⟨u4, hu4, k4⟩ := k4
    obtain rfl : 81 = u4 := Option.some.inj hu4
    obtain ⟨b4, rfl, hb4⟩ : ∃ b, c4 = .float .f32 b ∧ b < 4294967296 := by
      unfold Cell.okWide at k4
      rw [Tryz.underlying81] at k4
      unfold Cell.ok at k4
      rw [Tryz.underlying81] at k4
      cases c4 <;> simp at k4
      obtain ⟨rfl, hk⟩ := k4
      exact ⟨_, rfl, hk⟩
    have k5 := hcell 5 c5 rfl
    have k6 := hcell 6 c6 rfl
    obtain ⟨u5, hu5, k5⟩ := k5
    obtain rfl : 82 = u5 := Option.some.inj hu5
    obtain ⟨u6, hu6, k6⟩ := k6
    obtain rfl : 83 = u6 := Option.some.inj hu6
    have hspot : ∀ {t e : TypeId} {a : Addr} {n c : Nat}, Tryz.prog.underlying t = some (.slice e) → Cell.okWide Tryz.prog W .any b0 t (.slice (some a) n c) → a.spot = none := by
      intro t e a n c ht hk
      unfold Cell.okWide at hk
      rw [ht] at hk
      unfold Cell.ok at hk
      rw [ht] at hk
      exact hk.2.2.2.1
    have hM : ∃ ms : List Int, Sl W c5 (ms.map i64v) ∧ ∀ x ∈ ms, I64 x := by
      rcases open_ints Tryz.underlying82 Tryz.underlying3 (by kernel_rfl) g5 with ⟨hcs, _⟩ | ⟨a, n, c, zs, hcs, _, hl, hm, hz, _, hcz, hwz⟩
      · simp at hcs
        subst hcs
        exact ⟨[], .inl ⟨rfl, rfl⟩, fun x hx => by cases hx⟩
      · simp at hcs
        subst hcs
        simp only [if_true] at hz
        obtain ⟨ab, ao, spot⟩ := a
        obtain rfl : spot = none := hspot Tryz.underlying82 k5
        have hln : (zs.take n).length = n := by rw [List.length_take]; omega
        refine ⟨zs.take n, .inr ⟨ab, ao, c, by rw [List.length_map, hln], by rw [List.length_map, hln]; exact hl, hm, fun i hi => ?_⟩, fun x hx => i64_of (hwz x (List.mem_of_mem_take hx))⟩
        rw [List.length_map, hln] at hi
        have := hcz i (by omega)
        rw [Addr.add_lit] at this
        rw [this, List.getElem_map, List.getElem_take]
        simp [i64v, List.getD, List.getElem?_eq_getElem (show i < zs.length by omega)]
    have hP : ∃ ps : List Pr, SlP W c6 ps ∧ ∀ x ∈ ps, x.ok := by
      rcases open_slice Tryz.underlying83 g6 with ⟨hcs, _⟩ | ⟨a, n, c, mm, nn, D, Pl, hcs, _, hl, hm, hmm, _, hi⟩
      · simp at hcs
        subst hcs
        exact ⟨[], .inl ⟨rfl, rfl⟩, fun x hx => by cases hx⟩
      · simp at hcs
        subst hcs
        simp only [if_true] at hmm
        obtain ⟨ab, ao, spot⟩ := a
        obtain rfl : spot = none := hspot Tryz.underlying83 k6
        have hc4 : Tryz.prog.cellsOf 140 = 4 := by kernel_rfl
        obtain ⟨ps, hpl, hps⟩ := list_of (n := n) (R := fun i (q : Pr) => q.ok ∧ ∀ (j : Nat) (x : Value), q.cells[j]? = some x → W.cell? ⟨ab, ao + i * 4 + j, none⟩ = some x) fun i hin => by
          obtain ⟨cs', hc, ht'⟩ := hi i (by omega)
          rw [hc4] at hc
          obtain ⟨q, rfl, hq⟩ := open_pair ht'
          refine ⟨q, hq, fun j x hj => ?_⟩
          obtain ⟨_, _, hat⟩ := World.cells?_some hc
          have hj4 : j < 4 := (List.getElem?_eq_some_iff.1 hj).1
          have := hat j hj4
          rw [Addr.add_lit, Addr.add_lit] at this
          rw [this, hj]
        refine ⟨ps, .inr ⟨ab, ao, c, by rw [hpl], by rw [hpl]; exact hl, hm, fun i q hq => (hps i q hq).2⟩, fun x hx => ?_⟩
        obtain ⟨i, hi2⟩ := List.getElem?_of_mem hx
        exact (hps i x hi2).1
    obtain ⟨ms, hms, hms2⟩ := hM
    obtain ⟨ps, hps, hps2⟩ := hP
    have b0 := bounds_u32 w0
    refine ⟨⟨n0.toNat, n1, n2, n3, b4, ms, ps⟩, c5, c6, ?_, hms, hps, ⟨by simp only; omega, i64_of w1, i64_of w2, i64_of w3, hb4, hms2, hps2⟩⟩
    rw [show ((n0.toNat : Nat) : Int) = n0 by omega]
end
end Go.Proofs.YtpnfdlnhmhekeaaGreat
