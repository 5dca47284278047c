/- What Scan collects: gaps, plain; rows of what was found. Conditions: none. -/
import Derived.Test.YtohnlmfmpflbpaaGreatMGap
set_option linter.unusedSimpArgs false
set_option linter.unusedVariables false
set_option linter.all false
namespace Go.Proofs.YtohnlmfmpflbpaaGreat
open Go.RowKit

/-- The end of what was found, and the gaps ahead of it. -/
def gapSt (s : Nat × List (Nat × Nat)) (x : Nat × Fr) : Nat × List (Nat × Nat) := (x.1 + 16 + 10 * x.2.pairs.length + 2, s.2 ++ gap1 s.1 x.1)
def gapRun (l : List (Nat × Fr)) : Nat × List (Nat × Nat) := l.foldl gapSt (0, [])
def gapsOf (l : List (Nat × Fr)) (n : Nat) : List (Nat × Nat) := (gapRun l).2 ++ gap1 (gapRun l).1 n
theorem gapRun_snoc (l : List (Nat × Fr)) (x : Nat × Fr) : gapRun (l ++ [x]) = gapSt (gapRun l) x := by simp [gapRun]
theorem gap1_len (e t : Nat) : (gap1 e t).length ≤ 1 := by unfold gap1; split <;> simp
theorem gapFold_len : ∀ (l : List (Nat × Fr)) (s : Nat × List (Nat × Nat)), (l.foldl gapSt s).2.length ≤ s.2.length + l.length
  | [], s => by simp
  | x :: t, s => by
    have h := gapFold_len t (gapSt s x)
    have := gap1_len s.1 x.1
    simp only [List.foldl_cons, List.length_cons]
    simp only [gapSt, List.length_append] at h ⊢
    omega
theorem gapRun_len (l : List (Nat × Fr)) : (gapRun l).2.length ≤ l.length := by
  have := gapFold_len l (0, [])
  unfold gapRun
  simpa using this

/-- What is found lies within the bytes, and has 8 ports at most. -/
theorem scan_mem {l : List UInt8} : ∀ (m i : Nat), l.length - i ≤ m → ∀ x ∈ scanFrom l i, x.1 < l.length ∧ x.2.pairs.length ≤ 8
  | m, i, hm, x, hx => by
    by_cases h : i < l.length
    · match m, hm with
      | 0, hm => omega
      | m + 1, hm =>
        by_cases he : decErr (l.drop i) = 0
        · rw [scan_hit h he] at hx
          rcases List.mem_cons.1 hx with rfl | hx
          · refine ⟨h, ?_⟩
            have hv : (decFr (l.drop i)).valid = true := by
              unfold decErr at he
              split at he
              · rename_i h1; exact absurd he h1
              · split at he
                · cases he
                · split at he
                  · cases he
                  · rename_i h3
                    cases hv : (decFr (l.drop i)).valid
                    · exact absurd (.inr hv) h3
                    · rfl
            exact (Fr.valid_iff.1 hv).1.2
          · exact scan_mem m _ (by unfold headLen; omega) x hx
        · rw [scan_miss h he] at hx
          exact scan_mem m _ (by omega) x hx
    · rw [scan_end (by omega)] at hx; cases hx
theorem scan_len {l : List UInt8} : ∀ (m i : Nat), l.length - i ≤ m → (scanFrom l i).length ≤ l.length - i
  | m, i, hm => by
    by_cases h : i < l.length
    · match m, hm with
      | 0, hm => omega
      | m + 1, hm =>
        by_cases he : decErr (l.drop i) = 0
        · rw [scan_hit h he, List.length_cons]
          have := scan_len (l := l) m (i + headLen (l.drop i)) (by unfold headLen; omega)
          have : 18 ≤ headLen (l.drop i) := by unfold headLen; omega
          omega
        · rw [scan_miss h he]
          have := scan_len (l := l) m (i + 1) (by omega)
          omega
    · rw [scan_end (by omega)]; simp

/-- Blocks of the rows of frames stay. -/
def KeepT (B : Nat) (w w' : World) : Prop := ∀ b cs T fr, w.heap[b]? = some (.cells cs T fr) → B ≤ b → (T = 3 ∨ T = 90) → w'.heap[b]? = w.heap[b]?
theorem FrRep.keepT {B : Nat} {w w' : World} {u : Value} {F : Fr} (h : FrRep w u F) (ht : FrTy B w u) (hk : KeepT B w w') : FrRep w' u F ∧ FrTy B w' u := by
  obtain ⟨m, p, rfl, hm, hp, hok⟩ := h
  obtain ⟨y0, y1, y2, y3, y4, m', p', e, tm, tp⟩ := ht
  injection e with e
  injection e with e
  simp only [List.cons.injEq, and_true] at e
  obtain ⟨_, _, _, _, _, rfl, rfl⟩ := e
  have km : ∀ b, m.ownBlock = some b → w'.heap[b]? = w.heap[b]? := fun b e => by
    obtain ⟨h1, cs, fr, h2⟩ := tm b e
    exact hk b cs _ fr h2 h1 (.inl rfl)
  have kp : ∀ b, p.ownBlock = some b → w'.heap[b]? = w.heap[b]? := fun b e => by
    obtain ⟨h1, cs, fr, h2⟩ := tp b e
    exact hk b cs _ fr h2 h1 (.inr rfl)
  refine ⟨⟨m, p, rfl, ?_, ?_, hok⟩, _, _, _, _, _, _, _, rfl, fun b e => ?_, fun b e => ?_⟩
  · rcases hm with h | ⟨b, o, cap, e, h1, h2, h3⟩
    · exact .inl h
    · refine .inr ⟨b, o, cap, e, h1, h2, fun i hi => ?_⟩
      rw [World.cell?_of_block (w := w) (km b (by rw [e]; rfl))]
      exact h3 i hi
  · rcases hp with h | ⟨b, o, cap, e, h1, h2, h3⟩
    · exact .inl h
    · refine .inr ⟨b, o, cap, e, h1, h2, fun i q hi j x hj => ?_⟩
      rw [World.cell?_of_block (w := w) (kp b (by rw [e]; rfl))]
      exact h3 i q hi j x hj
  · obtain ⟨h1, cs, fr, h2⟩ := tm b e
    exact ⟨h1, cs, fr, by rw [km b e]; exact h2⟩
  · obtain ⟨h1, cs, fr, h2⟩ := tp b e
    exact ⟨h1, cs, fr, by rw [kp b e]; exact h2⟩

/-- The cells of what was found. -/
def frCells : Value → List Value
  | .agg c => c.toList
  | _ => []
def foundCells (x : Hit) : List Value := .int .i64 (x.1 : Int) :: frCells x.2.1
def Hits (B : Nat) (w : World) (xs : List Hit) : Prop := ∀ x ∈ xs, FrRep w x.2.1 x.2.2 ∧ FrTy B w x.2.1
theorem Hits.keepT {B : Nat} {w w' : World} {xs : List Hit} (h : Hits B w xs) (hk : KeepT B w w') : Hits B w' xs := fun x hx => (h x hx).1.keepT (h x hx).2 hk
theorem keepT_kept2 {B g5 base n size : Nat} {T : TypeId} {v : Value} {xs : List Value} {w w' : World} (h : Kept2 g5 v.ownBlock w w') (hg : g5 < B) (hr : w.ownsRow base T size v n xs) (h1 : T ≠ 3) (h2 : T ≠ 90) : KeepT B w w' := fun b cs T' fr hb hB ht => by
  refine h.block b (Array.getElem?_eq_some_iff.1 hb).1 (by omega) fun e => ?_
  rcases hr.2 with ⟨rfl, _⟩ | ⟨g, cap, cur, rfl, _, hgc, _⟩
  · cases e
  · obtain rfl : b = g := Option.some.inj e
    rw [hb] at hgc
    simp only [Option.some.injEq, Obj.cells.injEq] at hgc
    obtain ⟨_, rfl, _⟩ := hgc
    rcases ht with h | h
    · exact h1 h
    · exact h2 h
theorem keepT_below {B : Nat} {w w' : World} (h : Below w.heap.size w w') : KeepT B w w' := fun b _ _ _ hb _ _ => h.block b (Array.getElem?_eq_some_iff.1 hb).1
theorem keepT_put {B l : Nat} {w : World} {o o' : Obj} (hl : w.heap[l]? = some o) (ho : o.isCells = false) : KeepT B w (w.putObj l o') := fun b cs T fr hb _ _ => by
  refine World.putObj_heap_other fun e => ?_
  subst e
  rw [hl] at hb
  cases hb
  cases ho
theorem keepT_cells {B : Nat} {w w' : World} {row : Option Nat} (hg : w.grownBy w' row) (hr : ∀ r, row = some r → B ≤ r ∧ ∃ o : Obj, w.heap[r]? = some o ∧ o.isCells = false) {B' : Nat} : KeepT B' w w' := fun b cs T fr hb _ _ => by
  refine hg.block b (Array.getElem?_eq_some_iff.1 hb).1 fun e => ?_
  obtain ⟨_, o, ho, hc⟩ := hr b e.symm
  rw [hb] at ho
  cases ho
  cases hc
theorem own_cells {w w' : World} {row : Option Nat} {E : TypeId} {g : Nat} {cs : List Value} (h : Own w E g cs) (hg : w.grownBy w' row) (hr : ∀ r, row = some r → ∃ o : Obj, w.heap[r]? = some o ∧ o.isCells = false) : Own w' E g cs := by
  have hl := h.lt
  unfold Own at *
  rw [hg.block g hl (fun e => by obtain ⟨o, ho, hc⟩ := hr g e.symm; rw [h] at ho; cases ho; cases hc)]; exact h
theorem row_cells {w w' : World} {row : Option Nat} {base n size : Nat} {T : TypeId} {xs : List Value} {v : Value} (h : w.ownsRow base T size v n xs) (hg : w.grownBy w' row) (hr : ∀ r, row = some r → ∃ o : Obj, w.heap[r]? = some o ∧ o.isCells = false) : w'.ownsRow base T size v n xs := by
  refine World.ownsRow.kept h hg ?_
  rcases h.2 with ⟨rfl, _⟩ | ⟨g, cap, cur, rfl, _, hgc, _⟩
  · exact .inl rfl
  · refine .inr fun e => ?_
    obtain ⟨o, ho, hc⟩ := hr g e.symm
    rw [hgc] at ho
    cases ho
    cases hc

theorem own_row_ne {w : World} {E T : TypeId} {g base n size : Nat} {cs xs : List Value} {v : Value} (o : Own w E g cs) (h : w.ownsRow base T size v n xs) (hne : E ≠ T) : some g ≠ v.ownBlock := fun e => by
  rcases h.2 with ⟨rfl, _⟩ | ⟨g', cap, cur, rfl, _, hg, _⟩
  · cases e
  · obtain rfl : g = g' := Option.some.inj e
    unfold Own at o
    rw [o] at hg
    simp only [Option.some.injEq, Obj.cells.injEq] at hg
    exact hne hg.2.1
theorem own_low_ne {w : World} {T : TypeId} {g base n size : Nat} {xs : List Value} {v : Value} (h : w.ownsRow base T size v n xs) (hg : g < base) : some g ≠ v.ownBlock := fun e => by
  have := (h.lt g e.symm).1
  omega
theorem own_grown {w w' : World} {row : Option Nat} {E : TypeId} {g : Nat} {cs : List Value} (o : Own w E g cs) (hg : w.grownBy w' row) (hne : some g ≠ row) : Own w' E g cs := by
  have hl := o.lt
  unfold Own at *
  rw [hg.block g hl hne]; exact o
theorem Kept2.row {g base n size : Nat} {r : Option Nat} {T : TypeId} {xs : List Value} {v : Value} {w w' : World} (hk : Kept2 g r w w') (h : w.ownsRow base T size v n xs) (hg : g < base) (hne : v.ownBlock = none ∨ v.ownBlock ≠ r) : w'.ownsRow base T size v n xs := by
  obtain ⟨h1, h2⟩ := h
  refine ⟨h1, ?_⟩
  rcases h2 with h2 | ⟨g', cap, cur, rfl, hb, hgc, r1, r2, r3, r4⟩
  · exact .inl h2
  · refine .inr ⟨g', cap, cur, rfl, hb, ?_, r1, r2, r3, r4⟩
    rw [hk.block g' (Array.getElem?_eq_some_iff.1 hgc).1 (by omega) (fun e => by rcases hne with h | h <;> simp [Value.ownBlock] at h; exact h e)]
    exact hgc
theorem Kept2.others {g base n size : Nat} {T E : TypeId} {xs cs : List Value} {v : Value} {w w' : World} (hk : Kept2 g v.ownBlock w w') (o : Own w E g cs) (h : w.ownsRow base T size v n xs) : KeepsOthers w w' :=
  ⟨hk.size, fun k ob hkk hc => by
    rw [hk.block k (Array.getElem?_eq_some_iff.1 hkk).1 (fun e => by subst e; unfold Own at o; rw [o] at hkk; cases hkk; cases hc) (fun e => by
      rcases h.2 with ⟨rfl, _⟩ | ⟨g', cap, cur, rfl, _, hgc, _⟩
      · cases e
      · obtain rfl : k = g' := Option.some.inj e
        rw [hgc] at hkk; cases hkk; cases hc)]
    exact hkk⟩
theorem grown_others {base n size : Nat} {T : TypeId} {xs : List Value} {v : Value} {w w' : World} (hg : w.grownBy w' v.ownBlock) (h : w.ownsRow base T size v n xs) : KeepsOthers w w' :=
  KeepsOthers.of_grownBy hg fun j ob e hj => by
    rcases h.2 with ⟨rfl, _⟩ | ⟨g', cap, cur, rfl, _, hgc, _⟩
    · cases e
    · obtain rfl : g' = j := Option.some.inj e
      rw [hgc] at hj; cases hj; rfl
theorem Kept2.keepG {g n0 g0 base n size : Nat} {T : TypeId} {xs : List Value} {v : Value} {w w' : World} (hk : Kept2 g v.ownBlock w w') (h : w.ownsRow base T size v n xs) (h1 : n0 ≤ g) (h2 : g ≠ g0) (h3 : n0 ≤ base) (h4 : g0 < base) : KeepG n0 g0 w w' :=
  ⟨hk.size, fun k hkk hl => hk.block k hl (by omega) (fun e => by have := (h.lt k e.symm).1; omega)⟩
theorem grown_keepG {n0 g0 base n size : Nat} {T : TypeId} {xs : List Value} {v : Value} {w w' : World} (hg : w.grownBy w' v.ownBlock) (h : w.ownsRow base T size v n xs) (h3 : n0 ≤ base) (h4 : g0 < base) : KeepG n0 g0 w w' :=
  KeepG.grown hg fun k e => by have := (h.lt k e).1; omega
theorem keepT_grown {B base n size : Nat} {T : TypeId} {v : Value} {xs : List Value} {w w' : World} (hg : w.grownBy w' v.ownBlock) (hr : w.ownsRow base T size v n xs) (h1 : T ≠ 3) (h2 : T ≠ 90) : KeepT B w w' := fun b cs T' fr hb hB ht => by
  refine hg.block b (Array.getElem?_eq_some_iff.1 hb).1 fun e => ?_
  rcases hr.2 with ⟨rfl, _⟩ | ⟨g, cap, cur, rfl, _, hgc, _⟩
  · cases e
  · obtain rfl : b = g := Option.some.inj e
    rw [hb] at hgc
    simp only [Option.some.injEq, Obj.cells.injEq] at hgc
    obtain ⟨_, rfl, _⟩ := hgc
    rcases ht with h | h
    · exact h1 h
    · exact h2 h
theorem keepT_set {B : Nat} {w : World} {p : Addr} (h : p.block < B) (u : Value) : KeepT B w (w.setCell p u) := fun b _ _ _ _ hB _ => Below.heap_setCell _ _ _ _ (by omega)
theorem KeepT.trans {B : Nat} {a b c : World} (h : KeepT B a b) (k : KeepT B b c) : KeepT B a c := fun x cs T fr hx hB ht => by
  have h1 := h x cs T fr hx hB ht
  rw [k x cs T fr (by rw [h1]; exact hx) hB ht, h1]
theorem one8 {z : Int} {x0 x1 x2 x3 : Int} {k0 k1 k2 k3 k4 : IntKind} {s : Nat} {am ap : Option Addr} {lm cm lp cp : Nat} : ∀ u ∈ ([.int k0 z, .int k1 x0, .int k2 x1, .int k3 x2, .int k4 x3, .float .f32 s, .slice am lm cm, .slice ap lp cp] : List Value), u.oneCell' = true := by
  intro u hu
  simp only [List.mem_cons, List.not_mem_nil, or_false] at hu
  rcases hu with rfl | rfl | rfl | rfl | rfl | rfl | rfl | rfl <;> rfl
end Go.Proofs.YtohnlmfmpflbpaaGreat
