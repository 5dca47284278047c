/- Rows of numbers that a call owns. Conditions: none. The drawn region of record.Values: two slices of numbers grow by one. Conditions: none. record.Values. Conditions: the frame is valid; its scale widens to a finite float. -/
import Derived.Test.YtfkogkcpndaoeaaGreatMEnc
import Derived.Test.YtfkogkcpndaoeaaGreatMFloatR
import Derived.Test.YtfkogkcpndaoeaaGreatMRegion
import Derived.Deep.RegionLaw
set_option linter.all false
namespace Go.Proofs.YtfkogkcpndaoeaaGreat
open Go.RowKit
theorem info_num : (Tryz.prog.info? 40).map (fun i => (i.zero, i.size, i.bytes)) = some (some (.agg #[.bool false, .slice none 0 0, .bool false, .slice none 0 0, .slice none 0 0]), 5, 88) := by kernel_rfl
theorem one5 {s0 s2 : Bool} {a1 a3 a4 : Option Addr} {l1 c1 l3 c3 l4 c4 : Nat} : ∀ u ∈ ([.bool s0, .slice a1 l1 c1, .bool s2, .slice a3 l3 c3, .slice a4 l4 c4] : List Value), u.oneCell' = true := by
  intro u hu
  simp only [List.mem_cons, List.not_mem_nil, or_false] at hu
  rcases hu with rfl | rfl | rfl | rfl | rfl <;> rfl
theorem step_app_num {ops : Array Oper} {o : Oper} {a : Act} {K : Act → World → Prop} {Q : Exit → Act → World → Prop} {E : Prop} (W : World) (hgd : o.guard = none) (s x : Operand)
    (ho : o.op = .call { callee := .builtin .append, args := #[s, x], argTypes := #[49, 49] })
    (base : Nat) (v : Value) (n : Nat) (xs : List Value) (hs : a.eval s = v) (hown : W.ownsRow base 40 5 v n xs) (gs : Nat) (cs : List Value) (hx : a.eval x = .slice (some ⟨gs, 0, none⟩) 1 1) (hc : Own W 40 gs cs)
    (hcs : cs.length = 5) (h1 : ∀ u ∈ cs, u.oneCell' = true) (hn : n < 1000000000) (hbase : base ≤ W.heap.size)
    (h : ∀ g cap w', w'.ownsRow base 40 5 (.slice (some ⟨g, 0, none⟩) (n + 1) cap) (n + 1) (xs ++ cs) → W.grownBy w' v.ownBlock → (v.ownBlock = some g ∨ g = W.heap.size) → K (a.put o.dst (.slice (some ⟨g, 0, none⟩) (n + 1) cap)) w') :
    if Region.wanted o (yielded ops a.tmps) = true then Oper.wp Tryz.prog o a W K Q else E := by
  obtain ⟨i0, hi, hz0, hz1, hz2⟩ := info_parts info_num
  exact step_append_lies W hgd s x 49 ho base 40 i0 _ 5 88 Tryz.underlying49 hi hz0 hz1 hz2 rfl (by omega) v n xs hs hown ⟨gs, 0, none⟩ 1 1 cs hx (by omega)
    (fun j u hj => by rw [Addr.add_lit, Nat.zero_add]; exact hc.cell j u hj) h1 (by omega) (by unfold maxLen; omega) (by omega) hbase _ rfl (fun g cap w' h1 h2 h3 _ => h g cap w' h1 h2 h3)
theorem Tri.row {w w' : World} {base size n : Nat} {E : TypeId} {s : Value} {cs : List Value} {v : Value} {a b : Int} {d : Nat} (h : Tri w v a b d) (hr : w.ownsRow base E size s n cs) (hE : E ≠ 28) (hg : w.grownBy w' s.ownBlock) : Tri w' v a b d := by
  obtain ⟨m1, m2, m3, e, h1, h2, h3, h4⟩ := h
  exact ⟨m1, m2, m3, e, h1.row hr hE hg, h2.row hr hE hg, h3.row hr hE hg, h4⟩
theorem NumRep.row {w w' : World} {base size n : Nat} {E : TypeId} {s : Value} {cs : List Value} {v : Value} {x : CQ} (h : NumRep w v x) (hr : w.ownsRow base E size s n cs) (hE : E ≠ 28) (hg : w.grownBy w' s.ownBlock) : NumRep w' v x := by
  obtain ⟨a, b, d, h1, h2⟩ := h
  exact ⟨a, b, d, h1.row hr hE hg, h2⟩
def NumsRow (w : World) (base : Nat) (v : Value) (k : Nat) (q : Nat → CQ) : Prop :=
  ∃ us : List (List Value), us.length = k ∧ w.ownsRow base 40 5 v k us.flatten ∧ ∀ (i : Nat) (u : List Value), us[i]? = some u → u.length = 5 ∧ NumRep w (.agg u.toArray) (q i)
theorem NumsRow.below {w w' : World} {base k : Nat} {v : Value} {q : Nat → CQ} (h : NumsRow w base v k q) (hb : Below w.heap.size w w') : NumsRow w' base v k q := by
  obtain ⟨us, h1, h2, h3⟩ := h
  exact ⟨us, h1, row_below h2 hb, fun i u hu => ⟨(h3 i u hu).1, (h3 i u hu).2.below hb (Nat.le_refl _)⟩⟩
theorem NumsRow.kept {w w' : World} {base base' k n : Nat} {v s : Value} {q : Nat → CQ} {cs : List Value} (h : NumsRow w base v k q) (hr : w.ownsRow base' 40 5 s n cs) (hg : w.grownBy w' s.ownBlock) (hne : v.ownBlock = none ∨ v.ownBlock ≠ s.ownBlock) : NumsRow w' base v k q := by
  obtain ⟨us, h1, h2, h3⟩ := h
  exact ⟨us, h1, World.ownsRow.kept h2 hg hne, fun i u hu => ⟨(h3 i u hu).1, (h3 i u hu).2.row hr (by decide) hg⟩⟩
structure VInv (w0 wr : World) (g5 base k : Nat) (cs5 : List Value) (X : CQ) (qa qb : Nat → CQ) (va vb : Value) : Prop where
  hB : Below w0.heap.size w0 wr
  o5 : Own wr 40 g5 cs5
  h5 : NumRep wr (.agg cs5.toArray) X
  ra : NumsRow wr base va k qa
  rb : NumsRow wr base vb k qb
  ap : va.ownBlock = none ∨ va.ownBlock ≠ vb.ownBlock
  bs : base ≤ wr.heap.size
theorem apart_sym {x y : Option Nat} (h : x = none ∨ x ≠ y) : y = none ∨ y ≠ x := by
  cases y with
  | none => exact .inl rfl
  | some b => refine .inr fun e => ?_; subst e; rcases h with h | h <;> simp at h
theorem apart_some {v : Value} {g l c : Nat} (h : v.ownBlock = none ∨ v.ownBlock ≠ some g) : (Value.slice (some ⟨g, 0, none⟩) l c).ownBlock = none ∨ (Value.slice (some ⟨g, 0, none⟩) l c).ownBlock ≠ v.ownBlock := apart_sym h
theorem half {w0 w W1 wa : World} {g5 g8 base k j ga ca : Nat} {cs5 cs8 : List Value} {X : CQ} {q r : Nat → CQ} {v o : Value} {us : List (List Value)}
    (hB : Below w0.heap.size w0 w) (o5 : Own w 40 g5 cs5) (h5 : NumRep w (.agg cs5.toArray) X) (o8 : Own w 145 g8 cs8) (hr : w.ownsRow base 40 5 v k us.flatten) (hul : us.length = k)
    (hus : ∀ (i : Nat) (u : List Value), us[i]? = some u → u.length = 5 ∧ NumRep w (.agg u.toArray) (q i))
    (ho : NumsRow w base o j r) (ap : o.ownBlock = none ∨ o.ownBlock ≠ v.ownBlock) (hs5 : g5 < base) (hs0 : w0.heap.size ≤ base) (hbs : base ≤ w.heap.size)
    (hb1 : Below w.heap.size w W1) (u : List Value) (hu : NumRep W1 (.agg u.toArray) (q k))
    (hma : wa.ownsRow base 40 5 (.slice (some ⟨ga, 0, none⟩) (k + 1) ca) (k + 1) (us.flatten ++ u)) (hga : (W1.alloc (.cells u.toArray 40)).grownBy wa v.ownBlock) (hgx : v.ownBlock = some ga ∨ ga = (W1.alloc (.cells u.toArray 40)).heap.size) :
    Below w0.heap.size w0 wa ∧ Own wa 40 g5 cs5 ∧ NumRep wa (.agg cs5.toArray) X ∧ Own wa 145 g8 cs8 ∧ NumsRow wa base (.slice (some ⟨ga, 0, none⟩) (k + 1) ca) (k + 1) q ∧ NumsRow wa base o j r ∧ (o.ownBlock = none ∨ o.ownBlock ≠ some ga) ∧ base ≤ wa.heap.size := by
  have hb2 : Below w.heap.size w (W1.alloc (.cells u.toArray 40)) := hb1.alloc hb1.size _
  have hbA : Below W1.heap.size W1 (W1.alloc (.cells u.toArray 40)) := (Below.refl _ _).alloc (Nat.le_refl _) _
  have hu' : NumRep (W1.alloc (.cells u.toArray 40)) (.agg u.toArray) (q k) := hu.below hbA (Nat.le_refl _)
  have hwo : ∀ b, o.ownBlock = some b → b < w.heap.size := fun b hb => by
    obtain ⟨_, _, hro, _⟩ := ho
    exact (hro.lt b hb).2
  have hsz := hb2.size
  generalize W1.alloc (.cells u.toArray 40) = V at *
  have hrV := row_below hr hb2
  have o5V := o5.below hb2 o5.lt
  have o8V := o8.below hb2 o8.lt
  have hsV := hga.size
  have hu5 : u.length = 5 := by
    have h1 := hma.1
    have h2 := hr.1
    rw [List.length_append, h2] at h1
    omega
  refine ⟨?_, o5V.keptRow hrV hga hs5, (h5.below hb2 (Nat.le_refl _)).row hrV (by decide) hga, ?_, ⟨us ++ [u], by simp [hul], by simpa using hma, fun i x hx => ?_⟩, (ho.below hb2).kept hrV hga ap, ?_, by omega⟩
  · exact below_row (hB.trans (hb2.mono hB.size)) hrV hga hs0 (by omega)
  · have hl := o8V.lt
    have h8 := o8V
    unfold Own at h8 ⊢
    rw [hga.block g8 hl (fun e => ?_)]
    · exact h8
    · rcases hrV.2 with ⟨rfl, _⟩ | ⟨g, cap, cur, rfl, _, hg, _⟩
      · simp [Value.ownBlock] at e
      · have : g8 = g := by simpa [Value.ownBlock] using e
        subst this
        rw [h8] at hg
        simp only [Option.some.injEq, Obj.cells.injEq] at hg
        exact absurd hg.2.1 (by decide)
  · rcases Nat.lt_or_ge i us.length with hi | hi
    · rw [List.getElem?_append_left hi] at hx
      exact ⟨(hus i x hx).1, (((hus i x hx).2.below hb2 (Nat.le_refl _)).row hrV (by decide) hga)⟩
    · rw [List.getElem?_append_right hi] at hx
      have hik : i = us.length := by
        have := (List.getElem?_eq_some_iff.1 hx).1
        simp at this; omega
      subst hik
      simp only [Nat.sub_self, List.getElem?_cons_zero, Option.some.injEq] at hx
      subst hx
      exact ⟨hu5, by rw [hul]; exact hu'.row hrV (by decide) hga⟩
  · rcases hgx with h | h
    · rw [← h]; exact ap
    · cases e : o.ownBlock with
      | none => exact .inl rfl
      | some b => refine .inr fun e2 => ?_; have := hwo b e; have := Option.some.inj e2; omega
theorem vinv_of {w0 wa : World} {g5 g8 base k ga ca : Nat} {cs5 cs8 : List Value} {X : CQ} {qa qb : Nat → CQ} {va : Value}
    (h : Below w0.heap.size w0 wa ∧ Own wa 40 g5 cs5 ∧ NumRep wa (.agg cs5.toArray) X ∧ Own wa 145 g8 cs8 ∧ NumsRow wa base (.slice (some ⟨ga, 0, none⟩) k ca) k qb ∧ NumsRow wa base va k qa ∧ (va.ownBlock = none ∨ va.ownBlock ≠ some ga) ∧ base ≤ wa.heap.size) :
    VInv w0 wa g5 base k cs5 X qa qb va (.slice (some ⟨ga, 0, none⟩) k ca) := by
  obtain ⟨h1, h2, h3, _, h4, h5, h6, h7⟩ := h
  exact ⟨h1, h2, h3, h5, h4, h6, h7⟩
end Go.Proofs.YtfkogkcpndaoeaaGreat
namespace Go.Proofs.YtfkogkcpndaoeaaGreat
open Go.RowKit
noncomputable def vregion7 : Code := (Tryz.f33.body.bind (findRegion 7)).getD .skip
set_option maxRecDepth 100000 in
set_option maxHeartbeats 6400000 in
theorem vreg7 (s0 s2 : Bool) (a1 a3 a4 : Option Addr) (l1 c1 l3 c3 l4 c4 g5 g8 base k e : Nat) (X : CQ) (qa qb : Nat → CQ) (p : Pr) (va vb : Value) (w0 w : World) {R : Act → World → Prop} {u0 u1 u4 u6 u7 u9 u10 u11 u12 u13 u14 u15 u16 u17 u18 u19 u20 u21 u22 u23 u24 u25 u26 u27 u28 u29 u30 u31 u32 u33 u34 u35 u36 u37 u38 u39 u40 u41 u42 : Value}
    (hI : VInv w0 w g5 base k [.bool s0, .slice a1 l1 c1, .bool s2, .slice a3 l3 c3, .slice a4 l4 c4] X qa qb va vb) (o8 : Own w 145 g8 [.int .i16 p.a0, .int .i16 p.a1, .int .i16 p.b0, .int .i16 p.b1]) (hp : p.ok)
    (h0 : w0.heap.size ≤ base) (h5 : g5 < base) (hk : k < 1000) (hs : Small e X) (he : e ≤ 1000000) (he2 : 16 ≤ e) (hqa : qa k = X.mul (cq p.a0 p.a1 1)) (hqb : qb k = X.mul (cq p.b0 p.b1 1))
    (hQ : ∀ (w' : World) (ya yb x26 x27 x28 x29 x30 x31 x32 x33 x34 x35 x36 x37 x38 x39 : Value), VInv w0 w' g5 base (k + 1) [.bool s0, .slice a1 l1 c1, .bool s2, .slice a3 l3 c3, .slice a4 l4 c4] X qa qb ya yb → R ⟨List.toArray (u0 :: u1 :: ya :: yb :: u4 :: .pointer (some ⟨g5, 0, none⟩) :: u6 :: u7 :: .pointer (some ⟨g8, 0, none⟩) :: u9 :: u10 :: u11 :: u12 :: u13 :: u14 :: u15 :: u16 :: u17 :: u18 :: u19 :: u20 :: u21 :: u22 :: u23 :: u24 :: u25 :: x26 :: x27 :: x28 :: x29 :: x30 :: x31 :: x32 :: x33 :: x34 :: x35 :: x36 :: x37 :: x38 :: x39 :: u40 :: u41 :: u42 :: []), []⟩ w') :
    Code.wp Tryz.prog vregion7 (Only R) ⟨List.toArray (u0 :: u1 :: va :: vb :: u4 :: .pointer (some ⟨g5, 0, none⟩) :: u6 :: u7 :: .pointer (some ⟨g8, 0, none⟩) :: u9 :: u10 :: u11 :: u12 :: u13 :: u14 :: u15 :: u16 :: u17 :: u18 :: u19 :: u20 :: u21 :: u22 :: u23 :: u24 :: u25 :: u26 :: u27 :: u28 :: u29 :: u30 :: u31 :: u32 :: u33 :: u34 :: u35 :: u36 :: u37 :: u38 :: u39 :: u40 :: u41 :: u42 :: []), []⟩ w := by
  conv => arg 2; whnf
  obtain ⟨hB, o5, h5r, ⟨us, hul, hra, hua⟩, hrb, ap, hbs⟩ := hI
  have hwa := fun W (h : NumRep W (.agg #[.bool s0, .slice a1 l1 c1, .bool s2, .slice a3 l3 c3, .slice a4 l4 c4]) X) => wave_spec _ X p.a0 p.a1 e W h hs he he2 hp.1 hp.2.1
  have hwb := fun W (h : NumRep W (.agg #[.bool s0, .slice a1 l1 c1, .bool s2, .slice a3 l3 c3, .slice a4 l4 c4]) X) => wave_spec _ X p.b0 p.b1 e W h hs he he2 hp.2.2.1 hp.2.2.2
  rw [← hqa] at hwa
  rw [← hqb] at hwb
  have hsec := fun (W wa : World) (u : List Value) (ga ca : Nat) (hb1 : Below w.heap.size w W) (hu : NumRep W (.agg u.toArray) (qa k)) (hma) (hga) (hgx) => half (W1 := W) (wa := wa) (ga := ga) (ca := ca) hB o5 h5r o8 hra hul hua hrb (apart_sym ap) h5 h0 hbs hb1 u hu hma hga hgx
  have HA := Lib.hid hwa
  have HB := Lib.hid hwb
  have HS := Lib.hid hsec
  have HR := Lib.hid hra
  have HO := Lib.hid (show (fun w' => NumRep w' (.agg #[.bool s0, .slice a1 l1 c1, .bool s2, .slice a3 l3 c3, .slice a4 l4 c4]) X) w from h5r)
  clear hwa hwb hsec hra hp hs he he2 hqa hqb hB hrb ap hua h5r
  have c50 := o5.cell 0 _ rfl; have c51 := o5.cell 1 _ rfl; have c52 := o5.cell 2 _ rfl; have c53 := o5.cell 3 _ rfl; have c54 := o5.cell 4 _ rfl
  have c80 := o8.cell 0 _ rfl; have c81 := o8.cell 1 _ rfl; have c82 := o8.cell 2 _ rfl; have c83 := o8.cell 3 _ rfl
  have lt5 := o5.lt
  have lt8 := o8.lt
  have tok1 : True := trivial
  go_region_held3 (fun w' => w'.cell? ⟨g5, 0, none⟩ = some (.bool s0) ∧ w'.cell? ⟨g5, 1, none⟩ = some (.slice a1 l1 c1) ∧ w'.cell? ⟨g5, 2, none⟩ = some (.bool s2) ∧ w'.cell? ⟨g5, 3, none⟩ = some (.slice a3 l3 c3) ∧ w'.cell? ⟨g5, 4, none⟩ = some (.slice a4 l4 c4) ∧ w'.cell? ⟨g8, 0, none⟩ = some (.int .i16 p.a0) ∧ w'.cell? ⟨g8, 1, none⟩ = some (.int .i16 p.a1) ∧ w'.cell? ⟨g8, 2, none⟩ = some (.int .i16 p.b0) ∧ w'.cell? ⟨g8, 3, none⟩ = some (.int .i16 p.b1)) (first | (with_reducible exact ⟨c50, c51, c52, c53, c54, c80, c81, c82, c83⟩) | (simp [go_sem, c50, c51, c52, c53, c54, c80, c81, c82, c83, lt5, lt8]; done)) (first
    | (go_simp; go_at_call 72; have _t := tok1; refine (HA.out w.drew HO.out).mono ?_; rintro e1 W1 ⟨_, rfl, hu1, hb1⟩; have hb1 : Below w.heap.size w W1 := (Below.refl _ _).drew.trans hb1; obtain ⟨t0, t2, b1, b3, b4, m1, n1, m3, n3, m4, n4, rfl⟩ := hu1.open; have hr1 := row_below HR.out hb1; clear tok1 _t; have HU1 := Lib.hid hu1; have o51 := o5.below hb1 o5.lt; have o81 := o8.below hb1 o8.lt; have lt5 := o51.lt; have lt8 := o81.lt; clear hu1; have c50 := o51.cell 0 _ rfl; have c51 := o51.cell 1 _ rfl; have c52 := o51.cell 2 _ rfl; have c53 := o51.cell 3 _ rfl; have c54 := o51.cell 4 _ rfl; have c80 := o81.cell 0 _ rfl; have c81 := o81.cell 1 _ rfl; have c82 := o81.cell 2 _ rfl; have c83 := o81.cell 3 _ rfl)
    | (refine step_app_num _ rfl (.tmp 26) (.tmp 31) rfl base va k _ (by rfl) (World.ownsRow.alloc hr1 _) W1.heap.size _ (by rfl) (own_new W1 40 [.bool t0, .slice b1 m1 n1, .bool t2, .slice b3 m3 n3, .slice b4 m4 n4]) rfl one5 (by omega) (by have := hb1.size; simp; omega) ?_; intro ga ca wa hma hga hgx
       obtain ⟨hBa, o5a, h5a, o8a, hna, ⟨vs, hvl, hrba, hva⟩, apa, hbsa⟩ := HS.out W1 wa _ ga ca hb1 HU1.out hma hga hgx
       have HS2 := Lib.hid (fun (W wb : World) (u : List Value) (gb cb : Nat) (hb1 : Below wa.heap.size wa W) (hu : NumRep W (.agg u.toArray) (qb k)) (hma) (hga) (hgx) => half (W1 := W) (wa := wb) (ga := gb) (ca := cb) hBa o5a h5a o8a hrba hvl hva hna (apart_some apa) h5 h0 hbsa hb1 u hu hma hga hgx)
       have HRB := Lib.hid hrba
       have HOA := Lib.hid (show (fun w' => NumRep w' (.agg #[.bool s0, .slice a1 l1 c1, .bool s2, .slice a3 l3 c3, .slice a4 l4 c4]) X) wa from h5a)
       have lt5 := o5a.lt
       have lt8 := o8a.lt
       have o5h := Lib.hid (show (fun w' => Own w' 40 g5 [.bool s0, .slice a1 l1 c1, .bool s2, .slice a3 l3 c3, .slice a4 l4 c4]) wa from o5a)
       have o8h := Lib.hid (show (fun w' => Own w' 145 g8 [.int .i16 p.a0, .int .i16 p.a1, .int .i16 p.b0, .int .i16 p.b1]) wa from o8a)
       clear hBa h5a hna hrba hva apa hma hga hgx
       have c50 := o5a.cell 0 _ rfl; have c51 := o5a.cell 1 _ rfl; have c52 := o5a.cell 2 _ rfl; have c53 := o5a.cell 3 _ rfl; have c54 := o5a.cell 4 _ rfl
       have c80 := o8a.cell 0 _ rfl; have c81 := o8a.cell 1 _ rfl; have c82 := o8a.cell 2 _ rfl; have c83 := o8a.cell 3 _ rfl)
    | (go_simp; go_at_call 72; (with_reducible refine (HB.out wa HOA.out).mono ?_); rintro e1 W2 ⟨_, rfl, hu2, hb2⟩; obtain ⟨t5, t7, b6, b8, b9, m6, n6, m8, n8, m9, n9, rfl⟩ := hu2.open; have hr2 := row_below HRB.out hb2; have HU2 := Lib.hid hu2; have o52 := Own.below o5h.out hb2 lt5; have o82 := Own.below o8h.out hb2 lt8; have lt5 := o52.lt; have lt8 := o82.lt; clear hu2; have c50 := o52.cell 0 _ rfl; have c51 := o52.cell 1 _ rfl; have c52 := o52.cell 2 _ rfl; have c53 := o52.cell 3 _ rfl; have c54 := o52.cell 4 _ rfl; have c80 := o82.cell 0 _ rfl; have c81 := o82.cell 1 _ rfl; have c82 := o82.cell 2 _ rfl; have c83 := o82.cell 3 _ rfl)
    | (refine step_app_num _ rfl (.tmp 33) (.tmp 38) rfl base vb k _ (by rfl) (World.ownsRow.alloc hr2 _) W2.heap.size _ (by rfl) (own_new W2 40 [.bool t5, .slice b6 m6 n6, .bool t7, .slice b8 m8 n8, .slice b9 m9 n9]) rfl one5 (by omega) (by have := hb2.size; simp; omega) ?_; intro gb cb wb hmb hgb hgy
       obtain ⟨_, o5b, _, o8b, _⟩ := HS2.out W2 wb _ gb cb hb2 HU2.out hmb hgb hgy
       have lt5 := o5b.lt
       have lt8 := o8b.lt
       have c50 := o5b.cell 0 _ rfl; have c51 := o5b.cell 1 _ rfl; have c52 := o5b.cell 2 _ rfl; have c53 := o5b.cell 3 _ rfl; have c54 := o5b.cell 4 _ rfl
       have c80 := o8b.cell 0 _ rfl; have c81 := o8b.cell 1 _ rfl; have c82 := o8b.cell 2 _ rfl; have c83 := o8b.cell 3 _ rfl))
  all_goals
    show R _ _
    refine hQ _ _ _ _ _ _ _ _ _ _ _ _ _ _ _ _ _ ?_
    exact vinv_of (HS2.out W2 wb _ gb cb hb2 HU2.out hmb hgb hgy)
end Go.Proofs.YtfkogkcpndaoeaaGreat
namespace Go.Proofs.YtfkogkcpndaoeaaGreat
open Go.RowKit
def qaOf (X : CQ) (l : List Pr) (i : Nat) : CQ := match l[i]? with
  | some p => X.mul (cq p.a0 p.a1 1)
  | none => X
def qbOf (X : CQ) (l : List Pr) (i : Nat) : CQ := match l[i]? with
  | some p => X.mul (cq p.b0 p.b1 1)
  | none => X
theorem qaOf_at {X : CQ} {l : List Pr} {i : Nat} {p : Pr} (h : l[i]? = some p) : qaOf X l i = X.mul (cq p.a0 p.a1 1) := by unfold qaOf; rw [h]
theorem qbOf_at {X : CQ} {l : List Pr} {i : Nat} {p : Pr} (h : l[i]? = some p) : qbOf X l i = X.mul (cq p.b0 p.b1 1) := by unfold qbOf; rw [h]
theorem VInv.below {w0 wr wr' : World} {g5 base k : Nat} {cs5 : List Value} {X : CQ} {qa qb : Nat → CQ} {va vb : Value} (h : VInv w0 wr g5 base k cs5 X qa qb va vb) (hb : Below wr.heap.size wr wr') : VInv w0 wr' g5 base k cs5 X qa qb va vb :=
  ⟨h.hB.trans (hb.mono h.hB.size), h.o5.below hb h.o5.lt, h.h5.below hb (Nat.le_refl _), h.ra.below hb, h.rb.below hb, h.ap, Nat.le_trans h.bs hb.size⟩
set_option maxRecDepth 100000 in
set_option maxHeartbeats 1600000 in
theorem values_yes (v : Value) (f : Fr) (S e : Nat) (w : World) (h : FrRep w v f) (hv : f.valid = true) (hw : Widens f.scale 0 S 0) (hS : Fin S) (hF0 : Fin 0) (hs : Small e ⟨fq S, fq 0⟩) (he : e ≤ 1000000) (he2 : 16 ≤ e) :
    Calls Tryz.prog 33 #[v] w (Ret w fun w' v' => ∃ va vb base, v' = .tuple #[va, vb, .int .i64 0] ∧ NumsRow w' base va f.pairs.length (qaOf ⟨fq S, fq 0⟩ f.pairs) ∧ NumsRow w' base vb f.pairs.length (qbOf ⟨fq S, fq 0⟩ f.pairs)) := by
  obtain ⟨⟨hn1, hn2⟩, hml, -⟩ := Fr.valid_iff.1 hv
  have H := Lib.hid hv
  have hC := fun w => complex64_spec f.scale 0 S 0 w hw hS hF0
  generalize hX : (⟨fq S, fq 0⟩ : CQ) = X at *
  have HC := Lib.hid hC
  have HSm := Lib.hid hs
  clear hv hml hw hS hF0 hs hC hX
  obtain ⟨vm, vp, rfl, hm, hp, hok⟩ := h
  have hf : FrRep w _ f := ⟨_, _, rfl, hm, hp, hok⟩
  obtain ⟨am, lm, cm, rfl, Hlm, hcm, hmm, -⟩ := hm.any
  obtain ⟨ap, lp, cp, rfl, Hlp, hcp, hmp, -⟩ := hp.any
  have hlp1 : 1 ≤ lp := by have := Hlp.out; omega
  have hlp8 : lp ≤ 8 := by have := Hlp.out; omega
  have Hok := Lib.hid hok
  clear hok hn1 hn2
  go_enter Tryz.func33, Tryz.ntmps33
  go_upto_region 1 with (fail)
  obtain ⟨W, hW, o1, hB, hS⟩ := boxes1 w 92 [.int .u32 (f.seq : Int), .int .i64 f.point, .int .i64 f.source, .int .i64 f.turn, .float .f32 f.scale, .slice am lm cm, .slice ap lp cp]
  rw [← hW]
  clear hW
  have hfW := hf.below hB (Nat.le_refl _)
  have fo1 := o1.free; have co10 := o1.cell 0 _ rfl; have co11 := o1.cell 1 _ rfl; have co12 := o1.cell 2 _ rfl; have co13 := o1.cell 3 _ rfl; have co14 := o1.cell 4 _ rfl; have co15 := o1.cell 5 _ rfl; have co16 := o1.cell 6 _ rfl
  go_wp2_with fail
  refine (valid_spec _ f W hfW).mono ?_
  rintro e0 W1 ⟨_, rfl, rfl, hb1⟩
  rw [H.out]
  clear co10 co11 co12 co13 co14 co15 co16 fo1 hfW
  have hsW1 : W.heap.size ≤ W1.heap.size := hb1.size; have hB := hB.trans (hb1.mono hB.size); have o1 := o1.below hb1 o1.lt; have fo1 := o1.free; have co10 := o1.cell 0 _ rfl; have co11 := o1.cell 1 _ rfl; have co12 := o1.cell 2 _ rfl; have co13 := o1.cell 3 _ rfl; have co14 := o1.cell 4 _ rfl; have co15 := o1.cell 5 _ rfl; have co16 := o1.cell 6 _ rfl
  go_wp2_with fail
  refine (HC.out W1).mono ?_
  rintro e0 W2 ⟨_, rfl, ⟨u, rfl, hu⟩, hb2⟩
  obtain ⟨t0, t2, b1, b3, b4, m1, n1, m3, n3, m4, n4, rfl⟩ := hu.open
  clear co10 co11 co12 co13 co14 co15 co16 fo1
  have hsW2 : W1.heap.size ≤ W2.heap.size := hb2.size; have hB := hB.trans (hb2.mono hB.size); have o1 := o1.below hb2 o1.lt
  go_upto_region 4 with (fail)
  obtain ⟨V, hV, o5, hBV, hSV⟩ := boxes1 W2 40 [.bool t0, .slice b1 m1 n1, .bool t2, .slice b3 m3 n3, .slice b4 m4 n4]
  rw [← hV]
  clear hV
  have hsV : W2.heap.size ≤ V.heap.size := hBV.size; have hB := hB.trans (hBV.mono hB.size); have o1 := o1.below hBV o1.lt; have hu := hu.below hBV (Nat.le_refl _)
  have hl5 := o5.lt
  generalize W2.heap.size = g5 at *
  have fo1 := o1.free; have co10 := o1.cell 0 _ rfl; have co11 := o1.cell 1 _ rfl; have co12 := o1.cell 2 _ rfl; have co13 := o1.cell 3 _ rfl; have co14 := o1.cell 4 _ rfl; have co15 := o1.cell 5 _ rfl; have co16 := o1.cell 6 _ rfl
  go_wp2_with fail
  clear co10 co11 co12 co13 co14 co15 co16 fo1 o1
  have hI : VInv w V g5 V.heap.size 0 [.bool t0, .slice b1 m1 n1, .bool t2, .slice b3 m3 n3, .slice b4 m4 n4] X (qaOf X f.pairs) (qbOf X f.pairs) (.slice none 0 0) (.slice none 0 0) :=
    ⟨hB, o5, hu, ⟨[], rfl, World.ownsRow_nil _ _ _ _, fun i u hu => by simp at hu⟩, ⟨[], rfl, World.ownsRow_nil _ _ _ _, fun i u hu => by simp at hu⟩, .inl rfl, Nat.le_refl _⟩
  have hV0 : w.heap.size ≤ V.heap.size := hB.size
  clear o5 hu hB
  generalize V.heap.size = base at *
  go_loopw [2, 3, 22] (fun sa sb iv wr => ∃ k : Nat, k ≤ lp ∧ iv = .int .i64 (k : Int) ∧ VInv w wr g5 base k [.bool t0, .slice b1 m1 n1, .bool t2, .slice b3 m3 n3, .slice b4 m4 n4] X (qaOf X f.pairs) (qbOf X f.pairs) sa sb) (fun _ _ i _ => lp - (intOf i).toNat)
  case atStart => exact ⟨0, Nat.zero_le _, rfl, hI⟩
  case round =>
    clear hI
    obtain ⟨k, hk, rfl, hI⟩ := hrel
    by_cases hlt : k < lp
    · obtain ⟨p, hpk⟩ : ∃ p, f.pairs[k]? = some p := ⟨_, List.getElem?_eq_getElem (by have := Hlp.out; omega)⟩
      obtain ⟨bp, op, rfl, q0, q1, q2, q3⟩ := (hp.below hI.hB (Nat.le_refl _)).at hpk
      have hpo := Hok.out.pairs p (List.mem_of_getElem? hpk)
      have HQA := Lib.hid (qaOf_at (X := X) hpk)
      have HQB := Lib.hid (qbOf_at (X := X) hpk)
      have HPO := Lib.hid hpo
      clear hpk hpo
      go_upto_region 7 with (fail)
      obtain ⟨V2, hV2, ob, hBV2, hSV2⟩ := boxes1 wr 145 [.int .i16 p.a0, .int .i16 p.a1, .int .i16 p.b0, .int .i16 p.b1]
      rw [← hV2]
      clear hV2 q0 q1 q2 q3
      replace hI := hI.below hBV2
      refine only_of (vreg7 t0 t2 b1 b3 b4 m1 n1 m3 n3 m4 n4 g5 wr.heap.size base k e X (qaOf X f.pairs) (qbOf X f.pairs) p _ _ w V2 hI ob HPO.out hV0 hl5 (by omega) HSm.out he he2 HQA.out HQB.out ?_)
      clear hI
      intro w' ya yb x26 x27 x28 x29 x30 x31 x32 x33 x34 x35 x36 x37 x38 x39 hI
      try simp only [Exit.then]
      go_wp2_with fail
      go_roundw
      case rel => exact ⟨k + 1, by omega, by go_num, hI⟩
      case measure => simp [intOf]; omega
    · obtain rfl : k = lp := by omega
      go_wp2_with fail
      exact bodyPost_ret (by simp [results, Tryz.results33, go_sem]; exact ⟨rfl, rfl⟩) rfl ⟨_, rfl, ⟨_, _, base, rfl, by rw [Hlp.out]; exact hI.ra, by rw [Hlp.out]; exact hI.rb⟩, hI.hB⟩
end Go.Proofs.YtfkogkcpndaoeaaGreat
