/- append of many elements to an own row, in terms of the elements. Conditions: some element. square: all matrices square, of one size from 1 to 8. Conditions: at most 1000 matrices. -/
import Derived.Test.YtpnfdlnhmhekeaaGreatMKept
set_option linter.all false
namespace Go.Proofs.YtpnfdlnhmhekeaaGreat
open Go.RowKit
variable {α : Type} {R : World → List Value → α → Prop} {T : TypeId} {size : Nat} {ts : List TypeId}
theorem SlOf.lists {w : World} {b o n c : Nat} {l : List α} (h : SlOf R size w (.slice (some ⟨b, o, none⟩) n c) l) :
    ∃ us : List (List Value), us.length = l.length ∧ ∀ i x, l[i]? = some x → ∃ u, us[i]? = some u ∧ u.length = size ∧ R w u x ∧ ∀ j y, u[j]? = some y → w.cell? ⟨b, o + i * size + j, none⟩ = some y := by
  obtain ⟨a, c', h1, _, _, h2⟩ := h
  injection h1 with h1 _ _
  subst h1
  have key : ∀ k, k ≤ l.length → ∃ us : List (List Value), us.length = k ∧ ∀ i x, i < k → l[i]? = some x → ∃ u, us[i]? = some u ∧ u.length = size ∧ R w u x ∧ ∀ j y, u[j]? = some y → w.cell? ⟨b, o + i * size + j, none⟩ = some y := by
    intro k
    induction k with
    | zero => intro _; exact ⟨[], rfl, fun i x hi => by omega⟩
    | succ k ih =>
      intro hk
      obtain ⟨us, hul, hus⟩ := ih (by omega)
      obtain ⟨b', o', u, e1, e2, e3, e4⟩ := h2 k _ (List.getElem?_eq_getElem (by omega))
      injection e1 with e1
      injection e1 with e5 e6 _
      subst e5 e6
      refine ⟨us ++ [u], by simp [hul], fun i x hi hx => ?_⟩
      rcases Nat.lt_or_ge i k with hik | hik
      · obtain ⟨u', h3, h4⟩ := hus i x hik hx
        exact ⟨u', by rw [List.getElem?_append_left (by omega)]; exact h3, h4⟩
      · obtain rfl : i = k := by omega
        rw [List.getElem?_eq_getElem (by omega)] at hx
        obtain rfl := Option.some.inj hx
        exact ⟨u, by rw [List.getElem?_append_right (by omega), hul]; simp, e2, e3, e4⟩
  obtain ⟨us, hul, hus⟩ := key l.length (Nat.le_refl _)
  exact ⟨us, hul, fun i x hx => hus i x (List.getElem?_eq_some_iff.1 hx).1 hx⟩
theorem flat_len {us : List (List Value)} (h : ∀ u ∈ us, u.length = size) : us.flatten.length = us.length * size := by
  induction us with
  | nil => simp
  | cons u us ih =>
    rw [List.flatten_cons, List.length_append, ih fun x hx => h x (List.mem_cons_of_mem _ hx), h u List.mem_cons_self, List.length_cons, Nat.succ_mul, Nat.add_comm]
theorem append_many {ops : Array Oper} {rest : List Oper} {o : Oper} {a : Act} {Q : Exit → Act → World → Prop} (W : World) (hgd : o.guard = none) (s x : Operand) (t e : TypeId) (z : Value) (size bytes : Nat)
    (ho : o.op = .call { callee := .builtin .append, args := #[s, x], argTypes := #[t, t] }) (ht : Tryz.prog.underlying t = some (.slice e)) (hinfo : (Tryz.prog.info? e).map (fun i => (i.zero, i.size, i.bytes)) = some (some z, size, bytes)) (hzs : z.cells.size = size) (hsz : 0 < size) (hby : bytes ≤ 1000)
    (base : Nat) (v : Value) (n : Nat) (l l2 : List α) (hS : Stable R ts) (hT : e ∉ ts) (hone : ∀ w u x, R w u x → ∀ y ∈ u, y.oneCell' = true) (hs : a.eval s = v) (hO : RowOf R e size W base v l) (hl : l.length = n)
    (ad : Option Addr) (m c : Nat) (hx : a.eval x = .slice ad m c) (hsrc : SlOf R size W (.slice ad m c) l2) (h0 : 0 < m) (hn : n + m ≤ 1000000) (hbase : base ≤ W.heap.size)
    (K : ∀ g cap w', RowOf R e size w' base (.slice (some ⟨g, 0, none⟩) (n + m) cap) (l ++ l2) → Below base W w' → W.grownBy w' v.ownBlock → base ≤ w'.heap.size → wpList Tryz.prog ops Q rest (a.put o.dst (.slice (some ⟨g, 0, none⟩) (n + m) cap)) w') :
    wpList Tryz.prog ops Q (o :: rest) a W := by
  obtain ⟨i0, hi, hz0, hz1, hz2⟩ := info_parts hinfo
  obtain ⟨us, hul, hr, hus⟩ := hO
  rw [hl] at hr hul
  have hm : l2.length = m := by
    obtain ⟨_, _, h1, _⟩ := hsrc
    exact (Value.slice.inj h1).2.1.symm
  obtain ⟨b, of, rfl⟩ : ∃ b of, ad = some ⟨b, of, none⟩ := by
    obtain ⟨b, of, u, e1, _⟩ := hsrc.get (List.getElem?_eq_getElem (show 0 < l2.length by omega))
    exact ⟨b, of, e1⟩
  obtain ⟨vs, hvl, hvs⟩ := hsrc.lists
  rw [hm] at hvl
  have hvlen : ∀ u ∈ vs, u.length = size := by
    intro u hu
    obtain ⟨i, hi⟩ := List.getElem?_of_mem hu
    have hil : i < l2.length := by rw [hm, ← hvl]; exact (List.getElem?_eq_some_iff.1 hi).1
    obtain ⟨u', h1, h2, _⟩ := hvs i _ (List.getElem?_eq_getElem hil)
    rw [hi] at h1
    rw [Option.some.inj h1]
    exact h2
  have hflat : vs.flatten.length = m * size := by rw [flat_len hvlen, hvl]
  have hcell : ∀ j u, vs.flatten[j]? = some u → ∃ i r u', j = i * size + r ∧ i < m ∧ vs[i]? = some u' ∧ u'[r]? = some u := fun j u hj => by
    have hjl : j < m * size := by rw [← hflat]; exact (List.getElem?_eq_some_iff.1 hj).1
    have hi : j / size < m := (Nat.div_lt_iff_lt_mul hsz).2 hjl
    have hrl : j % size < size := Nat.mod_lt _ hsz
    obtain ⟨u', h1, h2, _⟩ := hvs (j / size) _ (List.getElem?_eq_getElem (show j / size < l2.length by omega))
    have h3 : u'[j % size]? = some (u'[j % size]'(by omega)) := List.getElem?_eq_getElem (by omega)
    have h4 := flatten_at hvlen h1 h3
    have h5 : j / size * size + j % size = j := by rw [Nat.mul_comm]; exact Nat.div_add_mod j size
    rw [h5, hj] at h4
    exact ⟨j / size, j % size, u', h5.symm, hi, h1, by rw [h3]; exact h4.symm⟩
  have hby2 : (n + m) * bytes ≤ 1000000 * 1000 := Nat.mul_le_mul hn hby
  refine wpList_append_lies W hgd s x t ho base e i0 z size bytes ht hi hz0 hz1 hz2 hzs hsz v n us.flatten hs hr ⟨b, of, none⟩ m c vs.flatten hx hflat (fun j u hj => ?_) (fun u hu => ?_) h0 (by unfold maxLen; omega) (by omega) hbase _ rfl fun g cap w' h1 h2 h3 h4 => ?_
  · obtain ⟨i, r, u', rfl, him, h1, h2⟩ := hcell j u hj
    obtain ⟨u'', h3, _, _, h5⟩ := hvs i _ (List.getElem?_eq_getElem (show i < l2.length by omega))
    rw [h1] at h3
    obtain rfl := Option.some.inj h3
    rw [Addr.add_lit, ← Nat.add_assoc]
    exact h5 r u h2
  · obtain ⟨j, hj⟩ := List.getElem?_of_mem hu
    obtain ⟨i, r, u', rfl, him, h1, h2⟩ := hcell j u hj
    obtain ⟨u'', h3, _, h4, _⟩ := hvs i _ (List.getElem?_eq_getElem (show i < l2.length by omega))
    rw [h1] at h3
    obtain rfl := Option.some.inj h3
    exact hone W _ _ h4 u (List.mem_of_getElem? h2)
  · refine K g cap w' ⟨us ++ vs, by simp [hul, hvl, hm, hl], ?_, fun i u y hu hy => ?_⟩ (below_row (Below.refl base W) hr h2 (Nat.le_refl _) hbase) h2 (by have := h2.size; omega)
    · rw [List.length_append, hl, hm, List.flatten_append]
      exact h1
    · rcases Nat.lt_or_ge i us.length with hi' | hi'
      · rw [List.getElem?_append_left hi'] at hu
        rw [List.getElem?_append_left (by omega)] at hy
        exact ⟨(hus i u y hu hy).1, hS.row (hus i u y hu hy).2 hr hT h2⟩
      · rw [List.getElem?_append_right hi'] at hu
        rw [List.getElem?_append_right (by omega)] at hy
        obtain ⟨u', h5, h6, h7, _⟩ := hvs (i - us.length) y (by rw [hul, ← hl]; exact hy)
        rw [hu] at h5
        obtain rfl := Option.some.inj h5
        exact ⟨h6, hS.row h7 hr hT h2⟩
theorem one_num : ∀ w u (x : CQ), NumC w u x → ∀ y ∈ u, y.oneCell' = true := fun w u x h => by
  have hR2 : NumRep w (.agg u.toArray) x := h
  obtain ⟨s0, s2, a1, a3, a4, l1, m1, l3, m3, l4, m4, hx1⟩ := hR2.open
  have hv1 : u = [.bool s0, .slice a1 l1 m1, .bool s2, .slice a3 l3 m3, .slice a4 l4 m4] := by injection hx1 with h; exact List.toArray_inj h
  subst hv1
  exact one5
theorem one_cellT : ∀ w u (x : List α), CellT R T size w u x → ∀ y ∈ u, y.oneCell' = true := fun w u x h => by
  obtain ⟨v, rfl, h⟩ := h
  obtain ⟨a, c, rfl⟩ := slT_shape h
  exact oneS
end Go.Proofs.YtpnfdlnhmhekeaaGreat
namespace Go.Proofs.YtpnfdlnhmhekeaaGreat
open Go.RowKit
def matN (n : Nat) (m : List (List CQ)) : Bool := decide (m.length = n) && inR (n : Int) 1 8 && m.all (fun r => decide (r.length = n))
def squareB (l : List (List (List CQ))) : Bool := match l with
  | [] => true
  | m :: _ => l.all (matN m.length)
theorem squareB_at {l : List (List (List CQ))} {m : List (List CQ)} (h : l[0]? = some m) : squareB l = l.all (matN m.length) := by
  cases l with
  | nil => simp at h
  | cons a l =>
    simp at h
    subst h
    rfl
theorem NumSt.mat {w : World} {a : Option Addr} {n c i : Nat} {l : List (List (List CQ))} {m : List (List CQ)} (h : NumSt w (.slice a n c) l) (hi : l[i]? = some m) :
    ∃ (b o : Nat) (a' : Option Addr) (c' : Nat), a = some ⟨b, o, none⟩ ∧ b < w.heap.size ∧ w.cell? ⟨b, o + i, none⟩ = some (.slice a' m.length c') ∧ NumMat w (.slice a' m.length c') m ∧ m.length ≤ c' ∧ c' ≤ 9223372036854775807 := by
  obtain ⟨b, o, u, e, hu, hR, hc⟩ := h.1.get hi
  obtain ⟨v, rfl, hv⟩ := hR
  obtain ⟨⟨a', c', rfl, h1, h2, h3⟩, h4⟩ := hv
  have hc0 := hc 0 _ rfl
  rw [Nat.mul_one, Nat.add_zero] at hc0
  exact ⟨b, o, a', c', e, World.block_lt_of_cell? w _ hc0, hc0, ⟨⟨a', c', rfl, h1, h2, h3⟩, h4⟩, h1, h2⟩
theorem NumMat.list {w : World} {a : Option Addr} {n c i : Nat} {m : List (List CQ)} {r : List CQ} (h : NumMat w (.slice a n c) m) (hi : m[i]? = some r) :
    ∃ (b o : Nat) (a' : Option Addr) (c' : Nat), a = some ⟨b, o, none⟩ ∧ b < w.heap.size ∧ w.cell? ⟨b, o + i, none⟩ = some (.slice a' r.length c') ∧ NumSl w (.slice a' r.length c') r ∧ r.length ≤ c' ∧ c' ≤ 9223372036854775807 := by
  obtain ⟨b, o, u, e, hu, hR, hc⟩ := h.1.get hi
  obtain ⟨v, rfl, hv⟩ := hR
  obtain ⟨⟨a', c', rfl, h1, h2, h3⟩, h4⟩ := hv
  have hc0 := hc 0 _ rfl
  rw [Nat.mul_one, Nat.add_zero] at hc0
  exact ⟨b, o, a', c', e, World.block_lt_of_cell? w _ hc0, hc0, ⟨⟨a', c', rfl, h1, h2, h3⟩, h4⟩, h1, h2⟩
theorem NumSt.dims {w : World} {v : Value} {l : List (List (List CQ))} (h : NumSt w v l) : ∃ a c, v = .slice a l.length c ∧ l.length ≤ c ∧ c ≤ 9223372036854775807 := by
  obtain ⟨⟨a, c, h1, h2, h3, _⟩, _⟩ := h
  exact ⟨a, c, h1, h2, h3⟩
theorem NumMat.dims {w : World} {v : Value} {l : List (List CQ)} (h : NumMat w v l) : ∃ a c, v = .slice a l.length c ∧ l.length ≤ c ∧ c ≤ 9223372036854775807 := by
  obtain ⟨⟨a, c, h1, h2, h3, _⟩, _⟩ := h
  exact ⟨a, c, h1, h2, h3⟩
theorem NumSl.dims {w : World} {v : Value} {l : List CQ} (h : NumSl w v l) : ∃ a c, v = .slice a l.length c ∧ l.length ≤ c ∧ c ≤ 9223372036854775807 := by
  obtain ⟨⟨a, c, h1, h2, h3, _⟩, _⟩ := h
  exact ⟨a, c, h1, h2, h3⟩
set_option maxRecDepth 100000 in
set_option maxHeartbeats 3200000 in
theorem square_spec (v : Value) (l : List (List (List CQ))) (w : World) (h : NumSt w v l) :
    Calls Tryz.prog 49 #[v] w (Ret w fun _ v' => v' = .bool (squareB l)) := by
  obtain ⟨n, hln⟩ : ∃ n, l.length = n := ⟨_, rfl⟩
  obtain ⟨a, c, rfl, hc, hc2⟩ := h.dims
  have HL := Lib.hid h
  have HN := Lib.hid hln
  have HF := Lib.hid (show ∀ m0, l[0]? = some m0 → l.all (matN m0.length) = false → squareB l = false from fun m0 h0 h => by rw [squareB_at h0, h])
  have HT := Lib.hid (show (n = 0 ∨ ∀ m0, l[0]? = some m0 → l.all (matN m0.length) = true) → squareB l = true from fun h => by
    rcases h with h | h
    · have : l = [] := List.eq_nil_of_length_eq_zero (by omega)
      subst this
      rfl
    · cases hl0 : l[0]? with
      | none => have : l = [] := List.eq_nil_of_length_eq_zero (by simpa using hl0)
                subst this
                rfl
      | some m0 => rw [squareB_at hl0, h m0 hl0])
  rw [hln] at hc HL ⊢
  clear h hln
  generalize squareB l = r at *
  go_enter Tryz.func49, Tryz.ntmps49
  go_wp2_with fail
  go_loopw [10] (fun iv wr => ∃ k : Nat, k ≤ n ∧ iv = .int .i64 (k : Int) ∧ Below w.heap.size w wr ∧ Hid (∀ m0, l[0]? = some m0 → (l.take k).all (matN m0.length) = true)) (fun i _ => n - (intOf i).toNat)
  case atStart => exact ⟨0, Nat.zero_le _, rfl, Below.refl _ _, fun _ _ => rfl⟩
  case round =>
    obtain ⟨k, hk, rfl, hB, hall⟩ := hrel
    by_cases hlt : k < n
    · obtain ⟨m, hm⟩ : ∃ m, l[k]? = some m := ⟨_, List.getElem?_eq_getElem (by have := HN.out; omega)⟩
      obtain ⟨m0, hm0⟩ : ∃ m, l[0]? = some m := ⟨_, List.getElem?_eq_getElem (by have := HN.out; omega)⟩
      obtain ⟨b, o, a1, c1, rfl, hbl, e0, hmat, hc1, hc12⟩ := (HL.out.below hB (Nat.le_refl _)).mat hm
      obtain ⟨b', o', a2, c2, hab, -, f0, -, -, -⟩ := (HL.out.below hB (Nat.le_refl _)).mat hm0
      injection hab with hab
      injection hab with hb1 ho1 _
      subst hb1 ho1
      simp only [Nat.add_zero] at f0
      obtain ⟨p, hp⟩ : ∃ p, m.length = p := ⟨_, rfl⟩
      obtain ⟨q, hq⟩ : ∃ q, m0.length = q := ⟨_, rfl⟩
      rw [hp] at e0 hmat hc1
      rw [hq] at f0
      have HM := Lib.hid hm
      have HM0 := Lib.hid hm0
      have HP := Lib.hid hp
      have HQ := Lib.hid hq
      clear hm hm0 hp hq
      by_cases hpq : p = q
      · subst hpq
        by_cases hin : inR (p : Int) 1 8 = true
        · obtain ⟨W0, hW0⟩ : ∃ W0 : World, W0 = wr := ⟨_, rfl⟩
          rw [← hW0] at e0 f0 hB hmat
          rw [← hW0]
          clear hW0
          have HMat := Lib.hid hmat
          have HIN := Lib.hid hin
          clear hmat hin
          go_wp2_with (refine (inRange_spec _ _ _ _).mono ?_; rw [HIN.out]; rintro e w' ⟨rfl, rfl⟩)
          clear e0 f0
          go_loopw [29] (fun iv wt => ∃ j : Nat, j ≤ p ∧ iv = .int .i64 (j : Int) ∧ Below W0.heap.size W0 wt ∧ Hid ((m.take j).all (fun r => decide (r.length = p)) = true)) (fun i _ => p - (intOf i).toNat)
          case atStart => exact ⟨0, Nat.zero_le _, rfl, Below.refl _ _, rfl⟩
          case round =>
            obtain ⟨j, hj, rfl, hC, hallj⟩ := hrel
            by_cases hlj : j < p
            · obtain ⟨x, hx⟩ : ∃ x, m[j]? = some x := ⟨_, List.getElem?_eq_getElem (by have := HP.out; omega)⟩
              obtain ⟨b3, o3, a3, c3, rfl, -, e3, -, hc3, hc32⟩ := (HMat.out.below hC (Nat.le_refl _)).list hx
              obtain ⟨y, hy⟩ : ∃ y, x.length = y := ⟨_, rfl⟩
              rw [hy] at e3 hc3
              have HX := Lib.hid hx
              have HY := Lib.hid hy
              clear hx hy
              by_cases hyp : y = p
              · subst hyp
                have hnext := Lib.hid (all_next (p := fun r => decide (r.length = y)) HX.out (by rw [HY.out]; simp) hallj.out)
                go_wp2_with fail
                go_roundw
                case rel => first | exact ⟨j + 1, by omega, by go_num, hC, hnext⟩ | ((repeat apply Exists.intro); exact ⟨⟨j + 1, by omega, by go_num, hC, hnext⟩, rfl⟩)
                case measure => simp [intOf]; omega
              · have hr : r = false := HF.out m0 HM0.out (all_no HM.out (by unfold matN; rw [HQ.out, all_no (p := fun r => decide (r.length = p)) HX.out (by rw [HY.out]; exact decide_eq_false hyp), Bool.and_false]))
                subst hr
                have hyp' : ¬ ((y : Int) = (p : Int)) := by omega
                go_wp2_with fail
                go_ret
                exact ⟨_, rfl, rfl, hB.trans (hC.mono hB.size)⟩
            · obtain rfl : j = p := by omega
              have hrow : m.all (fun r => decide (r.length = j)) = true := by
                have := hallj.out
                rwa [List.take_of_length_le (by have := HP.out; omega)] at this
              have hnext : Hid (∀ m0', l[0]? = some m0' → (l.take (k + 1)).all (matN m0'.length) = true) := fun m0' h0 => by
                have e : m0' = m0 := Option.some.inj (h0.symm.trans HM0.out)
                subst e
                exact all_next HM.out (by unfold matN; rw [HP.out, HQ.out, hrow, HIN.out]; simp) (hall.out _ h0)
              have hB3 := hB.trans (hC.mono hB.size)
              clear hrow
              go_wp2_with fail
              go_roundw
              case rel => first | exact ⟨k + 1, by omega, by go_num, hB3, hnext⟩ | ((repeat apply Exists.intro); exact ⟨⟨k + 1, by omega, by go_num, hB3, hnext⟩, rfl⟩)
              case measure => simp [intOf]; omega
        · have hin' : inR (p : Int) 1 8 = false := by simpa using hin
          have hr : r = false := HF.out m0 HM0.out (all_no HM0.out (by unfold matN; rw [HQ.out, hin']; simp))
          subst hr
          have HIN := Lib.hid hin'
          clear hin hin'
          go_wp2_with (refine (inRange_spec _ _ _ _).mono ?_; rw [HIN.out]; rintro e w' ⟨rfl, rfl⟩)
          go_ret
          exact ⟨_, rfl, rfl, hB⟩
      · have hr : r = false := HF.out m0 HM0.out (all_no HM.out (by unfold matN; rw [HP.out, HQ.out, decide_eq_false hpq]; rfl))
        subst hr
        have hpq' : ¬ ((p : Int) = (q : Int)) := by omega
        go_wp2_with fail
        go_ret
        exact ⟨_, rfl, rfl, hB⟩
    · obtain rfl : k = n := by omega
      have hr : r = true := HT.out (.inr fun m0 h0 => by
        have := hall.out m0 h0
        rwa [List.take_of_length_le (by have := HN.out; omega)] at this)
      subst hr
      go_wp2_with fail
      go_ret
      exact ⟨_, rfl, rfl, hB⟩
end Go.Proofs.YtpnfdlnhmhekeaaGreat
