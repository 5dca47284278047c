/- Lists and matrices of numbers out of plain data. Conditions: at most 1000 elements each. Matrices and stacks of numbers out of plain data, of the program and of the reference. Conditions: at most 1000 elements each. little, fewWaves: how large the plain data of a sweep is. Conditions: none. -/
import Derived.Test.YtfkogkcpndaoeaaGreatMNest
import Derived.Test.YtfkogkcpndaoeaaGreatMOf
import Derived.Test.YtfkogkcpndaoeaaGreatMOne
set_option linter.all false
namespace Go.Proofs.YtfkogkcpndaoeaaGreat
open Go.RowKit
def RatC (_ : World) (u : List Value) (x : Rt) : Prop := u = x.cells ∧ x.ok
theorem rat_firm : Firm RatC := ⟨fun h _ _ => h⟩
theorem RowOf.spot {α : Type} {R : World → List Value → α → Prop} {T : TypeId} {size : Nat} {w : World} {base g n c i : Nat} {l : List α} (h : RowOf R T size w base (.slice (some ⟨g, 0, none⟩) n c) l) (hi : i < l.length) :
    ∃ u : List Value, u.length = size ∧ ∀ j y, u[j]? = some y → w.cell? ⟨g, i * size + j, none⟩ = some y := by
  obtain ⟨a, c', h1, _, _, h2⟩ := h.sl
  injection h1 with h1 _ _
  obtain ⟨b, o, u, e1, e2, _, e3⟩ := h2 i _ (List.getElem?_eq_getElem hi)
  rw [← h1] at e1
  injection e1 with e1
  injection e1 with e4 e5 _
  subst e4 e5
  exact ⟨u, e2, fun j y hj => by have := e3 j y hj; rwa [Nat.zero_add] at this⟩
theorem RowOf.free {α : Type} {R : World → List Value → α → Prop} {T : TypeId} {size : Nat} {w : World} {base g n c : Nat} {l : List α} (h : RowOf R T size w base (.slice (some ⟨g, 0, none⟩) n c) l) (j : Nat) : w.frozen? ⟨g, j, none⟩ = false := by
  obtain ⟨us, _, hr, _⟩ := h
  have hn : n = l.length := by
    rcases hr.2 with ⟨e, _⟩ | ⟨g', cap, cur, e, _⟩
    · cases e
    · injection e
  subst hn
  exact hr.frozenAt j
theorem SlOf.get {α : Type} {R : World → List Value → α → Prop} {size : Nat} {w : World} {a : Option Addr} {n c i : Nat} {l : List α} {x : α} (h : SlOf R size w (.slice a n c) l) (hi : l[i]? = some x) :
    ∃ b o u, a = some ⟨b, o, none⟩ ∧ u.length = size ∧ R w u x ∧ ∀ j y, u[j]? = some y → w.cell? ⟨b, o + i * size + j, none⟩ = some y := by
  obtain ⟨a', c', h1, _, _, h2⟩ := h
  injection h1 with h1 _ _
  subst h1
  exact h2 i x hi
set_option maxRecDepth 100000 in
set_option maxHeartbeats 1600000 in
theorem list_spec (v : Value) (l : List Rt) (w : World) (h : SlOf RatC 3 w v l) (hn : l.length ≤ 1000) :
    Calls Tryz.prog 46 #[v] w (Ret w fun w' v' => RowOf NumC 40 5 w' w.heap.size v' (l.map Rt.q)) := by
  obtain ⟨n, hln⟩ : ∃ n, l.length = n := ⟨_, rfl⟩
  obtain ⟨a, c, rfl, hc, hc2, -⟩ := id h
  have HL := Lib.hid h
  have HN := Lib.hid hln
  rw [hln] at hn hc ⊢
  rw [hln] at HL
  clear h hln
  go_enter Tryz.func46, Tryz.ntmps46
  go_wp2_with (at_make; refine make_row (R := NumC) _ rfl _ _ 40 _ 5 88 rfl Tryz.underlying49 info_num rfl (by omega) (by omega) _ n rfl rfl (by omega) (cq 0 0 1) (fun w => num_nil) ?_; intro w1 hr1 hb1 hs1)
  go_loopw [11] (fun iv wr => ∃ k : Nat, k ≤ n ∧ iv = .int .i64 (k : Int) ∧ RowOf NumC 40 5 wr w.heap.size (.slice (some ⟨w.heap.size, 0, none⟩) n n) (fillTo (l.map Rt.q) (cq 0 0 1) k) ∧ Below w.heap.size w wr ∧ w.heap.size < wr.heap.size) (fun i _ => n - (intOf i).toNat)
  case atStart => exact ⟨0, Nat.zero_le _, rfl, by rw [fillTo_zero, List.length_map, HN.out]; exact hr1, hb1, by omega⟩
  case round =>
    clear hr1 hb1 hs1
    obtain ⟨k, hk, rfl, hI, hB, hlw⟩ := hrel
    by_cases hlt : k < n
    · obtain ⟨r, hr⟩ : ∃ r, l[k]? = some r := ⟨_, List.getElem?_eq_getElem (by have := HN.out; omega)⟩
      obtain ⟨b1, o1, u1, rfl, -, ⟨rfl, hok⟩, hq⟩ := HL.out.get hr
      have l1 : b1 < w.heap.size := World.block_lt_of_cell? w _ (hq 0 _ rfl)
      have e0 : wr.cell? ⟨b1, o1 + k * 3, none⟩ = some (.int .i64 r.re) := (hB.cell l1).trans (hq 0 _ rfl)
      have e1 : wr.cell? ⟨b1, o1 + k * 3 + 1, none⟩ = some (.int .i64 r.im) := (hB.cell l1).trans (hq 1 _ rfl)
      have e2 : wr.cell? ⟨b1, o1 + k * 3 + 2, none⟩ = some (.int .i64 r.den) := (hB.cell l1).trans (hq 2 _ rfl)
      have HR := Lib.hid hr
      clear hq hr
      go_upto_region 5 with (fail)
      obtain ⟨V, hV, oV, hBV, hSV⟩ := boxes1 wr 23 [.int .i64 r.re, .int .i64 r.im, .int .i64 r.den]
      rw [← hV]
      clear hV e0 e1 e2
      have hI2 := hI.below num_stable hBV
      have hB2 : Below w.heap.size w V := hB.trans (hBV.mono hB.size)
      have foV := oV.free; have coV0 := oV.cell 0 _ rfl; have coV1 := oV.cell 1 _ rfl; have coV2 := oV.cell 2 _ rfl
      go_wp2_with fail
      refine (ofAny_spec r V hok).mono ?_
      rintro e W1 ⟨u, rfl, hu, hb1⟩
      obtain ⟨t0, t2, p1, p3, p4, m1, n1, m3, n3, m4, n4, rfl⟩ := hu.open
      have hI3 := hI2.below num_stable hb1
      have hB3 : Below w.heap.size w W1 := hB2.trans (hb1.mono hB2.size)
      have hk' : k < (fillTo (l.map Rt.q) (cq 0 0 1) k).length := by rw [fillTo_len _ _ (by rw [List.length_map, HN.out]; omega), List.length_map, HN.out]; exact hlt
      have hth := hI3.there hk'
      have hp := RowOf.store (u := [.bool t0, .slice p1 m1 n1, .bool t2, .slice p3 m3 n3, .slice p4 m4 n4]) num_stable (by decide) hI3 hk' rfl (show NumC W1 _ r.q from hu)
      rw [fillTo_set (show (l.map Rt.q)[k]? = some r.q by rw [List.getElem?_map, HR.out]; rfl)] at hp
      obtain ⟨hp1, -, hp2, hp3⟩ := hp
      have hlt1 : w.heap.size < W1.heap.size := by have := hBV.size; have := hb1.size; omega
      clear coV0 coV1 coV2 foV oV hI hI2 hI3 hk'
      go_wp2_with (((with_reducible show wpList _ _ _ (Oper.mk _ (Op.store _ _ _) _ _ _ _ :: _) _ _)); refine wpList_store_mid rfl 40 (.tmp 20) (.tmp 19) rfl w.heap.size (k * 5) #[.bool t0, .slice p1 m1 n1, .bool t2, .slice p3 m3 n3, .slice p4 m4 n4] rfl rfl hth (by kernel_rfl) (all_oneCell_toArray one5) ?_)
      go_roundw
      case rel => exact ⟨k + 1, by omega, by go_num, hp1, hB3.trans hp2, Nat.lt_of_lt_of_le hlt1 hp3⟩
      case measure => simp [intOf]; omega
    · obtain rfl : k = n := by omega
      rw [← HN.out, ← List.length_map (f := Rt.q), fillTo_all, List.length_map, HN.out] at hI
      go_wp2_with fail
      go_ret
      exact ⟨_, rfl, hI, hB⟩
end Go.Proofs.YtfkogkcpndaoeaaGreat
namespace Go.Proofs.YtfkogkcpndaoeaaGreat
open Go.RowKit
theorem info_nums : (Tryz.prog.info? 49).map (fun i => (i.zero, i.size, i.bytes)) = some (some (.slice none 0 0), 1, 24) := by kernel_rfl
theorem info_rows : (Tryz.prog.info? 64).map (fun i => (i.zero, i.size, i.bytes)) = some (some (.slice none 0 0), 1, 24) := by kernel_rfl
theorem info_qs : (Tryz.prog.info? 53).map (fun i => (i.zero, i.size, i.bytes)) = some (some (.slice none 0 0), 1, 24) := by kernel_rfl
theorem info_qrows : (Tryz.prog.info? 76).map (fun i => (i.zero, i.size, i.bytes)) = some (some (.slice none 0 0), 1, 24) := by kernel_rfl
theorem oneS {v : Option Addr} {n c : Nat} : ∀ u ∈ ([.slice v n c] : List Value), u.oneCell' = true := by
  intro u hu
  simp only [List.mem_cons, List.not_mem_nil, or_false] at hu
  subst hu
  rfl
theorem oneN {s1 s2 : Bool} {a1 a2 a3 : Option Addr} {l1 c1 l2 c2 l3 c3 : Nat} : ∀ u ∈ ([.bool s1, .slice a1 l1 c1, .bool s2, .slice a2 l2 c2, .slice a3 l3 c3] : List Value), u.oneCell' = true := by
  intro u hu
  simp only [List.mem_cons, List.not_mem_nil, or_false] at hu
  rcases hu with rfl | rfl | rfl | rfl | rfl <;> rfl
abbrev NumsC := CellT NumC 40 5
abbrev NumsM := CellT NumsC 49 1
theorem nums_stable : Stable NumsC [40, 28] := CellT.stable num_stable
theorem numsM_stable : Stable NumsM [49, 40, 28] := CellT.stable nums_stable
abbrev QsC := CellT QC 46 5
abbrev QsM := CellT QsC 53 1
theorem qs_stable : Stable QsC [46, 28] := CellT.stable q_stable
theorem qsM_stable : Stable QsM [53, 46, 28] := CellT.stable qs_stable
abbrev NumsP (p : Nat → Prop) := CellP p NumC 40 5
abbrev NumsMP (p : Nat → Prop) := CellT (NumsP p) 49 1
theorem numsP_stable (p : Nat → Prop) : Stable (NumsP p) [40, 28] := CellP.stable num_stable
theorem numsMP_stable (p : Nat → Prop) : Stable (NumsMP p) [49, 40, 28] := CellT.stable (numsP_stable p)
theorem CellT.map {α : Type} {R R' : World → List Value → α → Prop} {T : TypeId} {size : Nat} {w : World} {u : List Value} {x : List α} (h : CellT R T size w u x) (hR : ∀ u x, R w u x → R' w u x) : CellT R' T size w u x := by
  obtain ⟨v, e, h⟩ := h
  exact ⟨v, e, h.lift hR (fun _ _ => rfl)⟩
theorem NumsMP.plain {p : Nat → Prop} {w : World} {u : List Value} {x : List (List CQ)} (h : NumsMP p w u x) : NumsM w u x := CellT.map h (fun _ _ h => h.cellT)
theorem NumsMP.weaken {p q : Nat → Prop} {w : World} {u : List Value} {x : List (List CQ)} (h : NumsMP p w u x) (hpq : ∀ b, b < w.heap.size → p b → q b) : NumsMP q w u x := CellT.map h (fun _ _ h => h.weaken hpq)
theorem nil_slT {α : Type} {R : World → List Value → α → Prop} {T : TypeId} {size : Nat} {w : World} : SlT R T size w (.slice none 0 0) [] := (RowOf.nil R T size w 0).slT
theorem slT_shape {α : Type} {R : World → List Value → α → Prop} {T : TypeId} {size : Nat} {w : World} {v : Value} {l : List α} (h : SlT R T size w v l) : ∃ a c, v = .slice a l.length c := by
  obtain ⟨⟨a, c, h, _⟩, _⟩ := h
  exact ⟨a, c, h⟩
theorem RowOf.shape {α : Type} {R : World → List Value → α → Prop} {T : TypeId} {size base : Nat} {w : World} {v : Value} {l : List α} (h : RowOf R T size w base v l) : ∃ a c, v = .slice a l.length c := slT_shape h.slT
set_option maxRecDepth 100000 in
set_option maxHeartbeats 1600000 in
theorem rows_spec (v : Value) (m : List (List Rt)) (w : World) (h : SlOf (CellSl RatC 3) 1 w v m) (hn : m.length ≤ 1000) (hm : ∀ l ∈ m, l.length ≤ 1000) :
    Calls Tryz.prog 24 #[v] w (Ret w fun w' v' => RowOf (NumsP (fun b => w.heap.size ≤ b)) 49 1 w' w.heap.size v' (m.map (List.map Rt.q))) := by
  obtain ⟨n, hln⟩ : ∃ n, m.length = n := ⟨_, rfl⟩
  obtain ⟨a, c, rfl, hc, hc2, -⟩ := id h
  have HL := Lib.hid h
  have HN := Lib.hid hln
  have HM := Lib.hid hm
  rw [hln] at hn hc ⊢
  rw [hln] at HL
  clear h hln hm
  go_enter Tryz.func24, Tryz.ntmps24
  go_wp2_with (at_make; refine make_row (R := NumsP (fun b => w.heap.size ≤ b)) _ rfl _ _ 49 _ 1 24 rfl Tryz.underlying64 info_nums rfl (by omega) (by omega) _ n rfl rfl (by omega) [] (fun w => ⟨_, rfl, nil_slT, fun b hb => by cases hb⟩) ?_; intro w1 hr1 hb1 hs1)
  go_loopw [11] (fun iv wr => ∃ k : Nat, k ≤ n ∧ iv = .int .i64 (k : Int) ∧ RowOf (NumsP (fun b => w.heap.size ≤ b)) 49 1 wr w.heap.size (.slice (some ⟨w.heap.size, 0, none⟩) n n) (fillTo (m.map (List.map Rt.q)) [] k) ∧ Below w.heap.size w wr ∧ w.heap.size < wr.heap.size) (fun i _ => n - (intOf i).toNat)
  case atStart => exact ⟨0, Nat.zero_le _, rfl, by rw [fillTo_zero, List.length_map, HN.out]; exact hr1, hb1, by omega⟩
  case round =>
    clear hr1 hb1 hs1
    obtain ⟨k, hk, rfl, hI, hB, hlw⟩ := hrel
    by_cases hlt : k < n
    · obtain ⟨r, hr⟩ : ∃ r, m[k]? = some r := ⟨_, List.getElem?_eq_getElem (by have := HN.out; omega)⟩
      obtain ⟨b1, o1, u1, rfl, -, ⟨sv, rfl, hsv⟩, hq⟩ := HL.out.get hr
      have l1 : b1 < w.heap.size := World.block_lt_of_cell? w _ (hq 0 _ rfl)
      have e0 : wr.cell? ⟨b1, o1 + k, none⟩ = some sv := by have := (hB.cell l1).trans (hq 0 _ rfl); rwa [Nat.mul_one, Nat.add_zero] at this
      have hrl : r.length ≤ 1000 := HM.out r (List.mem_of_getElem? hr)
      have hsv2 := hsv.firm rat_firm hB (Nat.le_refl _)
      have HR := Lib.hid hr
      have hk' : k < (fillTo (m.map (List.map Rt.q)) [] k).length := by rw [fillTo_len _ _ (by rw [List.length_map, HN.out]; omega), List.length_map, HN.out]; exact hlt
      clear hq hr hsv
      go_wp2_with fail
      refine (list_spec sv r wr hsv2 hrl).mono ?_
      rintro e W1 ⟨x, rfl, hx, hb1⟩
      obtain ⟨xa, xc, rfl⟩ := hx.shape
      have hI3 := hI.below (numsP_stable _) hb1
      have hB3 : Below w.heap.size w W1 := hB.trans (hb1.mono (by omega))
      obtain ⟨y, hy, hys⟩ := hI3.spot hk'
      obtain ⟨y0, rfl⟩ : ∃ y0, y = [y0] := by match y, hy with | [y0], _ => exact ⟨y0, rfl⟩
      have c0 : W1.cell? ⟨w.heap.size, k, none⟩ = some y0 := by have := hys 0 _ rfl; rwa [Nat.mul_one, Nat.add_zero] at this
      have fz := hI3.free
      have hp := RowOf.put (u := [.slice xa (r.map Rt.q).length xc]) (numsP_stable _) (by decide) hI3 hk' rfl (show NumsP (fun b => w.heap.size ≤ b) W1 _ (r.map Rt.q) from ⟨_, rfl, hx.slT, fun b hb => ⟨Nat.le_trans hB.size (hx.block b hb).1, (hx.block b hb).2⟩⟩)
      rw [fillTo_set (show (m.map (List.map Rt.q))[k]? = some (r.map Rt.q) by rw [List.getElem?_map, HR.out]; rfl), Nat.mul_one] at hp
      have HP := Lib.hid hp
      have hlt1 : w.heap.size < W1.heap.size := by have := hb1.size; omega
      clear hI hI3 hys hk' hp hy e0 hsv2 hx
      generalize (r.map Rt.q).length = rl at *
      go_wp2_with fail
      go_roundw
      case rel => exact ⟨k + 1, by omega, by go_num, HP.out.1, hB3.trans HP.out.2.2, by simpa [World.setCell] using hlt1⟩
      case measure => simp [intOf]; omega
    · obtain rfl : k = n := by omega
      rw [← HN.out, ← List.length_map (f := List.map Rt.q), fillTo_all, List.length_map, HN.out] at hI
      go_wp2_with fail
      go_ret
      exact ⟨_, rfl, hI, hB⟩
set_option maxRecDepth 100000 in
set_option maxHeartbeats 1600000 in
theorem stack_spec (v : Value) (m : List (List (List Rt))) (w : World) (h : SlOf (CellSl (CellSl RatC 3) 1) 1 w v m) (hn : m.length ≤ 1000) (hm : ∀ l ∈ m, l.length ≤ 1000 ∧ ∀ r ∈ l, r.length ≤ 1000) :
    Calls Tryz.prog 47 #[v] w (Ret w fun w' v' => RowOf (NumsMP (fun b => w.heap.size ≤ b)) 64 1 w' w.heap.size v' (m.map (List.map (List.map Rt.q)))) := by
  obtain ⟨n, hln⟩ : ∃ n, m.length = n := ⟨_, rfl⟩
  obtain ⟨a, c, rfl, hc, hc2, -⟩ := id h
  have HL := Lib.hid h
  have HN := Lib.hid hln
  have HM := Lib.hid hm
  rw [hln] at hn hc ⊢
  rw [hln] at HL
  clear h hln hm
  go_enter Tryz.func47, Tryz.ntmps47
  go_wp2_with fail
  go_loopw [3, 8] (fun so iv wr => ∃ k : Nat, k ≤ n ∧ iv = .int .i64 (k : Int) ∧ RowOf (NumsMP (fun b => w.heap.size ≤ b)) 64 1 wr w.heap.size so ((m.map (List.map (List.map Rt.q))).take k) ∧ Below w.heap.size w wr) (fun _ i _ => n - (intOf i).toNat)
  case atStart => exact ⟨0, Nat.zero_le _, rfl, RowOf.nil _ _ _ _ _, Below.refl _ _⟩
  case round =>
    obtain ⟨k, hk, rfl, hI, hB⟩ := hrel
    by_cases hlt : k < n
    · obtain ⟨r, hr⟩ : ∃ r, m[k]? = some r := ⟨_, List.getElem?_eq_getElem (by have := HN.out; omega)⟩
      obtain ⟨b1, o1, u1, rfl, -, ⟨sv, rfl, hsv⟩, hq⟩ := HL.out.get hr
      have l1 : b1 < w.heap.size := World.block_lt_of_cell? w _ (hq 0 _ rfl)
      have e0 : wr.cell? ⟨b1, o1 + k, none⟩ = some sv := by have := (hB.cell l1).trans (hq 0 _ rfl); rwa [Nat.mul_one, Nat.add_zero] at this
      obtain ⟨hrl, hrl2⟩ := HM.out r (List.mem_of_getElem? hr)
      have hsv2 := hsv.firm (CellSl.firm rat_firm) hB (Nat.le_refl _)
      have HSN : Hid ((m.map (List.map (List.map Rt.q))).take (k + 1) = (m.map (List.map (List.map Rt.q))).take k ++ [r.map (List.map Rt.q)]) := show _ = _ by
        rw [List.take_add_one, show (m.map (List.map (List.map Rt.q)))[k]? = some (r.map (List.map Rt.q)) by simp [hr]]; rfl
      have hlen : ((m.map (List.map (List.map Rt.q))).take k).length = k := by rw [List.length_take, List.length_map, HN.out]; omega
      clear hq hr hsv
      go_wp2_with fail
      refine (rows_spec sv r wr hsv2 hrl hrl2).mono ?_
      rintro e W1 ⟨x, rfl, hx, hb1⟩
      obtain ⟨xa, xc, rfl⟩ := hx.shape
      have hI3 := hI.below (numsMP_stable _) hb1
      have hB3 : Below w.heap.size w W1 := hB.trans (hb1.mono hB.size)
      have hsz := hB3.size
      have hxM : NumsMP (fun b => w.heap.size ≤ b) W1 [.slice xa (r.map (List.map Rt.q)).length xc] (r.map (List.map Rt.q)) := NumsMP.weaken (p := fun b => wr.heap.size ≤ b) ⟨_, rfl, hx.slT⟩ (fun b _ h => Nat.le_trans hB.size h)
      generalize (r.map (List.map Rt.q)).length = rl at *
      clear hI e0 hsv2 hx
      go_wp2_with (at_builtin; (refine append_row W1 rfl (.tmp 12) (.tmp 15) 50 64 (.slice none 0 0) 1 24 rfl Tryz.underlying50 info_rows rfl (by omega) (by omega) w.heap.size _ k _ [.slice xa rl xc] (r.map (List.map Rt.q)) (numsMP_stable _) (by decide) rfl hI3 hlen rfl rfl hxM oneS (by omega) hsz ?_); intro g cap w' hr' hb' _ _ hsz')
      go_roundw
      case rel => exact ⟨k + 1, by omega, by go_num, by rw [HSN.out]; exact hr', hB3.trans hb'⟩
      case measure => simp [intOf]; omega
    · obtain rfl : k = n := by omega
      rw [List.take_of_length_le (by rw [List.length_map, HN.out]; omega)] at hI
      go_wp2_with fail
      go_ret
      exact ⟨_, rfl, hI, hB⟩
set_option maxRecDepth 100000 in
set_option maxHeartbeats 1600000 in
theorem refList_spec (v : Value) (l : List Rt) (w : World) (h : SlOf RatC 3 w v l) (hn : l.length ≤ 1000) :
    Calls Tryz.prog 48 #[v] w (Ret w fun w' v' => RowOf QC 46 5 w' w.heap.size v' (l.map Rt.q)) := by
  obtain ⟨n, hln⟩ : ∃ n, l.length = n := ⟨_, rfl⟩
  obtain ⟨a, c, rfl, hc, hc2, -⟩ := id h
  have HL := Lib.hid h
  have HN := Lib.hid hln
  rw [hln] at hn hc ⊢
  rw [hln] at HL
  clear h hln
  go_enter Tryz.func48, Tryz.ntmps48
  go_wp2_with fail
  go_loopw [3, 8] (fun so iv wr => ∃ k : Nat, k ≤ n ∧ iv = .int .i64 (k : Int) ∧ RowOf QC 46 5 wr w.heap.size so ((l.map Rt.q).take k) ∧ Below w.heap.size w wr) (fun _ i _ => n - (intOf i).toNat)
  case atStart => exact ⟨0, Nat.zero_le _, rfl, RowOf.nil _ _ _ _ _, Below.refl _ _⟩
  case round =>
    obtain ⟨k, hk, rfl, hI, hB⟩ := hrel
    by_cases hlt : k < n
    · obtain ⟨r, hr⟩ : ∃ r, l[k]? = some r := ⟨_, List.getElem?_eq_getElem (by have := HN.out; omega)⟩
      obtain ⟨b1, o1, u1, rfl, -, ⟨rfl, hok⟩, hq⟩ := HL.out.get hr
      have l1 : b1 < w.heap.size := World.block_lt_of_cell? w _ (hq 0 _ rfl)
      have e0 : wr.cell? ⟨b1, o1 + k * 3, none⟩ = some (.int .i64 r.re) := (hB.cell l1).trans (hq 0 _ rfl)
      have e1 : wr.cell? ⟨b1, o1 + k * 3 + 1, none⟩ = some (.int .i64 r.im) := (hB.cell l1).trans (hq 1 _ rfl)
      have e2 : wr.cell? ⟨b1, o1 + k * 3 + 2, none⟩ = some (.int .i64 r.den) := (hB.cell l1).trans (hq 2 _ rfl)
      have HSN : Hid ((l.map Rt.q).take (k + 1) = (l.map Rt.q).take k ++ [r.q]) := show _ = _ by
        rw [List.take_add_one, show (l.map Rt.q)[k]? = some r.q by simp [hr]]; rfl
      have hlen : ((l.map Rt.q).take k).length = k := by rw [List.length_take, List.length_map, HN.out]; omega
      clear hq hr
      go_upto_region 5 with (fail)
      obtain ⟨V, hV, oV, hBV, hSV⟩ := boxes1 wr 23 [.int .i64 r.re, .int .i64 r.im, .int .i64 r.den]
      rw [← hV]
      clear hV e0 e1 e2
      have hI2 := hI.below q_stable hBV
      have hB2 : Below w.heap.size w V := hB.trans (hBV.mono hB.size)
      have foV := oV.free; have coV0 := oV.cell 0 _ rfl; have coV1 := oV.cell 1 _ rfl; have coV2 := oV.cell 2 _ rfl
      go_wp2_with fail
      refine (qof_spec r V hok).mono ?_
      rintro e W1 ⟨u, rfl, hu, hb1⟩
      obtain ⟨t0, t2, p1, p3, p4, m1, n1, m3, n3, m4, n4, rfl⟩ := hu.open
      have hI3 := hI2.below q_stable hb1
      have hB3 : Below w.heap.size w W1 := hB2.trans (hb1.mono hB2.size)
      have hsz := hB3.size
      clear coV0 coV1 coV2 foV oV hI hI2
      go_wp2_with (at_builtin; (refine append_row W1 rfl (.tmp 12) (.tmp 15) 53 46 (.agg #[.bool false, .slice none 0 0, .bool false, .slice none 0 0, .slice none 0 0]) 5 88 rfl Tryz.underlying53 info_q rfl (by omega) (by omega) w.heap.size _ k _ [.bool t0, .slice p1 m1 n1, .bool t2, .slice p3 m3 n3, .slice p4 m4 n4] r.q q_stable (by decide) rfl hI3 hlen rfl rfl hu oneN (by omega) hsz ?_); intro g cap w' hr' hb' _ _ hsz')
      go_roundw
      case rel => exact ⟨k + 1, by omega, by go_num, by rw [HSN.out]; exact hr', hB3.trans hb'⟩
      case measure => simp [intOf]; omega
    · obtain rfl : k = n := by omega
      rw [List.take_of_length_le (by rw [List.length_map, HN.out]; omega)] at hI
      go_wp2_with fail
      go_ret
      exact ⟨_, rfl, hI, hB⟩
set_option maxRecDepth 100000 in
set_option maxHeartbeats 1600000 in
theorem refStack_spec (v : Value) (m : List (List (List Rt))) (w : World) (h : SlOf (CellSl (CellSl RatC 3) 1) 1 w v m) (hn : m.length ≤ 1000) (hm : ∀ l ∈ m, l.length ≤ 1000 ∧ ∀ r ∈ l, r.length ≤ 1000) :
    Calls Tryz.prog 25 #[v] w (Ret w fun w' v' => RowOf QsM 76 1 w' w.heap.size v' (m.map (List.map (List.map Rt.q)))) := by
  obtain ⟨n, hln⟩ : ∃ n, m.length = n := ⟨_, rfl⟩
  obtain ⟨a, c, rfl, hc, hc2, -⟩ := id h
  have HL := Lib.hid h
  have HN := Lib.hid hln
  have HM := Lib.hid hm
  rw [hln] at hn hc ⊢
  rw [hln] at HL
  clear h hln hm
  go_enter Tryz.func25, Tryz.ntmps25
  go_wp2_with fail
  go_loopw [3, 11] (fun so iv wr => ∃ k : Nat, k ≤ n ∧ iv = .int .i64 (k : Int) ∧ RowOf QsM 76 1 wr w.heap.size so ((m.map (List.map (List.map Rt.q))).take k) ∧ Below w.heap.size w wr) (fun _ i _ => n - (intOf i).toNat)
  case atStart => exact ⟨0, Nat.zero_le _, rfl, RowOf.nil _ _ _ _ _, Below.refl _ _⟩
  case round =>
    obtain ⟨k, hk, rfl, hI, hB⟩ := hrel
    by_cases hlt : k < n
    · obtain ⟨r, hr⟩ : ∃ r, m[k]? = some r := ⟨_, List.getElem?_eq_getElem (by have := HN.out; omega)⟩
      obtain ⟨b1, o1, u1, rfl, -, ⟨sv, rfl, hsv⟩, hq⟩ := HL.out.get hr
      have l1 : b1 < w.heap.size := World.block_lt_of_cell? w _ (hq 0 _ rfl)
      have e0 : wr.cell? ⟨b1, o1 + k, none⟩ = some sv := by have := (hB.cell l1).trans (hq 0 _ rfl); rwa [Nat.mul_one, Nat.add_zero] at this
      obtain ⟨hrl, hrl2⟩ := HM.out r (List.mem_of_getElem? hr)
      have hsv2 := hsv.firm (CellSl.firm rat_firm) hB (Nat.le_refl _)
      obtain ⟨p, hp⟩ : ∃ p, r.length = p := ⟨_, rfl⟩
      obtain ⟨b, d, rfl, hd, hd2, -⟩ := id hsv2
      rw [hp] at hd hrl e0 hsv2 hsv
      have HS := Lib.hid hsv2
      have HP := Lib.hid hp
      have HRL := Lib.hid hrl2
      have HSN : Hid ((m.map (List.map (List.map Rt.q))).take (k + 1) = (m.map (List.map (List.map Rt.q))).take k ++ [r.map (List.map Rt.q)]) := show _ = _ by
        rw [List.take_add_one, show (m.map (List.map (List.map Rt.q)))[k]? = some (r.map (List.map Rt.q)) by simp [hr]]; rfl
      have hlen : ((m.map (List.map (List.map Rt.q))).take k).length = k := by rw [List.length_take, List.length_map, HN.out]; omega
      have HLEN := Lib.hid hlen
      obtain ⟨W0, hW0⟩ : ∃ W0 : World, W0 = wr := ⟨_, rfl⟩
      rw [← hW0] at e0 hI hB HS
      rw [← hW0]
      clear hq hr hsv hsv2 hrl2 hp hW0 hlen
      go_wp2_with fail
      clear e0
      go_loopw [6, 17] (fun so iv wt => ∃ j : Nat, j ≤ p ∧ iv = .int .i64 (j : Int) ∧ RowOf QsC 53 1 wt W0.heap.size so ((r.map (List.map Rt.q)).take j) ∧ Below W0.heap.size W0 wt) (fun _ i _ => p - (intOf i).toNat)
      case atStart => exact ⟨0, Nat.zero_le _, rfl, RowOf.nil _ _ _ _ _, Below.refl _ _⟩
      case round =>
        obtain ⟨j, hj, rfl, hJ, hC⟩ := hrel
        by_cases hlj : j < p
        · obtain ⟨q, hqj⟩ : ∃ q, r[j]? = some q := ⟨_, List.getElem?_eq_getElem (by have := HP.out; omega)⟩
          obtain ⟨b2, o2, u2, rfl, -, ⟨tv, rfl, htv⟩, hq2⟩ := HS.out.get hqj
          have l2 : b2 < W0.heap.size := World.block_lt_of_cell? W0 _ (hq2 0 _ rfl)
          have e2 : wr.cell? ⟨b2, o2 + j, none⟩ = some tv := by have := (hC.cell l2).trans (hq2 0 _ rfl); rwa [Nat.mul_one, Nat.add_zero] at this
          have hql := HRL.out q (List.mem_of_getElem? hqj)
          have htv2 := htv.firm rat_firm hC (Nat.le_refl _)
          have HSJ : Hid ((r.map (List.map Rt.q)).take (j + 1) = (r.map (List.map Rt.q)).take j ++ [q.map Rt.q]) := show _ = _ by
            rw [List.take_add_one, show (r.map (List.map Rt.q))[j]? = some (q.map Rt.q) by simp [hqj]]; rfl
          have hlenj : ((r.map (List.map Rt.q)).take j).length = j := by rw [List.length_take, List.length_map, HP.out]; omega
          clear hq2 hqj htv
          go_wp2_with fail
          refine (refList_spec tv q wr htv2 hql).mono ?_
          rintro e W1 ⟨x, rfl, hx, hb1⟩
          obtain ⟨xa, xc, rfl⟩ := hx.shape
          have hJ3 := hJ.below qs_stable hb1
          have hC3 : Below W0.heap.size W0 W1 := hC.trans (hb1.mono hC.size)
          have hsz := hC3.size
          have hxM : QsC W1 [.slice xa (q.map Rt.q).length xc] (q.map Rt.q) := ⟨_, rfl, hx.slT⟩
          generalize (q.map Rt.q).length = rl at *
          clear hJ e2 htv2 hx
          go_wp2_with (at_builtin; (refine append_row W1 rfl (.tmp 21) (.tmp 24) 76 53 (.slice none 0 0) 1 24 rfl Tryz.underlying76 info_qs rfl (by omega) (by omega) W0.heap.size _ j _ [.slice xa rl xc] (q.map Rt.q) qs_stable (by decide) rfl hJ3 hlenj rfl rfl hxM oneS (by omega) hsz ?_); intro g cap w' hr' hb' _ _ hsz')
          go_roundw
          case rel => first | exact ⟨j + 1, by omega, by go_num, by rw [HSJ.out]; exact hr', hC3.trans hb'⟩ | ((repeat apply Exists.intro); exact ⟨⟨j + 1, by omega, by go_num, by rw [HSJ.out]; exact hr', hC3.trans hb'⟩, rfl⟩)
          case measure => simp [intOf]; omega
        · obtain rfl : j = p := by omega
          rw [List.take_of_length_le (by rw [List.length_map, HP.out]; omega)] at hJ
          obtain ⟨xa, xc, rfl⟩ := hJ.shape
          have hI3 := hI.below qsM_stable hC
          have hB3 : Below w.heap.size w wr := hB.trans (hC.mono hB.size)
          have hsz := hB3.size
          have hxM : QsM wr [.slice xa (r.map (List.map Rt.q)).length xc] (r.map (List.map Rt.q)) := ⟨_, rfl, hJ.slT⟩
          have hlen := HLEN.out
          generalize (r.map (List.map Rt.q)).length = rl at *
          clear hI hJ
          go_wp2_with (at_builtin; (refine append_row wr rfl (.tmp 27) (.tmp 29) 54 76 (.slice none 0 0) 1 24 rfl Tryz.underlying54 info_qrows rfl (by omega) (by omega) w.heap.size _ k _ [.slice xa rl xc] (r.map (List.map Rt.q)) qsM_stable (by decide) rfl hI3 hlen rfl rfl hxM oneS (by omega) hsz ?_); intro g cap w' hr' hb' _ _ hsz')
          go_roundw
          case rel => first | exact ⟨k + 1, by omega, by go_num, by rw [HSN.out]; exact hr', hB3.trans hb'⟩ | ((repeat apply Exists.intro); exact ⟨⟨k + 1, by omega, by go_num, by rw [HSN.out]; exact hr', hB3.trans hb'⟩, rfl⟩)
          case measure => simp [intOf]; omega
    · obtain rfl : k = n := by omega
      rw [List.take_of_length_le (by rw [List.length_map, HN.out]; omega)] at hI
      go_wp2_with fail
      go_ret
      exact ⟨_, rfl, hI, hB⟩
end Go.Proofs.YtfkogkcpndaoeaaGreat
namespace Go.Proofs.YtfkogkcpndaoeaaGreat
open Go.RowKit
def rowOK (r : List Rt) : Bool := decide (r.length ≤ 9)
def matOK (m : List (List Rt)) : Bool := decide (m.length ≤ 9) && m.all rowOK
def littleB (l : List (List (List Rt))) (most : Nat) : Bool := decide (l.length ≤ most) && l.all matOK
theorem all_no {α : Type} {p : α → Bool} {l : List α} {k : Nat} {x : α} (h : l[k]? = some x) (hx : p x = false) : l.all p = false := by
  rw [List.all_eq_false]
  exact ⟨x, List.mem_of_getElem? h, by rw [hx]; decide⟩
theorem all_next {α : Type} {p : α → Bool} {l : List α} {k : Nat} {x : α} (h : l[k]? = some x) (hx : p x = true) (ht : (l.take k).all p = true) : (l.take (k + 1)).all p = true := by
  rw [List.take_add_one, h, List.all_append, ht]
  simp [hx]
set_option maxRecDepth 100000 in
set_option maxHeartbeats 1600000 in
theorem little_spec (v : Value) (l : List (List (List Rt))) (most : Nat) (w : World) (h : SlOf (CellSl (CellSl RatC 3) 1) 1 w v l) :
    Calls Tryz.prog 23 #[v, .int .i64 (most : Int)] w (Ret w fun _ v' => v' = .bool (littleB l most)) := by
  obtain ⟨n, hln⟩ : ∃ n, l.length = n := ⟨_, rfl⟩
  obtain ⟨a, c, rfl, hc, hc2, -⟩ := id h
  have HL := Lib.hid h
  have HN := Lib.hid hln
  rw [hln] at hc ⊢
  rw [hln] at HL
  clear h
  by_cases hnm : most < n
  · have hr : littleB l most = false := by unfold littleB; rw [hln, decide_eq_false (by omega)]; rfl
    rw [hr]
    clear hr hln
    go_enter Tryz.func23, Tryz.ntmps23
    go_wp2_with fail
    go_ret
    exact ⟨_, rfl, rfl, Below.refl _ _⟩
  · have HT := Lib.hid (show l.all matOK = true → littleB l most = true from fun hl => by unfold littleB; rw [hln, decide_eq_true (by omega), hl]; rfl)
    have HF := Lib.hid (show l.all matOK = false → littleB l most = false from fun hl => by unfold littleB; rw [hl, Bool.and_false])
    clear hln
    generalize littleB l most = r at *
    go_enter Tryz.func23, Tryz.ntmps23
    go_wp2_with fail
    go_loopw [15] (fun iv wr => ∃ k : Nat, k ≤ n ∧ iv = .int .i64 (k : Int) ∧ Below w.heap.size w wr ∧ Hid ((l.take k).all matOK = true)) (fun i _ => n - (intOf i).toNat)
    case atStart => exact ⟨0, Nat.zero_le _, rfl, Below.refl _ _, rfl⟩
    case round =>
      obtain ⟨k, hk, rfl, hB, hall⟩ := hrel
      by_cases hlt : k < n
      · obtain ⟨q, hq⟩ : ∃ q, l[k]? = some q := ⟨_, List.getElem?_eq_getElem (by have := HN.out; omega)⟩
        obtain ⟨b1, o1, u1, rfl, -, ⟨sv, rfl, hsv⟩, hc1⟩ := HL.out.get hq
        have l1 : b1 < w.heap.size := World.block_lt_of_cell? w _ (hc1 0 _ rfl)
        have e0 : wr.cell? ⟨b1, o1 + k, none⟩ = some sv := by have := (hB.cell l1).trans (hc1 0 _ rfl); rwa [Nat.mul_one, Nat.add_zero] at this
        have hsv2 := hsv.firm (CellSl.firm rat_firm) hB (Nat.le_refl _)
        obtain ⟨p, hp⟩ : ∃ p, q.length = p := ⟨_, rfl⟩
        obtain ⟨b, d, rfl, hd, hd2, -⟩ := id hsv2
        rw [hp] at hd e0 hsv2
        have HS := Lib.hid hsv2
        have HP := Lib.hid hp
        have HQ := Lib.hid hq
        clear hc1 hsv hsv2 hp hq
        by_cases h9 : 9 < p
        · have hr : r = false := HF.out (all_no HQ.out (by unfold matOK; rw [HP.out, decide_eq_false (by omega)]; rfl))
          subst hr
          go_wp2_with fail
          go_ret
          exact ⟨_, rfl, rfl, hB⟩
        · obtain ⟨W0, hW0⟩ : ∃ W0 : World, W0 = wr := ⟨_, rfl⟩
          rw [← hW0] at e0 hB HS
          rw [← hW0]
          clear hW0
          go_wp2_with fail
          clear e0
          go_loopw [24] (fun iv wt => ∃ j : Nat, j ≤ p ∧ iv = .int .i64 (j : Int) ∧ Below W0.heap.size W0 wt ∧ Hid ((q.take j).all rowOK = true)) (fun i _ => p - (intOf i).toNat)
          case atStart => exact ⟨0, Nat.zero_le _, rfl, Below.refl _ _, rfl⟩
          case round =>
            obtain ⟨j, hj, rfl, hC, hallj⟩ := hrel
            by_cases hlj : j < p
            · obtain ⟨x, hx⟩ : ∃ x, q[j]? = some x := ⟨_, List.getElem?_eq_getElem (by have := HP.out; omega)⟩
              obtain ⟨b2, o2, u2, rfl, -, ⟨tv, rfl, htv⟩, hc2⟩ := HS.out.get hx
              have l2 : b2 < W0.heap.size := World.block_lt_of_cell? W0 _ (hc2 0 _ rfl)
              have e2 : wr.cell? ⟨b2, o2 + j, none⟩ = some tv := by have := (hC.cell l2).trans (hc2 0 _ rfl); rwa [Nat.mul_one, Nat.add_zero] at this
              obtain ⟨y, hy⟩ : ∃ y, x.length = y := ⟨_, rfl⟩
              obtain ⟨b3, d3, rfl, hd3, hd4, -⟩ := htv
              rw [hy] at e2 hd3
              have HX := Lib.hid hx
              have HY := Lib.hid hy
              clear hc2 hx hy
              by_cases h9j : 9 < y
              · have hr : r = false := HF.out (all_no HQ.out (by unfold matOK; rw [all_no (p := rowOK) HX.out (by unfold rowOK; rw [HY.out, decide_eq_false (by omega)]), Bool.and_false]))
                subst hr
                go_wp2_with fail
                go_ret
                exact ⟨_, rfl, rfl, hB.trans (hC.mono hB.size)⟩
              · have hnext := Lib.hid (all_next HX.out (by unfold rowOK; rw [HY.out, decide_eq_true (by omega)]) hallj.out)
                go_wp2_with fail
                go_roundw
                case rel => first | exact ⟨j + 1, by omega, by go_num, hC, hnext⟩ | ((repeat apply Exists.intro); exact ⟨⟨j + 1, by omega, by go_num, hC, hnext⟩, rfl⟩)
                case measure => simp [intOf]; omega
            · obtain rfl : j = p := by omega
              have hrow : q.all rowOK = true := by
                have := hallj.out
                rwa [List.take_of_length_le (by have := HP.out; omega)] at this
              have hnext := Lib.hid (all_next HQ.out (by unfold matOK; rw [HP.out, decide_eq_true (by omega), hrow]; rfl) hall.out)
              have hB3 := hB.trans (hC.mono hB.size)
              clear hrow
              go_wp2_with fail
              go_roundw
              case rel => first | exact ⟨k + 1, by omega, by go_num, hB3, hnext⟩ | ((repeat apply Exists.intro); exact ⟨⟨k + 1, by omega, by go_num, hB3, hnext⟩, rfl⟩)
              case measure => simp [intOf]; omega
      · obtain rfl : k = n := by omega
        have hr : r = true := HT.out (by
          have := hall.out
          rwa [List.take_of_length_le (by have := HN.out; omega)] at this)
        subst hr
        go_wp2_with fail
        go_ret
        exact ⟨_, rfl, rfl, hB⟩
end Go.Proofs.YtfkogkcpndaoeaaGreat
