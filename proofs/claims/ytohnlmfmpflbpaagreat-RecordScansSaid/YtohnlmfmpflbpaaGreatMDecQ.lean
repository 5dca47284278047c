/- The second drawn region of Decode's loop. Conditions: none. -/
import Derived.Test.YtohnlmfmpflbpaaGreatMDecR
set_option linter.unusedSimpArgs false
set_option linter.unusedVariables false
set_option linter.all false
namespace Go.Proofs.YtohnlmfmpflbpaaGreat
open Go.RowKit

set_option maxRecDepth 100000 in
set_option maxHeartbeats 6400000 in
theorem reg15 (l : List UInt8) (a : Option Addr) (n cap g1 g3 base k : Nat) (w0 w : World) {R : Act → World → Prop} {u0 u1 u2 u3 u4 u5 u6 u8 u10 u12 u13 u14 u15 u16 u17 u18 u19 u20 u21 u22 u23 u24 u25 u26 u27 u28 u29 u30 u31 u32 u33 u34 u35 u36 u37 u38 u39 u40 u41 u42 u43 u44 u45 u46 u47 u48 u49 u50 u51 u52 u53 u54 u55 u56 u57 u58 u59 u60 u61 u62 u63 u64 u65 u66 u67 u68 u69 u70 u71 u72 u73 u74 u75 u76 u77 u78 u79 u80 u81 u82 u83 u84 u85 u86 u87 u88 u89 u90 u91 u92 u93 u94 u95 : Value}
    (hI : DecInv w0 l a n cap g1 g3 base (k + 1) k w) (h13 : g1 + 1 < g3) (h3 : g3 + 1 < base)
    (hA : BytesA w a l) (Hn : Hid (l.length = n)) (hk : k < 256) (hi : 16 + 10 * k + 9 < n) (hn : n ≤ 9223372036854775807)
    (hQ : ∀ (w' : World) (x56 x57 x58 x59 x60 x61 x62 x63 x64 x65 x66 x67 x68 x69 x70 x71 x72 x73 x74 x75 x76 x77 x78 x79 x80 x81 x82 x83 : Value), DecInv w0 l a n cap g1 g3 base (k + 1) (k + 1) w' → R ⟨List.toArray (u0 :: u1 :: u2 :: u3 :: u4 :: u5 :: u6 :: .func (.func 76) #[] #[.pointer (some ⟨g1, 0, none⟩)] :: u8 :: .pointer (some ⟨g3 + 1, 0, none⟩) :: u10 :: .int .i64 (16 + 10 * (k : Int)) :: u12 :: u13 :: u14 :: u15 :: u16 :: u17 :: u18 :: u19 :: u20 :: u21 :: u22 :: u23 :: u24 :: u25 :: u26 :: u27 :: u28 :: u29 :: u30 :: u31 :: u32 :: u33 :: u34 :: u35 :: u36 :: u37 :: u38 :: u39 :: u40 :: u41 :: u42 :: u43 :: u44 :: u45 :: u46 :: u47 :: u48 :: u49 :: u50 :: u51 :: u52 :: u53 :: u54 :: u55 :: x56 :: x57 :: x58 :: x59 :: x60 :: x61 :: x62 :: x63 :: x64 :: x65 :: x66 :: x67 :: x68 :: x69 :: x70 :: x71 :: x72 :: x73 :: x74 :: x75 :: x76 :: x77 :: x78 :: x79 :: x80 :: x81 :: x82 :: x83 :: u84 :: u85 :: u86 :: u87 :: u88 :: u89 :: u90 :: u91 :: u92 :: u93 :: u94 :: u95 :: []), []⟩ w') :
    Code.wp Tryz.prog region15 (Only R) ⟨List.toArray (u0 :: u1 :: u2 :: u3 :: u4 :: u5 :: u6 :: .func (.func 76) #[] #[.pointer (some ⟨g1, 0, none⟩)] :: u8 :: .pointer (some ⟨g3 + 1, 0, none⟩) :: u10 :: .int .i64 (16 + 10 * (k : Int)) :: u12 :: u13 :: u14 :: u15 :: u16 :: u17 :: u18 :: u19 :: u20 :: u21 :: u22 :: u23 :: u24 :: u25 :: u26 :: u27 :: u28 :: u29 :: u30 :: u31 :: u32 :: u33 :: u34 :: u35 :: u36 :: u37 :: u38 :: u39 :: u40 :: u41 :: u42 :: u43 :: u44 :: u45 :: u46 :: u47 :: u48 :: u49 :: u50 :: u51 :: u52 :: u53 :: u54 :: u55 :: u56 :: u57 :: u58 :: u59 :: u60 :: u61 :: u62 :: u63 :: u64 :: u65 :: u66 :: u67 :: u68 :: u69 :: u70 :: u71 :: u72 :: u73 :: u74 :: u75 :: u76 :: u77 :: u78 :: u79 :: u80 :: u81 :: u82 :: u83 :: u84 :: u85 :: u86 :: u87 :: u88 :: u89 :: u90 :: u91 :: u92 :: u93 :: u94 :: u95 :: []), []⟩ w := by
  conv => arg 2; whnf
  obtain ⟨vm, vp, hbx, hm, hp, hbs⟩ := hI
  have o1 := hbx.o1
  have o4 := hbx.o4
  obtain ⟨am, cm, rfl⟩ : ∃ am cm, vp = .slice am k cm := by
    rcases hp.2 with ⟨h, h0⟩ | ⟨g, cap, cur, h, _⟩
    · exact ⟨none, 0, by rw [h, h0]⟩
    · exact ⟨_, _, h⟩
  have hfin := fun (wa : World) (vp' : Value) (hg : w.grownBy wa (Value.slice am k cm).ownBlock) (hma : wa.ownsRow base 90 4 vp' (k + 1) (prs l (k + 1))) => inv15 hbx hm hp hbs h13 h3 hg hma
  have HF := Lib.hid hfin
  have hmn := prs_succ l k
  have HM := Lib.hid hmn
  have c10 := o1.cell 0 _ rfl
  have hg4 : g3 + 1 < base := h3
  have hw := fun w' (h1 : w'.cell? ⟨g1, 0, none⟩ = some (.slice a n cap)) (h2 : BytesA w' a l) => word_spec' g1 a l n cap (16 + 10 * k + 2) (16 + 10 * (k : Int) + 2) w' (by omega) h1 h2 Hn (by omega) hn
  have HW0 := Lib.hid hw
  clear hw
  have hw80 := wordAt_lt l (16 + 10 * k + 2)
  have hwi0 := s16_wrap hw80
  have tok0 : True := trivial
  have hws0 : IntKind.i64.wrap (16 + 10 * (k : Int) + 2) = 16 + 10 * (k : Int) + 2 := IntWalk.i64_in _ (by omega)
  have hw := fun w' (h1 : w'.cell? ⟨g1, 0, none⟩ = some (.slice a n cap)) (h2 : BytesA w' a l) => word_spec' g1 a l n cap (16 + 10 * k + 4) (16 + 10 * (k : Int) + 4) w' (by omega) h1 h2 Hn (by omega) hn
  have HW1 := Lib.hid hw
  clear hw
  have hw81 := wordAt_lt l (16 + 10 * k + 4)
  have hwi1 := s16_wrap hw81
  have tok1 : True := trivial
  have hws1 : IntKind.i64.wrap (16 + 10 * (k : Int) + 4) = 16 + 10 * (k : Int) + 4 := IntWalk.i64_in _ (by omega)
  have hw := fun w' (h1 : w'.cell? ⟨g1, 0, none⟩ = some (.slice a n cap)) (h2 : BytesA w' a l) => word_spec' g1 a l n cap (16 + 10 * k + 6) (16 + 10 * (k : Int) + 6) w' (by omega) h1 h2 Hn (by omega) hn
  have HW2 := Lib.hid hw
  clear hw
  have hw82 := wordAt_lt l (16 + 10 * k + 6)
  have hwi2 := s16_wrap hw82
  have tok2 : True := trivial
  have hws2 : IntKind.i64.wrap (16 + 10 * (k : Int) + 6) = 16 + 10 * (k : Int) + 6 := IntWalk.i64_in _ (by omega)
  have hw := fun w' (h1 : w'.cell? ⟨g1, 0, none⟩ = some (.slice a n cap)) (h2 : BytesA w' a l) => word_spec' g1 a l n cap (16 + 10 * k + 8) (16 + 10 * (k : Int) + 8) w' (by omega) h1 h2 Hn (by omega) hn
  have HW3 := Lib.hid hw
  clear hw
  have hw83 := wordAt_lt l (16 + 10 * k + 8)
  have hwi3 := s16_wrap hw83
  have tok3 : True := trivial
  have hws3 : IntKind.i64.wrap (16 + 10 * (k : Int) + 8) = 16 + 10 * (k : Int) + 8 := IntWalk.i64_in _ (by omega)
  have hpr : Hid ((prAt l (16 + 10 * k)).cells = [i16v (s16 (wordAt l (16 + 10 * k + 2))), i16v (s16 (wordAt l (16 + 10 * k + 4))), i16v (s16 (wordAt l (16 + 10 * k + 6))), i16v (s16 (wordAt l (16 + 10 * k + 8)))]) := rfl
  clear hfin hmn hbx hm
  generalize wordAt l (16 + 10 * k + 2) = z0 at *
  generalize s16 z0 = y0 at *
  generalize wordAt l (16 + 10 * k + 4) = z1 at *
  generalize s16 z1 = y1 at *
  generalize wordAt l (16 + 10 * k + 6) = z2 at *
  generalize s16 z2 = y2 at *
  generalize wordAt l (16 + 10 * k + 8) = z3 at *
  generalize s16 z3 = y3 at *
  have hm1 := hp
  have hg1 : w.grownBy w (Value.slice am k cm).ownBlock := grown_refl _ _
  generalize g3 + 1 = g4 at *
  have c46 := o4.cell 6 _ rfl
  have f4 := o4.free
  have o41 := o4
  go_region_law (first
    | (go_simp; go_at_call 76; have _t := tok0; refine (HW0.out w.drew c10 hA).mono ?_; rintro e W1 ⟨rfl, kk1, hW1⟩; have o41 : Own W1 27 g4 [.int .u32 (longAt l 4 : Int), .int .i64 (wordAt l 8 : Int), .int .i64 (byteAt l 3 : Int), .int .i64 (byteAt l 10 : Int), .float .f32 (longAt l 12), vm, .slice am k cm] := (by rw [hW1]; exact o41); have c46 := o41.cell 6 _ rfl; have f4 := o41.free; have hm1 : W1.ownsRow base 90 4 (.slice am k cm) k (prs l k) := (by rw [hW1]; exact hm1); have hg1 : w.grownBy W1 (Value.slice am k cm).ownBlock := (by rw [hW1]; exact grown_drewN (grown_drew hg1) _); have o1 : Own W1 31 g1 [.slice a n cap] := (by rw [hW1]; exact o1); have c10 := o1.cell 0 _ rfl; have hA : BytesA W1 a l := (by rw [hW1]; exact hA); have hl4 := o41.lt; have hbs : base ≤ W1.heap.size := (by rw [hW1]; exact hbs); clear hW1 tok0 _t)
    | (go_simp; go_at_call 76; have _t := tok1; refine (HW1.out W1 c10 hA).mono ?_; rintro e W2 ⟨rfl, kk2, hW2⟩; have o41 : Own W2 27 g4 [.int .u32 (longAt l 4 : Int), .int .i64 (wordAt l 8 : Int), .int .i64 (byteAt l 3 : Int), .int .i64 (byteAt l 10 : Int), .float .f32 (longAt l 12), vm, .slice am k cm] := (by rw [hW2]; exact o41); have c46 := o41.cell 6 _ rfl; have f4 := o41.free; have hm1 : W2.ownsRow base 90 4 (.slice am k cm) k (prs l k) := (by rw [hW2]; exact hm1); have hg1 : w.grownBy W2 (Value.slice am k cm).ownBlock := (by rw [hW2]; exact grown_drewN (hg1) _); have o1 : Own W2 31 g1 [.slice a n cap] := (by rw [hW2]; exact o1); have c10 := o1.cell 0 _ rfl; have hA : BytesA W2 a l := (by rw [hW2]; exact hA); have hl4 := o41.lt; have hbs : base ≤ W2.heap.size := (by rw [hW2]; exact hbs); clear hW2 tok1 _t)
    | (go_simp; go_at_call 76; have _t := tok2; refine (HW2.out W2 c10 hA).mono ?_; rintro e W3 ⟨rfl, kk3, hW3⟩; have o41 : Own W3 27 g4 [.int .u32 (longAt l 4 : Int), .int .i64 (wordAt l 8 : Int), .int .i64 (byteAt l 3 : Int), .int .i64 (byteAt l 10 : Int), .float .f32 (longAt l 12), vm, .slice am k cm] := (by rw [hW3]; exact o41); have c46 := o41.cell 6 _ rfl; have f4 := o41.free; have hm1 : W3.ownsRow base 90 4 (.slice am k cm) k (prs l k) := (by rw [hW3]; exact hm1); have hg1 : w.grownBy W3 (Value.slice am k cm).ownBlock := (by rw [hW3]; exact grown_drewN (hg1) _); have o1 : Own W3 31 g1 [.slice a n cap] := (by rw [hW3]; exact o1); have c10 := o1.cell 0 _ rfl; have hA : BytesA W3 a l := (by rw [hW3]; exact hA); have hl4 := o41.lt; have hbs : base ≤ W3.heap.size := (by rw [hW3]; exact hbs); clear hW3 tok2 _t)
    | (go_simp; go_at_call 76; have _t := tok3; refine (HW3.out W3 c10 hA).mono ?_; rintro e W4 ⟨rfl, kk4, hW4⟩; have o41 : Own W4 27 g4 [.int .u32 (longAt l 4 : Int), .int .i64 (wordAt l 8 : Int), .int .i64 (byteAt l 3 : Int), .int .i64 (byteAt l 10 : Int), .float .f32 (longAt l 12), vm, .slice am k cm] := (by rw [hW4]; exact o41); have c46 := o41.cell 6 _ rfl; have f4 := o41.free; have hm1 : W4.ownsRow base 90 4 (.slice am k cm) k (prs l k) := (by rw [hW4]; exact hm1); have hg1 : w.grownBy W4 (Value.slice am k cm).ownBlock := (by rw [hW4]; exact grown_drewN (hg1) _); have o1 : Own W4 31 g1 [.slice a n cap] := (by rw [hW4]; exact o1); have c10 := o1.cell 0 _ rfl; have hA : BytesA W4 a l := (by rw [hW4]; exact hA); have hl4 := o41.lt; have hbs : base ≤ W4.heap.size := (by rw [hW4]; exact hbs); clear hW4 tok3 _t)
    | (refine step_app_pair _ rfl (.tmp 57) (.tmp 81) rfl base (.slice am k cm) k _ (by rfl) (World.ownsRow.alloc hm1 _) W4.heap.size ⟨y0, y1, y2, y3⟩ (by rfl) (own_new W4 90 [.int .i16 y0, .int .i16 y1, .int .i16 y2, .int .i16 y3]) (by omega) (by simp; omega) ?_; intro ga ca wa hma hga; have o42 := Own.keptRow (o41.alloc _) (World.ownsRow.alloc hm1 _) hga hg4; have f42 := o42.free; have c42 := o42.cell 6 _ rfl))
  all_goals
    show R _ _
    refine hQ _ _ _ _ _ _ _ _ _ _ _ _ _ _ _ _ _ _ _ _ _ _ _ _ _ _ _ _ _ ?_
    exact HF.out wa _ (grown_trans hg1 (grown_trans (World.grownBy_alloc _ _ _) hga)) (by rw [HM.out, hpr.out]; exact hma)
end Go.Proofs.YtohnlmfmpflbpaaGreat
