/- The drawn regions of the loop of the reference's Decode. Conditions: none. -/
import Derived.Test.YtohnlmfmpflbpaaGreatMRefI
import Derived.Test.YtohnlmfmpflbpaaGreatMRegion
import Derived.Deep.RegionLaw
set_option linter.unusedSimpArgs false
set_option linter.unusedVariables false
set_option linter.all false
namespace Go.Proofs.YtohnlmfmpflbpaaGreat
open Go.RowKit

noncomputable def rregion15 : Code := (Tryz.f47.body.bind (findRegion 15)).getD .skip

set_option maxRecDepth 100000 in
set_option maxHeartbeats 6400000 in
theorem rreg15 (l : List UInt8) (b o n cap g2 g7 base k A : Nat) (w0 w : World) {R : Act → World → Prop} {u1 u2 u3 u4 u5 u6 u8 u10 u11 u12 u13 u14 u15 u16 u17 u18 u19 u20 u21 u22 u23 u24 u25 u26 u27 u28 u29 u30 u31 u32 u33 u34 u35 u36 u37 u38 u39 u40 u41 u42 u43 u44 u45 u46 u47 u48 u49 u50 u51 u52 u53 u54 u55 u56 u57 u58 u59 u60 u61 u62 u63 u64 u65 u66 u67 u68 u69 u70 u71 u72 u73 u74 u75 u76 u77 u78 u79 u80 u81 u82 u83 u84 u85 u86 u87 u88 u89 u90 u91 u92 u93 u94 u95 u96 u97 u98 u99 u100 u101 u102 u103 u104 u105 u106 u107 u108 u109 u110 u111 u112 u113 u114 u115 u116 u117 u118 u119 u120 u121 u122 u123 u124 u125 u126 u127 u128 u129 u130 u131 u132 u133 u134 u135 u136 u137 u138 u139 u140 u141 u142 u143 u144 u145 u146 u147 u148 u149 u150 u151 u152 u153 u154 u155 u156 u157 u158 u159 u160 u161 u162 u163 : Value}
    (hI : RInv w0 l g2 g7 base (k + 1) k w) (h27 : g2 < g7) (h7 : g7 < base) (hA : BytesA w (some ⟨b, o, none⟩) l) (Hn : Hid (l.length = n)) (hAk : A = 16 + 10 * k) (hk : k < 256) (hi : A + 10 ≤ n) (hcap : n ≤ cap) (hmax : cap ≤ 9223372036854775807)
    (hQ : ∀ (w' : World) (x124 x125 x126 x127 x128 x129 x130 x131 x132 x133 x134 x135 x136 x137 x138 x139 x140 x141 x142 x143 x144 x145 x146 x147 x148 x149 x150 x151 : Value), RInv w0 l g2 g7 base (k + 1) (k + 1) w' → R ⟨List.toArray (.slice (some ⟨b, o, none⟩) n cap :: u1 :: u2 :: u3 :: u4 :: u5 :: u6 :: .pointer (some ⟨g7, 0, none⟩) :: u8 :: .int .i64 (A : Int) :: u10 :: u11 :: u12 :: u13 :: u14 :: u15 :: u16 :: u17 :: u18 :: u19 :: u20 :: u21 :: u22 :: u23 :: u24 :: u25 :: u26 :: u27 :: u28 :: u29 :: u30 :: u31 :: u32 :: u33 :: u34 :: u35 :: u36 :: u37 :: u38 :: u39 :: u40 :: u41 :: u42 :: u43 :: u44 :: u45 :: u46 :: u47 :: u48 :: u49 :: u50 :: u51 :: u52 :: u53 :: u54 :: u55 :: u56 :: u57 :: u58 :: u59 :: u60 :: u61 :: u62 :: u63 :: u64 :: u65 :: u66 :: u67 :: u68 :: u69 :: u70 :: u71 :: u72 :: u73 :: u74 :: u75 :: u76 :: u77 :: u78 :: u79 :: u80 :: u81 :: u82 :: u83 :: u84 :: u85 :: u86 :: u87 :: u88 :: u89 :: u90 :: u91 :: u92 :: u93 :: u94 :: u95 :: u96 :: u97 :: u98 :: u99 :: u100 :: u101 :: u102 :: u103 :: u104 :: u105 :: u106 :: u107 :: u108 :: u109 :: u110 :: u111 :: u112 :: u113 :: u114 :: u115 :: u116 :: u117 :: u118 :: u119 :: u120 :: u121 :: u122 :: u123 :: x124 :: x125 :: x126 :: x127 :: x128 :: x129 :: x130 :: x131 :: x132 :: x133 :: x134 :: x135 :: x136 :: x137 :: x138 :: x139 :: x140 :: x141 :: x142 :: x143 :: x144 :: x145 :: x146 :: x147 :: x148 :: x149 :: x150 :: x151 :: u152 :: u153 :: u154 :: u155 :: u156 :: u157 :: u158 :: u159 :: u160 :: u161 :: u162 :: u163 :: []), []⟩ w') :
    Code.wp Tryz.prog rregion15 (Only R) ⟨List.toArray (.slice (some ⟨b, o, none⟩) n cap :: u1 :: u2 :: u3 :: u4 :: u5 :: u6 :: .pointer (some ⟨g7, 0, none⟩) :: u8 :: .int .i64 (A : Int) :: u10 :: u11 :: u12 :: u13 :: u14 :: u15 :: u16 :: u17 :: u18 :: u19 :: u20 :: u21 :: u22 :: u23 :: u24 :: u25 :: u26 :: u27 :: u28 :: u29 :: u30 :: u31 :: u32 :: u33 :: u34 :: u35 :: u36 :: u37 :: u38 :: u39 :: u40 :: u41 :: u42 :: u43 :: u44 :: u45 :: u46 :: u47 :: u48 :: u49 :: u50 :: u51 :: u52 :: u53 :: u54 :: u55 :: u56 :: u57 :: u58 :: u59 :: u60 :: u61 :: u62 :: u63 :: u64 :: u65 :: u66 :: u67 :: u68 :: u69 :: u70 :: u71 :: u72 :: u73 :: u74 :: u75 :: u76 :: u77 :: u78 :: u79 :: u80 :: u81 :: u82 :: u83 :: u84 :: u85 :: u86 :: u87 :: u88 :: u89 :: u90 :: u91 :: u92 :: u93 :: u94 :: u95 :: u96 :: u97 :: u98 :: u99 :: u100 :: u101 :: u102 :: u103 :: u104 :: u105 :: u106 :: u107 :: u108 :: u109 :: u110 :: u111 :: u112 :: u113 :: u114 :: u115 :: u116 :: u117 :: u118 :: u119 :: u120 :: u121 :: u122 :: u123 :: u124 :: u125 :: u126 :: u127 :: u128 :: u129 :: u130 :: u131 :: u132 :: u133 :: u134 :: u135 :: u136 :: u137 :: u138 :: u139 :: u140 :: u141 :: u142 :: u143 :: u144 :: u145 :: u146 :: u147 :: u148 :: u149 :: u150 :: u151 :: u152 :: u153 :: u154 :: u155 :: u156 :: u157 :: u158 :: u159 :: u160 :: u161 :: u162 :: u163 :: []), []⟩ w := by
  conv => arg 2; whnf
  obtain ⟨vm, vp, hbx, hm, hp, hbs⟩ := hI
  obtain ⟨am, cm, rfl⟩ : ∃ am cm, vp = .slice am k cm := by
    rcases hp.2 with ⟨h, h0⟩ | ⟨g, cap, cur, h, _⟩
    · exact ⟨none, 0, by rw [h, h0]⟩
    · exact ⟨_, _, h⟩
  have HF := Lib.hid (fun (wa : World) (vm' : Value) (hg : w.grownBy wa (Value.slice am k cm).ownBlock) (hma : wa.ownsRow base 90 4 vm' (k + 1) (prs l (k + 1))) => rinv15 hbx hm hp hbs h27 h7 hg hma)
  have HM := Lib.hid (show prs l (k + 1) = prs l k ++ (prAt l A).cells by rw [hAk]; exact prs_succ l k)
  have o7 := hbx.o7
  have q6 := o7.cell 6 _ rfl
  have f7 := o7.free
  have lt7 := o7.lt
  have HR := Lib.hid (fun w' (h2 : BytesA w' (some ⟨b, o, none⟩) l) (j : Nat) (hj : j + 2 ≤ n) => signed_at b o l n cap j w' h2 Hn hj hcap hmax)
  clear hbx
  unfold prAt at HM
  generalize hy0 : s16 (wordAt l (A + 2)) = y0 at *
  generalize hy1 : s16 (wordAt l (A + 4)) = y1 at *
  generalize hy2 : s16 (wordAt l (A + 6)) = y2 at *
  generalize hy3 : s16 (wordAt l (A + 8)) = y3 at *
  have H0 := Lib.hid (fun w' h2 => by have := HR.out w' h2 (A + 2) (by omega); rw [hy0] at this; exact this)
  have H1 := Lib.hid (fun w' h2 => by have := HR.out w' h2 (A + 4) (by omega); rw [hy1] at this; exact this)
  have H2 := Lib.hid (fun w' h2 => by have := HR.out w' h2 (A + 6) (by omega); rw [hy2] at this; exact this)
  have H3 := Lib.hid (fun w' h2 => by have := HR.out w' h2 (A + 8) (by omega); rw [hy3] at this; exact this)
  clear HR hy0 hy1 hy2 hy3
  have e2 : IntKind.i64.wrap ((A : Int) + 2) = (A : Int) + 2 := IntWalk.i64_in _ (by omega)
  have t2 : ((A : Int) + 2).toNat = A + 2 := by omega
  have i2 : (0 : Int) ≤ (A : Int) + 2 := by omega
  have j2 : (A : Int) + 2 ≤ (n : Int) := by omega
  have m2 : (A : Int) + 2 ≤ (cap : Int) := by omega
  have n2 : ¬ (cap = A + 2) := by omega
  have e4 : IntKind.i64.wrap ((A : Int) + 4) = (A : Int) + 4 := IntWalk.i64_in _ (by omega)
  have t4 : ((A : Int) + 4).toNat = A + 4 := by omega
  have i4 : (0 : Int) ≤ (A : Int) + 4 := by omega
  have j4 : (A : Int) + 4 ≤ (n : Int) := by omega
  have m4 : (A : Int) + 4 ≤ (cap : Int) := by omega
  have n4 : ¬ (cap = A + 4) := by omega
  have e6 : IntKind.i64.wrap ((A : Int) + 6) = (A : Int) + 6 := IntWalk.i64_in _ (by omega)
  have t6 : ((A : Int) + 6).toNat = A + 6 := by omega
  have i6 : (0 : Int) ≤ (A : Int) + 6 := by omega
  have j6 : (A : Int) + 6 ≤ (n : Int) := by omega
  have m6 : (A : Int) + 6 ≤ (cap : Int) := by omega
  have n6 : ¬ (cap = A + 6) := by omega
  have e8 : IntKind.i64.wrap ((A : Int) + 8) = (A : Int) + 8 := IntWalk.i64_in _ (by omega)
  have t8 : ((A : Int) + 8).toNat = A + 8 := by omega
  have i8 : (0 : Int) ≤ (A : Int) + 8 := by omega
  have j8 : (A : Int) + 8 ≤ (n : Int) := by omega
  have m8 : (A : Int) + 8 ≤ (cap : Int) := by omega
  have n8 : ¬ (cap = A + 8) := by omega
  clear hAk
  have tok0 : True := trivial
  have tok1 : True := trivial
  have tok2 : True := trivial
  have tok3 : True := trivial
  go_region_law (first
    | (go_simp; go_at_call 74; have _t := tok0; refine (H0.out w.drew hA).mono ?_; rintro e1 w' ⟨rfl, rfl⟩; clear tok0 _t)
    | (go_simp; go_at_call 74; have _t := tok1; refine (H1.out w.drew hA).mono ?_; rintro e1 w' ⟨rfl, rfl⟩; clear tok1 _t)
    | (go_simp; go_at_call 74; have _t := tok2; refine (H2.out w.drew hA).mono ?_; rintro e1 w' ⟨rfl, rfl⟩; clear tok2 _t)
    | (go_simp; go_at_call 74; have _t := tok3; refine (H3.out w.drew hA).mono ?_; rintro e1 w' ⟨rfl, rfl⟩; clear tok3 _t)
    | (refine step_app_pair _ rfl (.tmp 125) (.tmp 149) rfl base (.slice am k cm) k _ (by rfl) (World.ownsRow.alloc (World.ownsRow.drew hp) _) w.heap.size ⟨y0, y1, y2, y3⟩ (by rfl) (own_new w.drew 90 [.int .i16 y0, .int .i16 y1, .int .i16 y2, .int .i16 y3]) (by omega) (by simp [World.drew]; omega) ?_; intro ga ca wa hma hga; have o72 := Own.keptRow (Own.alloc (w := w.drew) o7 _) (World.ownsRow.alloc (World.ownsRow.drew hp) _) hga h7; have f72 := o72.free; have q62 := o72.cell 6 _ rfl))
  all_goals
    show R _ _
    refine hQ _ _ _ _ _ _ _ _ _ _ _ _ _ _ _ _ _ _ _ _ _ _ _ _ _ _ _ _ _ ?_
    exact HF.out wa _ (grown_trans (grown_drew (grown_refl _ _)) (grown_trans (World.grownBy_alloc _ _ _) hga)) (by rw [HM.out]; exact hma)

end Go.Proofs.YtohnlmfmpflbpaaGreat
