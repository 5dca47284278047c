/- The drawn regions of the loop of the reference's Decode. Conditions: none. -/
import Derived.Test.YtohnlmfmpflbpaaGreatMRefI
import Derived.Test.YtohnlmfmpflbpaaGreatMRegion
import Derived.Deep.RegionLaw
set_option linter.unusedSimpArgs false
set_option linter.unusedVariables false
set_option linter.all false
namespace Go.Proofs.YtohnlmfmpflbpaaGreat
open Go.RowKit

noncomputable def rregion14 : Code := (Tryz.f47.body.bind (findRegion 14)).getD .skip

set_option maxRecDepth 100000 in
set_option maxHeartbeats 6400000 in
theorem rreg14 (l : List UInt8) (b o n cap g2 g7 base k A : Nat) (w0 w : World) {R : Act → World → Prop} {u1 u2 u3 u4 u5 u6 u8 u10 u11 u12 u13 u14 u15 u16 u17 u18 u19 u20 u21 u22 u23 u24 u25 u26 u27 u28 u29 u30 u31 u32 u33 u34 u35 u36 u37 u38 u39 u40 u41 u42 u43 u44 u45 u46 u47 u48 u49 u50 u51 u52 u53 u54 u55 u56 u57 u58 u59 u60 u61 u62 u63 u64 u65 u66 u67 u68 u69 u70 u71 u72 u73 u74 u75 u76 u77 u78 u79 u80 u81 u82 u83 u84 u85 u86 u87 u88 u89 u90 u91 u92 u93 u94 u95 u96 u97 u98 u99 u100 u101 u102 u103 u104 u105 u106 u107 u108 u109 u110 u111 u112 u113 u114 u115 u116 u117 u118 u119 u120 u121 u122 u123 u124 u125 u126 u127 u128 u129 u130 u131 u132 u133 u134 u135 u136 u137 u138 u139 u140 u141 u142 u143 u144 u145 u146 u147 u148 u149 u150 u151 u152 u153 u154 u155 u156 u157 u158 u159 u160 u161 u162 u163 : Value}
    (hI : RInv w0 l g2 g7 base k k w) (h27 : g2 < g7) (h7 : g7 < base) (hA : BytesA w (some ⟨b, o, none⟩) l) (Hn : Hid (l.length = n)) (hAk : A = 16 + 10 * k) (hk : k < 256) (hi : A + 10 ≤ n) (hcap : n ≤ cap) (hmax : cap ≤ 9223372036854775807)
    (hQ : ∀ (w' : World) (x113 x114 x115 x116 x117 x118 x119 x120 x121 x122 x123 : Value), RInv w0 l g2 g7 base (k + 1) k w' → R ⟨List.toArray (.slice (some ⟨b, o, none⟩) n cap :: u1 :: u2 :: u3 :: u4 :: u5 :: u6 :: .pointer (some ⟨g7, 0, none⟩) :: u8 :: .int .i64 (A : Int) :: u10 :: u11 :: u12 :: u13 :: u14 :: u15 :: u16 :: u17 :: u18 :: u19 :: u20 :: u21 :: u22 :: u23 :: u24 :: u25 :: u26 :: u27 :: u28 :: u29 :: u30 :: u31 :: u32 :: u33 :: u34 :: u35 :: u36 :: u37 :: u38 :: u39 :: u40 :: u41 :: u42 :: u43 :: u44 :: u45 :: u46 :: u47 :: u48 :: u49 :: u50 :: u51 :: u52 :: u53 :: u54 :: u55 :: u56 :: u57 :: u58 :: u59 :: u60 :: u61 :: u62 :: u63 :: u64 :: u65 :: u66 :: u67 :: u68 :: u69 :: u70 :: u71 :: u72 :: u73 :: u74 :: u75 :: u76 :: u77 :: u78 :: u79 :: u80 :: u81 :: u82 :: u83 :: u84 :: u85 :: u86 :: u87 :: u88 :: u89 :: u90 :: u91 :: u92 :: u93 :: u94 :: u95 :: u96 :: u97 :: u98 :: u99 :: u100 :: u101 :: u102 :: u103 :: u104 :: u105 :: u106 :: u107 :: u108 :: u109 :: u110 :: u111 :: u112 :: x113 :: x114 :: x115 :: x116 :: x117 :: x118 :: x119 :: x120 :: x121 :: x122 :: x123 :: u124 :: u125 :: u126 :: u127 :: u128 :: u129 :: u130 :: u131 :: u132 :: u133 :: u134 :: u135 :: u136 :: u137 :: u138 :: u139 :: u140 :: u141 :: u142 :: u143 :: u144 :: u145 :: u146 :: u147 :: u148 :: u149 :: u150 :: u151 :: u152 :: u153 :: u154 :: u155 :: u156 :: u157 :: u158 :: u159 :: u160 :: u161 :: u162 :: u163 :: []), []⟩ w') :
    Code.wp Tryz.prog rregion14 (Only R) ⟨List.toArray (.slice (some ⟨b, o, none⟩) n cap :: u1 :: u2 :: u3 :: u4 :: u5 :: u6 :: .pointer (some ⟨g7, 0, none⟩) :: u8 :: .int .i64 (A : Int) :: u10 :: u11 :: u12 :: u13 :: u14 :: u15 :: u16 :: u17 :: u18 :: u19 :: u20 :: u21 :: u22 :: u23 :: u24 :: u25 :: u26 :: u27 :: u28 :: u29 :: u30 :: u31 :: u32 :: u33 :: u34 :: u35 :: u36 :: u37 :: u38 :: u39 :: u40 :: u41 :: u42 :: u43 :: u44 :: u45 :: u46 :: u47 :: u48 :: u49 :: u50 :: u51 :: u52 :: u53 :: u54 :: u55 :: u56 :: u57 :: u58 :: u59 :: u60 :: u61 :: u62 :: u63 :: u64 :: u65 :: u66 :: u67 :: u68 :: u69 :: u70 :: u71 :: u72 :: u73 :: u74 :: u75 :: u76 :: u77 :: u78 :: u79 :: u80 :: u81 :: u82 :: u83 :: u84 :: u85 :: u86 :: u87 :: u88 :: u89 :: u90 :: u91 :: u92 :: u93 :: u94 :: u95 :: u96 :: u97 :: u98 :: u99 :: u100 :: u101 :: u102 :: u103 :: u104 :: u105 :: u106 :: u107 :: u108 :: u109 :: u110 :: u111 :: u112 :: u113 :: u114 :: u115 :: u116 :: u117 :: u118 :: u119 :: u120 :: u121 :: u122 :: u123 :: u124 :: u125 :: u126 :: u127 :: u128 :: u129 :: u130 :: u131 :: u132 :: u133 :: u134 :: u135 :: u136 :: u137 :: u138 :: u139 :: u140 :: u141 :: u142 :: u143 :: u144 :: u145 :: u146 :: u147 :: u148 :: u149 :: u150 :: u151 :: u152 :: u153 :: u154 :: u155 :: u156 :: u157 :: u158 :: u159 :: u160 :: u161 :: u162 :: u163 :: []), []⟩ w := by
  conv => arg 2; whnf
  obtain ⟨vm, vp, hbx, hm, hp, hbs⟩ := hI
  obtain ⟨am, cm, rfl⟩ : ∃ am cm, vm = .slice am k cm := by
    rcases hm.2 with ⟨h, h0⟩ | ⟨g, cap, cur, h, _⟩
    · exact ⟨none, 0, by rw [h, h0]⟩
    · exact ⟨_, _, h⟩
  have HF := Lib.hid (fun (wa : World) (vm' : Value) (hg : w.grownBy wa (Value.slice am k cm).ownBlock) (hma : wa.ownsRow base 3 1 vm' (k + 1) (mts l (k + 1))) => rinv14 hbx hm hp hbs h27 h7 hg hma)
  have HM := Lib.hid (show mts l (k + 1) = mts l k ++ [.int .i64 (wordAt l A : Int)] by rw [hAk]; exact mts_succ l k)
  have o7 := hbx.o7
  have q5 := o7.cell 5 _ rfl
  have f7 := o7.free
  have lt7 := o7.lt
  have hr := fun w' (h2 : BytesA w' (some ⟨b, o, none⟩) l) => read_two b o l n cap A w' h2 Hn (by omega) hcap hmax
  have HR := Lib.hid hr
  clear hr hbx
  have hw8 := wordAt_lt l A
  generalize wordAt l A = z at *
  have e1 : IntKind.i64.wrap ((A : Int) + 2) = (A : Int) + 2 := IntWalk.i64_in _ (by omega)
  have e2 : ((A : Int) + 2).toNat = A + 2 := by omega
  have e3 : A + 2 - A = 2 := by omega
  have i1 : (0 : Int) ≤ (A : Int) := by omega
  have i2 : (A : Int) ≤ (A : Int) + 2 := by omega
  have i3 : (A : Int) + 2 ≤ (cap : Int) := by omega
  have n1 : ¬ (cap = A) := by omega
  clear hAk
  have tok1 : True := trivial
  go_region_law (first
    | (go_simp; go_at_call 72; have _t := tok1; refine (HR.out w.drew hA).mono ?_; rintro e1 w' ⟨rfl, rfl⟩; clear tok1 _t)
    | (refine step_app_int _ rfl (.tmp 114) (.tmp 121) rfl base (.slice am k cm) k _ (by rfl) (World.ownsRow.alloc (World.ownsRow.drew hm) _) w.heap.size z (by rfl) ((own_new w.drew 3 [.int .i64 (z : Int)]).cell 0 _ rfl) (by omega) (by simp [World.drew]; omega) ?_; intro ga ca wa hma hga; have o72 := Own.keptRow (Own.alloc (w := w.drew) o7 _) (World.ownsRow.alloc (World.ownsRow.drew hm) _) hga h7; have f72 := o72.free; have q52 := o72.cell 5 _ rfl))
  all_goals
    show R _ _
    refine hQ _ _ _ _ _ _ _ _ _ _ _ _ ?_
    exact HF.out wa _ (grown_trans (grown_drew (grown_refl _ _)) (grown_trans (World.grownBy_alloc _ _ _) hga)) (by rw [HM.out]; exact hma)

end Go.Proofs.YtohnlmfmpflbpaaGreat
