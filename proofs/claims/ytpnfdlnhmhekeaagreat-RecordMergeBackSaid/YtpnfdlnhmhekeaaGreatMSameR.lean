/- sameRows at equal matrices. Conditions: bits. sameWaves at equal sweeps. Conditions: bits; as many matrices as frequencies. -/
import Derived.Test.YtpnfdlnhmhekeaaGreatMPts
set_option linter.unusedSimpArgs false
set_option linter.unusedVariables false
set_option linter.all false
namespace Go.Proofs.YtpnfdlnhmhekeaaGreat
open Go.RowKit

set_option maxRecDepth 100000 in
set_option maxHeartbeats 6400000 in
theorem sameRows_yes (v1 v2 : Value) (m : List (List CQ)) (e : Nat) (w : World) (h1 : NumMat w v1 m) (h2 : NumMat w v2 m) (hs : ∀ r ∈ m, ∀ y ∈ r, Small e y) (he : e ≤ 1000000) :
    Calls Tryz.prog 26 #[v1, v2] w (Ret w fun _ v' => v' = .bool true) := by
  obtain ⟨a1, c1, rfl, hc1, hc12⟩ := h1.dims
  obtain ⟨a2, c2, rfl, hc2, hc22⟩ := h2.dims
  obtain ⟨n, hn⟩ : ∃ n, m.length = n := ⟨_, rfl⟩
  have H1 := Lib.hid h1
  have H2 := Lib.hid h2
  have HS := Lib.hid hs
  have HN := Lib.hid hn
  rw [hn] at H1 H2 hc1 hc2 ⊢
  clear h1 h2 hs hn
  go_enter Tryz.func26, Tryz.ntmps26
  go_wp2_with fail
  go_loopw [14] (fun si wr => ∃ k : Nat, k ≤ n ∧ si = .int .i64 (k : Int) ∧ Below w.heap.size w wr) (fun si _ => n - (intOf si).toNat)
  case atStart => exact ⟨0, Nat.zero_le _, rfl, Below.refl _ _⟩
  case round =>
    obtain ⟨k, hk, rfl, hB⟩ := hrel
    by_cases hlt : k < n
    · obtain ⟨r, hr⟩ : ∃ r, m[k]? = some r := ⟨_, List.getElem?_eq_getElem (by have := HN.out; omega)⟩
      obtain ⟨b1, o1, x1, d1, rfl, -, g1, hl1, hd1, hd12⟩ := (H1.out.below hB (Nat.le_refl _)).list hr
      obtain ⟨b2, o2, x2, d2, rfl, -, g2, hl2, hd2, hd22⟩ := (H2.out.below hB (Nat.le_refl _)).list hr
      have HSR := Lib.hid (HS.out r (List.mem_of_getElem? hr))
      obtain ⟨p, hp⟩ : ∃ p, r.length = p := ⟨_, rfl⟩
      rw [hp] at g1 g2 hl1 hl2 hd1 hd2
      have HP := Lib.hid hp
      have hkn : (k : Int) < (n : Int) := by omega
      have hk0 : (0 : Int) ≤ (k : Int) := by omega
      clear hr hp
      go_upto_region 6 with (fail)
      go_region_held3 (fun w' => w'.cell? ⟨b1, o1 + k, none⟩ = some (.slice x1 p d1) ∧ w'.cell? ⟨b2, o2 + k, none⟩ = some (.slice x2 p d2)) (exact ⟨g1, g2⟩) (fail)
      have hB := hB.drew
      have g1 : wr.drew.cell? ⟨b1, o1 + k, none⟩ = some (.slice x1 p d1) := g1
      have g2 : wr.drew.cell? ⟨b2, o2 + k, none⟩ = some (.slice x2 p d2) := g2
      have hl1 := hl1.below (Below.refl wr.heap.size wr).drew (Nat.le_refl _)
      have hl2 := hl2.below (Below.refl wr.heap.size wr).drew (Nat.le_refl _)
      obtain ⟨W0, hW0⟩ : ∃ W0 : World, W0 = wr.drew := ⟨_, rfl⟩
      rw [← hW0] at hB g1 g2 hl1 hl2
      rw [← hW0]
      clear hW0
      have K1 := Lib.hid hl1
      have K2 := Lib.hid hl2
      have C1 := Lib.hid g1
      have C2 := Lib.hid g2
      clear hl1 hl2
      go_wp2_with fail
      go_loopw [33] (fun sj wt => ∃ j : Nat, j ≤ p ∧ sj = .int .i64 (j : Int) ∧ Below W0.heap.size W0 wt) (fun sj _ => p - (intOf sj).toNat)
      case atStart => exact ⟨0, Nat.zero_le _, rfl, Below.refl _ _⟩
      case round =>
        clear g1 g2
        obtain ⟨j, hj, rfl, hC⟩ := hrel
        by_cases hlj : j < p
        · obtain ⟨y, hy⟩ : ∃ y, r[j]? = some y := ⟨_, List.getElem?_eq_getElem (by have := HP.out; omega)⟩
          obtain ⟨b3, o3, s0, s2, sa1, sa3, sa4, sl1, sm1, sl3, sm3, sl4, sm4, rfl, -, hx1, e0, e1, e2, e3, e4⟩ := (K1.out.below hC (Nat.le_refl _)).num hy
          obtain ⟨b4, o4, t0, t2, ta1, ta3, ta4, tl1, tm1, tl3, tm3, tl4, tm4, rfl, -, hx2, f0, f1, f2, f3, f4⟩ := (K2.out.below hC (Nat.le_refl _)).num hy
          have c1 := (hC.cell (World.block_lt_of_cell? W0 _ C1.out)).trans C1.out
          have c2 := (hC.cell (World.block_lt_of_cell? W0 _ C2.out)).trans C2.out
          have hsy := HSR.out y (List.mem_of_getElem? hy)
          have hjp : (j : Int) < (p : Int) := by omega
          have hj0 : (0 : Int) ≤ (j : Int) := by omega
          have hkw : Below wr.heap.size wr wr.drew := (Below.refl _ _).drew
          have HC := Lib.hid (same_spec _ _ y y e wr.drew (hx1.below hkw (Nat.le_refl _)) (hx2.below hkw (Nat.le_refl _)) hsy hsy (by omega))
          have HEQ := Lib.hid (show cqEq y y = true from cqEq_iff.2 rfl)
          have lt1 := World.block_lt_of_cell? wr _ c1
          have lt2 := World.block_lt_of_cell? wr _ c2
          have lt3 := World.block_lt_of_cell? wr _ e0
          have lt4 := World.block_lt_of_cell? wr _ f0
          clear hy hx1 hx2 hsy
          go_upto_region 11 with (fail)
          have Gc1 := Lib.hid c1; have Gc2 := Lib.hid c2; have Ge0 := Lib.hid e0; have Ge1 := Lib.hid e1; have Ge2 := Lib.hid e2; have Ge3 := Lib.hid e3; have Ge4 := Lib.hid e4; have Gf0 := Lib.hid f0; have Gf1 := Lib.hid f1; have Gf2 := Lib.hid f2; have Gf3 := Lib.hid f3; have Gf4 := Lib.hid f4
          have tok1 : True := trivial
          go_region_held3 (fun w' => w'.cell? ⟨b1, o1 + k, none⟩ = some (.slice (some ⟨b3, o3, none⟩) p d1) ∧ w'.cell? ⟨b2, o2 + k, none⟩ = some (.slice (some ⟨b4, o4, none⟩) p d2) ∧ w'.cell? ⟨b3, o3 + j * 5, none⟩ = some (.bool s0) ∧ w'.cell? ⟨b3, o3 + j * 5 + 1, none⟩ = some (.slice sa1 sl1 sm1) ∧ w'.cell? ⟨b3, o3 + j * 5 + 2, none⟩ = some (.bool s2) ∧ w'.cell? ⟨b3, o3 + j * 5 + 3, none⟩ = some (.slice sa3 sl3 sm3) ∧ w'.cell? ⟨b3, o3 + j * 5 + 4, none⟩ = some (.slice sa4 sl4 sm4) ∧ w'.cell? ⟨b4, o4 + j * 5, none⟩ = some (.bool t0) ∧ w'.cell? ⟨b4, o4 + j * 5 + 1, none⟩ = some (.slice ta1 tl1 tm1) ∧ w'.cell? ⟨b4, o4 + j * 5 + 2, none⟩ = some (.bool t2) ∧ w'.cell? ⟨b4, o4 + j * 5 + 3, none⟩ = some (.slice ta3 tl3 tm3) ∧ w'.cell? ⟨b4, o4 + j * 5 + 4, none⟩ = some (.slice ta4 tl4 tm4)) (first | (with_reducible exact ⟨c1, c2, e0, e1, e2, e3, e4, f0, f1, f2, f3, f4⟩) | (simp [go_sem, c1, c2, e0, e1, e2, e3, e4, f0, f1, f2, f3, f4, lt1, lt2, lt3, lt4]; done)) (first
            | (go_simp; go_at_call 54; have _t := tok1; (with_reducible refine HC.out.mono ?_); rw [HEQ.out]; rintro e1 W1 ⟨_, rfl, rfl, hbx1⟩; have hbb1 : Below wr.heap.size wr W1 := hkw.trans hbx1; have c1 := (hbb1.cell (World.block_lt_of_cell? wr _ Gc1.out)).trans Gc1.out; have c2 := (hbb1.cell (World.block_lt_of_cell? wr _ Gc2.out)).trans Gc2.out; have e0 := (hbb1.cell (World.block_lt_of_cell? wr _ Ge0.out)).trans Ge0.out; have e1 := (hbb1.cell (World.block_lt_of_cell? wr _ Ge1.out)).trans Ge1.out; have e2 := (hbb1.cell (World.block_lt_of_cell? wr _ Ge2.out)).trans Ge2.out; have e3 := (hbb1.cell (World.block_lt_of_cell? wr _ Ge3.out)).trans Ge3.out; have e4 := (hbb1.cell (World.block_lt_of_cell? wr _ Ge4.out)).trans Ge4.out; have f0 := (hbb1.cell (World.block_lt_of_cell? wr _ Gf0.out)).trans Gf0.out; have f1 := (hbb1.cell (World.block_lt_of_cell? wr _ Gf1.out)).trans Gf1.out; have f2 := (hbb1.cell (World.block_lt_of_cell? wr _ Gf2.out)).trans Gf2.out; have f3 := (hbb1.cell (World.block_lt_of_cell? wr _ Gf3.out)).trans Gf3.out; have f4 := (hbb1.cell (World.block_lt_of_cell? wr _ Gf4.out)).trans Gf4.out; have lt1 := World.block_lt_of_cell? W1 _ c1; have lt2 := World.block_lt_of_cell? W1 _ c2; have lt3 := World.block_lt_of_cell? W1 _ e0; have lt4 := World.block_lt_of_cell? W1 _ f0; clear tok1 _t))
          have hC2 := hC.trans (hbb1.mono hC.size)
          clear lt1 lt2 lt3 lt4
          go_wp2_with fail
          go_roundw
          case rel => first | exact ⟨j + 1, by omega, by go_num, hC2⟩ | ((repeat apply Exists.intro); exact ⟨⟨j + 1, by omega, by go_num, hC2⟩, rfl⟩)
          case measure => simp [intOf]; omega
        · obtain rfl : j = p := by omega
          have hB3 := hB.trans (hC.mono hB.size)
          go_wp2_with fail
          go_roundw
          case rel => first | exact ⟨k + 1, by omega, by go_num, hB3⟩ | ((repeat apply Exists.intro); exact ⟨⟨k + 1, by omega, by go_num, hB3⟩, rfl⟩)
          case measure => simp [intOf]; omega
    · obtain rfl : k = n := by omega
      go_wp2_with fail
      go_ret
      exact ⟨_, rfl, rfl, hB⟩
end Go.Proofs.YtpnfdlnhmhekeaaGreat

namespace Go.Proofs.YtpnfdlnhmhekeaaGreat
open Go.RowKit

def bitsM (e : Nat) (l : List (List (List CQ))) : Prop := ∀ m ∈ l, ∀ r ∈ m, ∀ y ∈ r, Small e y

set_option maxRecDepth 100000 in
set_option maxHeartbeats 6400000 in
theorem sameWaves_yes (v1 v2 : Value) (x : Wv) (e : Nat) (w : World) (h1 : WvT w v1 x) (h2 : WvT w v2 x) (hla : x.a.length = x.fr.length) (hlb : x.b.length = x.fr.length) (hs : ∀ y ∈ x.fr, Small e y) (hsa : bitsM e x.a) (hsb : bitsM e x.b) (he : e ≤ 1000000) :
    Calls Tryz.prog 18 #[v1, v2] w (Ret w fun _ v' => v' = .bool true) := by
  obtain ⟨vf, va, vb, rfl, hf, ha, hb⟩ := h1
  obtain ⟨uf, ua, ub, rfl, kf, ka, kb⟩ := h2
  obtain ⟨af, cf, rfl, hcf, hcf'⟩ := hf.dims
  obtain ⟨aa, ca, rfl, hca, hca'⟩ := ha.dims
  obtain ⟨ab, cb, rfl, hcb, hcb'⟩ := hb.dims
  obtain ⟨af2, cf2, rfl, hcf2, hcf2'⟩ := kf.dims
  obtain ⟨aa2, ca2, rfl, hca2, hca2'⟩ := ka.dims
  obtain ⟨ab2, cb2, rfl, hcb2, hcb2'⟩ := kb.dims
  obtain ⟨n, hn⟩ : ∃ n, x.fr.length = n := ⟨_, rfl⟩
  rw [hn] at hla hlb hf kf hcf hcf2 ⊢
  rw [hla] at ha ka hca hca2 ⊢
  rw [hlb] at hb kb hcb hcb2 ⊢
  have HF := Lib.hid hf
  have HA := Lib.hid ha
  have HB := Lib.hid hb
  have KF := Lib.hid kf
  have KA := Lib.hid ka
  have KB := Lib.hid kb
  have HN := Lib.hid (And.intro hn (And.intro hla hlb))
  have HS := Lib.hid hs
  have HSA := Lib.hid hsa
  have HSB := Lib.hid hsb
  clear hf ha hb kf ka kb hs hsa hsb hn hla hlb
  go_enter Tryz.func18, Tryz.ntmps18
  go_upto_region 1 with (fail)
  obtain ⟨W, hW, o2, o3, hB, hS⟩ := boxes2 w 33 33 [.slice af n cf, .slice aa n ca, .slice ab n cb] [.slice af2 n cf2, .slice aa2 n ca2, .slice ab2 n cb2]
  rw [← hW]
  clear hW
  have hsw : w.heap.size ≤ W.heap.size := hB.size
  have HBW := Lib.hid hB
  have l2 := o2.lt
  have l3 := o3.lt
  generalize w.heap.size = g2 at o2 o3 l2 l3 ⊢
  have fo2 := o2.free; have co20 := o2.cell 0 _ rfl; have co21 := o2.cell 1 _ rfl; have co22 := o2.cell 2 _ rfl; have fo3 := o3.free; have co30 := o3.cell 0 _ rfl; have co31 := o3.cell 1 _ rfl; have co32 := o3.cell 2 _ rfl
  go_wp2_with fail
  clear co20 co21 co22 fo2 co30 co31 co32 fo3
  go_loopw [34] (fun si wr => ∃ k : Nat, k ≤ n ∧ si = .int .i64 (k : Int) ∧ Below W.heap.size W wr) (fun si _ => n - (intOf si).toNat)
  case atStart => exact ⟨0, Nat.zero_le _, rfl, Below.refl _ _⟩
  case round =>
    obtain ⟨k, hk, rfl, hC⟩ := hrel
    have hBr : Below w.heap.size w wr := HBW.out.trans (hC.mono hsw)
    have r2 := o2.below hC l2
    have r3 := o3.below hC l3
    by_cases hlt : k < n
    · obtain ⟨y, hy⟩ : ∃ y, x.fr[k]? = some y := ⟨_, List.getElem?_eq_getElem (by have := HN.out.1; omega)⟩
      obtain ⟨ma, hma⟩ : ∃ y, x.a[k]? = some y := ⟨_, List.getElem?_eq_getElem (by have := HN.out.2.1; omega)⟩
      obtain ⟨mb, hmb⟩ : ∃ y, x.b[k]? = some y := ⟨_, List.getElem?_eq_getElem (by have := HN.out.2.2; omega)⟩
      obtain ⟨bf, of1, s0, s2, sa1, sa3, sa4, sl1, sm1, sl3, sm3, sl4, sm4, rfl, -, hx1, e0, e1, e2, e3, e4⟩ := (HF.out.below hBr (Nat.le_refl _)).num hy
      obtain ⟨bf2, of2, t0, t2, ta1, ta3, ta4, tl1, tm1, tl3, tm3, tl4, tm4, rfl, -, hx2, f0, f1, f2, f3, f4⟩ := (KF.out.below hBr (Nat.le_refl _)).num hy
      obtain ⟨ba, oa, xa, da, rfl, -, m1, ha1, -, -⟩ := (HA.out.below hBr (Nat.le_refl _)).mat hma
      obtain ⟨ba2, oa2, xa2, da2, rfl, -, m2, ha2, -, -⟩ := (KA.out.below hBr (Nat.le_refl _)).mat hma
      obtain ⟨bb, ob, xb, db, rfl, -, m3, hb1, -, -⟩ := (HB.out.below hBr (Nat.le_refl _)).mat hmb
      obtain ⟨bb2, ob2, xb2, db2, rfl, -, m4, hb2, -, -⟩ := (KB.out.below hBr (Nat.le_refl _)).mat hmb
      have hsy := HS.out y (List.mem_of_getElem? hy)
      have b0 := r2.cell 0 _ rfl
      have b1 := r2.cell 1 _ rfl
      have b2 := r2.cell 2 _ rfl
      have d0 := r3.cell 0 _ rfl
      have d1 := r3.cell 1 _ rfl
      have d2 := r3.cell 2 _ rfl
      have hkn : (k : Int) < (n : Int) := by omega
      have hk0 : (0 : Int) ≤ (k : Int) := by omega
      have hkw : Below wr.heap.size wr wr.drew := (Below.refl _ _).drew
      have HC1 := Lib.hid (same_spec _ _ y y e wr.drew (hx1.below hkw (Nat.le_refl _)) (hx2.below hkw (Nat.le_refl _)) hsy hsy (by omega))
      have HEQ := Lib.hid (show cqEq y y = true from cqEq_iff.2 rfl)
      have HC2 := Lib.hid (fun W' (hb : Below wr.heap.size wr W') => sameRows_yes _ _ ma e W' (ha1.below hb (Nat.le_refl _)) (ha2.below hb (Nat.le_refl _)) (HSA.out ma (List.mem_of_getElem? hma)) he)
      have HC3 := Lib.hid (fun W' (hb : Below wr.heap.size wr W') => sameRows_yes _ _ mb e W' (hb1.below hb (Nat.le_refl _)) (hb2.below hb (Nat.le_refl _)) (HSB.out mb (List.mem_of_getElem? hmb)) he)
      generalize ma.length = pa at *
      generalize mb.length = pb at *
      have lt0 := World.block_lt_of_cell? wr _ b0; have lt1 := World.block_lt_of_cell? wr _ d0; have lt2 := World.block_lt_of_cell? wr _ e0; have lt3 := World.block_lt_of_cell? wr _ f0; have lt4 := World.block_lt_of_cell? wr _ m1; have lt5 := World.block_lt_of_cell? wr _ m2; have lt6 := World.block_lt_of_cell? wr _ m3; have lt7 := World.block_lt_of_cell? wr _ m4
      clear hx1 hx2 ha1 ha2 hb1 hb2 hsy hy hma hmb r2 r3
      go_upto_region 6 with (fail)
      have Gb0 := Lib.hid b0; have Gb1 := Lib.hid b1; have Gb2 := Lib.hid b2; have Gd0 := Lib.hid d0; have Gd1 := Lib.hid d1; have Gd2 := Lib.hid d2; have Ge0 := Lib.hid e0; have Ge1 := Lib.hid e1; have Ge2 := Lib.hid e2; have Ge3 := Lib.hid e3; have Ge4 := Lib.hid e4; have Gf0 := Lib.hid f0; have Gf1 := Lib.hid f1; have Gf2 := Lib.hid f2; have Gf3 := Lib.hid f3; have Gf4 := Lib.hid f4; have Gm1 := Lib.hid m1; have Gm2 := Lib.hid m2; have Gm3 := Lib.hid m3; have Gm4 := Lib.hid m4
      have tok1 : True := trivial
      have tok2 : True := trivial
      have tok3 : True := trivial
      go_region_held3 (fun w' => w'.cell? ⟨g2, 0, none⟩ = some (.slice (some ⟨bf, of1, none⟩) n cf) ∧ w'.cell? ⟨g2, 1, none⟩ = some (.slice (some ⟨ba, oa, none⟩) n ca) ∧ w'.cell? ⟨g2, 2, none⟩ = some (.slice (some ⟨bb, ob, none⟩) n cb) ∧ w'.cell? ⟨g2 + 1, 0, none⟩ = some (.slice (some ⟨bf2, of2, none⟩) n cf2) ∧ w'.cell? ⟨g2 + 1, 1, none⟩ = some (.slice (some ⟨ba2, oa2, none⟩) n ca2) ∧ w'.cell? ⟨g2 + 1, 2, none⟩ = some (.slice (some ⟨bb2, ob2, none⟩) n cb2) ∧ w'.cell? ⟨bf, of1 + k * 5, none⟩ = some (.bool s0) ∧ w'.cell? ⟨bf, of1 + k * 5 + 1, none⟩ = some (.slice sa1 sl1 sm1) ∧ w'.cell? ⟨bf, of1 + k * 5 + 2, none⟩ = some (.bool s2) ∧ w'.cell? ⟨bf, of1 + k * 5 + 3, none⟩ = some (.slice sa3 sl3 sm3) ∧ w'.cell? ⟨bf, of1 + k * 5 + 4, none⟩ = some (.slice sa4 sl4 sm4) ∧ w'.cell? ⟨bf2, of2 + k * 5, none⟩ = some (.bool t0) ∧ w'.cell? ⟨bf2, of2 + k * 5 + 1, none⟩ = some (.slice ta1 tl1 tm1) ∧ w'.cell? ⟨bf2, of2 + k * 5 + 2, none⟩ = some (.bool t2) ∧ w'.cell? ⟨bf2, of2 + k * 5 + 3, none⟩ = some (.slice ta3 tl3 tm3) ∧ w'.cell? ⟨bf2, of2 + k * 5 + 4, none⟩ = some (.slice ta4 tl4 tm4) ∧ w'.cell? ⟨ba, oa + k, none⟩ = some (.slice xa pa da) ∧ w'.cell? ⟨ba2, oa2 + k, none⟩ = some (.slice xa2 pa da2) ∧ w'.cell? ⟨bb, ob + k, none⟩ = some (.slice xb pb db) ∧ w'.cell? ⟨bb2, ob2 + k, none⟩ = some (.slice xb2 pb db2)) (first | (with_reducible exact ⟨b0, b1, b2, d0, d1, d2, e0, e1, e2, e3, e4, f0, f1, f2, f3, f4, m1, m2, m3, m4⟩) | (simp [go_sem, b0, b1, b2, d0, d1, d2, e0, e1, e2, e3, e4, f0, f1, f2, f3, f4, m1, m2, m3, m4, lt0, lt1, lt2, lt3, lt4, lt5, lt6, lt7]; done)) (first
        | (go_simp; go_at_call 54; have _t := tok1; (with_reducible refine HC1.out.mono ?_); rw [HEQ.out]; rintro e1 W1 ⟨_, rfl, rfl, hbx1⟩; have hbb1 : Below wr.heap.size wr W1 := hkw.trans hbx1; have b0 := (hbb1.cell (World.block_lt_of_cell? wr _ Gb0.out)).trans Gb0.out; have b1 := (hbb1.cell (World.block_lt_of_cell? wr _ Gb1.out)).trans Gb1.out; have b2 := (hbb1.cell (World.block_lt_of_cell? wr _ Gb2.out)).trans Gb2.out; have d0 := (hbb1.cell (World.block_lt_of_cell? wr _ Gd0.out)).trans Gd0.out; have d1 := (hbb1.cell (World.block_lt_of_cell? wr _ Gd1.out)).trans Gd1.out; have d2 := (hbb1.cell (World.block_lt_of_cell? wr _ Gd2.out)).trans Gd2.out; have e0 := (hbb1.cell (World.block_lt_of_cell? wr _ Ge0.out)).trans Ge0.out; have e1 := (hbb1.cell (World.block_lt_of_cell? wr _ Ge1.out)).trans Ge1.out; have e2 := (hbb1.cell (World.block_lt_of_cell? wr _ Ge2.out)).trans Ge2.out; have e3 := (hbb1.cell (World.block_lt_of_cell? wr _ Ge3.out)).trans Ge3.out; have e4 := (hbb1.cell (World.block_lt_of_cell? wr _ Ge4.out)).trans Ge4.out; have f0 := (hbb1.cell (World.block_lt_of_cell? wr _ Gf0.out)).trans Gf0.out; have f1 := (hbb1.cell (World.block_lt_of_cell? wr _ Gf1.out)).trans Gf1.out; have f2 := (hbb1.cell (World.block_lt_of_cell? wr _ Gf2.out)).trans Gf2.out; have f3 := (hbb1.cell (World.block_lt_of_cell? wr _ Gf3.out)).trans Gf3.out; have f4 := (hbb1.cell (World.block_lt_of_cell? wr _ Gf4.out)).trans Gf4.out; have m1 := (hbb1.cell (World.block_lt_of_cell? wr _ Gm1.out)).trans Gm1.out; have m2 := (hbb1.cell (World.block_lt_of_cell? wr _ Gm2.out)).trans Gm2.out; have m3 := (hbb1.cell (World.block_lt_of_cell? wr _ Gm3.out)).trans Gm3.out; have m4 := (hbb1.cell (World.block_lt_of_cell? wr _ Gm4.out)).trans Gm4.out; have lt0 := World.block_lt_of_cell? W1 _ b0; have lt1 := World.block_lt_of_cell? W1 _ d0; have lt2 := World.block_lt_of_cell? W1 _ e0; have lt3 := World.block_lt_of_cell? W1 _ f0; have lt4 := World.block_lt_of_cell? W1 _ m1; have lt5 := World.block_lt_of_cell? W1 _ m2; have lt6 := World.block_lt_of_cell? W1 _ m3; have lt7 := World.block_lt_of_cell? W1 _ m4; clear tok1 _t)
        | (go_simp; go_at_call 26; have _t := tok2; (with_reducible refine (HC2.out W1 hbb1).mono ?_); rintro e1 W2 ⟨_, rfl, rfl, hbx2⟩; have hbb2 : Below wr.heap.size wr W2 := hbb1.trans (hbx2.mono hbb1.size); have b0 := (hbb2.cell (World.block_lt_of_cell? wr _ Gb0.out)).trans Gb0.out; have b1 := (hbb2.cell (World.block_lt_of_cell? wr _ Gb1.out)).trans Gb1.out; have b2 := (hbb2.cell (World.block_lt_of_cell? wr _ Gb2.out)).trans Gb2.out; have d0 := (hbb2.cell (World.block_lt_of_cell? wr _ Gd0.out)).trans Gd0.out; have d1 := (hbb2.cell (World.block_lt_of_cell? wr _ Gd1.out)).trans Gd1.out; have d2 := (hbb2.cell (World.block_lt_of_cell? wr _ Gd2.out)).trans Gd2.out; have e0 := (hbb2.cell (World.block_lt_of_cell? wr _ Ge0.out)).trans Ge0.out; have e1 := (hbb2.cell (World.block_lt_of_cell? wr _ Ge1.out)).trans Ge1.out; have e2 := (hbb2.cell (World.block_lt_of_cell? wr _ Ge2.out)).trans Ge2.out; have e3 := (hbb2.cell (World.block_lt_of_cell? wr _ Ge3.out)).trans Ge3.out; have e4 := (hbb2.cell (World.block_lt_of_cell? wr _ Ge4.out)).trans Ge4.out; have f0 := (hbb2.cell (World.block_lt_of_cell? wr _ Gf0.out)).trans Gf0.out; have f1 := (hbb2.cell (World.block_lt_of_cell? wr _ Gf1.out)).trans Gf1.out; have f2 := (hbb2.cell (World.block_lt_of_cell? wr _ Gf2.out)).trans Gf2.out; have f3 := (hbb2.cell (World.block_lt_of_cell? wr _ Gf3.out)).trans Gf3.out; have f4 := (hbb2.cell (World.block_lt_of_cell? wr _ Gf4.out)).trans Gf4.out; have m1 := (hbb2.cell (World.block_lt_of_cell? wr _ Gm1.out)).trans Gm1.out; have m2 := (hbb2.cell (World.block_lt_of_cell? wr _ Gm2.out)).trans Gm2.out; have m3 := (hbb2.cell (World.block_lt_of_cell? wr _ Gm3.out)).trans Gm3.out; have m4 := (hbb2.cell (World.block_lt_of_cell? wr _ Gm4.out)).trans Gm4.out; have lt0 := World.block_lt_of_cell? W2 _ b0; have lt1 := World.block_lt_of_cell? W2 _ d0; have lt2 := World.block_lt_of_cell? W2 _ e0; have lt3 := World.block_lt_of_cell? W2 _ f0; have lt4 := World.block_lt_of_cell? W2 _ m1; have lt5 := World.block_lt_of_cell? W2 _ m2; have lt6 := World.block_lt_of_cell? W2 _ m3; have lt7 := World.block_lt_of_cell? W2 _ m4; clear tok2 _t)
        | (go_simp; go_at_call 26; have _t := tok3; (with_reducible refine (HC3.out W2 hbb2).mono ?_); rintro e1 W3 ⟨_, rfl, rfl, hbx3⟩; have hbb3 : Below wr.heap.size wr W3 := hbb2.trans (hbx3.mono hbb2.size); have b0 := (hbb3.cell (World.block_lt_of_cell? wr _ Gb0.out)).trans Gb0.out; have b1 := (hbb3.cell (World.block_lt_of_cell? wr _ Gb1.out)).trans Gb1.out; have b2 := (hbb3.cell (World.block_lt_of_cell? wr _ Gb2.out)).trans Gb2.out; have d0 := (hbb3.cell (World.block_lt_of_cell? wr _ Gd0.out)).trans Gd0.out; have d1 := (hbb3.cell (World.block_lt_of_cell? wr _ Gd1.out)).trans Gd1.out; have d2 := (hbb3.cell (World.block_lt_of_cell? wr _ Gd2.out)).trans Gd2.out; have e0 := (hbb3.cell (World.block_lt_of_cell? wr _ Ge0.out)).trans Ge0.out; have e1 := (hbb3.cell (World.block_lt_of_cell? wr _ Ge1.out)).trans Ge1.out; have e2 := (hbb3.cell (World.block_lt_of_cell? wr _ Ge2.out)).trans Ge2.out; have e3 := (hbb3.cell (World.block_lt_of_cell? wr _ Ge3.out)).trans Ge3.out; have e4 := (hbb3.cell (World.block_lt_of_cell? wr _ Ge4.out)).trans Ge4.out; have f0 := (hbb3.cell (World.block_lt_of_cell? wr _ Gf0.out)).trans Gf0.out; have f1 := (hbb3.cell (World.block_lt_of_cell? wr _ Gf1.out)).trans Gf1.out; have f2 := (hbb3.cell (World.block_lt_of_cell? wr _ Gf2.out)).trans Gf2.out; have f3 := (hbb3.cell (World.block_lt_of_cell? wr _ Gf3.out)).trans Gf3.out; have f4 := (hbb3.cell (World.block_lt_of_cell? wr _ Gf4.out)).trans Gf4.out; have m1 := (hbb3.cell (World.block_lt_of_cell? wr _ Gm1.out)).trans Gm1.out; have m2 := (hbb3.cell (World.block_lt_of_cell? wr _ Gm2.out)).trans Gm2.out; have m3 := (hbb3.cell (World.block_lt_of_cell? wr _ Gm3.out)).trans Gm3.out; have m4 := (hbb3.cell (World.block_lt_of_cell? wr _ Gm4.out)).trans Gm4.out; have lt0 := World.block_lt_of_cell? W3 _ b0; have lt1 := World.block_lt_of_cell? W3 _ d0; have lt2 := World.block_lt_of_cell? W3 _ e0; have lt3 := World.block_lt_of_cell? W3 _ f0; have lt4 := World.block_lt_of_cell? W3 _ m1; have lt5 := World.block_lt_of_cell? W3 _ m2; have lt6 := World.block_lt_of_cell? W3 _ m3; have lt7 := World.block_lt_of_cell? W3 _ m4; clear tok3 _t))
      have hC2 := hC.trans (hbb3.mono hC.size)
      clear lt0 lt1 lt2 lt3 lt4 lt5 lt6 lt7
      go_wp2_with fail
      go_roundw
      case rel => first | exact ⟨k + 1, by omega, by go_num, hC2⟩ | ((repeat apply Exists.intro); exact ⟨⟨k + 1, by omega, by go_num, hC2⟩, rfl⟩)
      case measure => simp [intOf]; omega
    · obtain rfl : k = n := by omega
      have fr2 := r2.free; have cr20 := r2.cell 0 _ rfl; have cr21 := r2.cell 1 _ rfl; have cr22 := r2.cell 2 _ rfl; have fr3 := r3.free; have cr30 := r3.cell 0 _ rfl; have cr31 := r3.cell 1 _ rfl; have cr32 := r3.cell 2 _ rfl
      go_wp2_with fail
      go_ret
      exact ⟨_, rfl, rfl, hBr⟩
end Go.Proofs.YtpnfdlnhmhekeaaGreat
