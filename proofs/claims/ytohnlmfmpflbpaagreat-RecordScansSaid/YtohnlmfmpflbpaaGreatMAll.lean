/- record.All: what its iterator yields. Conditions: none. -/
import Derived.Test.YtohnlmfmpflbpaaGreatMDecD
import Derived.Test.YtohnlmfmpflbpaaGreatMFrOpen
import Derived.Test.YtohnlmfmpflbpaaGreatMRange
import Derived.Test.YtohnlmfmpflbpaaGreatMRefI
import Derived.Test.YtohnlmfmpflbpaaGreatMScanP
set_option linter.unusedSimpArgs false
set_option linter.unusedVariables false
set_option linter.all false
namespace Go.Proofs.YtohnlmfmpflbpaaGreat
open Go.RowKit Go.Shelf

attribute [local go_sem] Oper.semAt_some

set_option maxRecDepth 100000 in
set_option maxHeartbeats 2000000 in
theorem all1_in (n l g n0 B : Nat) (a : Option Addr) (ls : List UInt8) (len cap : Nat) (J Jx : List Hit → World → Prop) (W : World) (hJ : AbidesFrom W.heap.size J) (hg : W.cell? ⟨g, 0, none⟩ = some (.slice a len cap)) (hB : B ≤ W.heap.size)
    (hA : ∀ W', KeepG n0 g W W' → BytesA W' a ls) (Hn : Hid (ls.length = len)) (hcap : len ≤ cap) (hmax : cap ≤ 9223372036854775807)
    (hY : ∀ pre x W1, J pre W1 → NextHit ls B pre x W1 → YieldAt Fence.wide (n - 1) Tryz.prog l (encHit x) W1 fun e W' => (e = .returned (.bool true) ∧ J (pre ++ [x]) W' ∧ KeepG n0 g W1 W') ∨ (e = .returned (.bool false) ∧ Jx (pre ++ [x]) W'))
    (h0 : J [] W) :
    CallsIn Fence.wide n Tryz.prog 48 #[.func (.yield l) #[] #[], .pointer (some ⟨g, 0, none⟩)] W fun e W' => (∃ v, e = .returned v) ∧
      ((∃ xs : List Hit, xs.map hkey = scanFrom ls 0 ∧ J xs W') ∨ (∃ pre : List Hit, (∃ rest, scanFrom ls 0 = pre.map hkey ++ rest) ∧ Jx pre W')) := by
  have HA := Lib.hid hA
  clear hA
  have hst := run_store_float
  refine callsIn_of_wp Tryz.func48 rfl trivial ?_ rfl
  simp only [Tryz.ntmps48, List.size_toArray, List.length_cons, List.length_nil, Nat.reduceAdd, Nat.reduceSub, Array.replicate_succ, Array.replicate_zero, List.push_toArray, List.append_toArray, List.nil_append, List.cons_append]
  gi_wp2
  gi_loopw [3] (fun i wr => ∃ (k : Nat) (pre : List Hit), k ≤ len ∧ i = .int .i64 (k : Int) ∧ Hid (scanFrom ls 0 = pre.map hkey ++ scanFrom ls k) ∧ J pre wr ∧ KeepG n0 g W wr) (fun i _ => len - (intOf i).toNat)
  case atStart => exact ⟨0, [], Nat.zero_le _, rfl, rfl, h0, KeepG.refl _ _ _⟩
  case round =>
    obtain ⟨k, pre, hk, rfl, hsc, hj, hK⟩ := hrel
    have hsz := hK.size
    have q : wr.cell? ⟨g, 0, none⟩ = some (.slice a len cap) := (World.cell?_of_block (w := W) (hK.blk g (.inr rfl) (World.block_lt_of_cell? W _ hg))).trans hg
    by_cases hlt : k < len
    · have hAr := HA.out wr hK
      obtain ⟨b, o, rfl, -⟩ := hAr.cell (i := k) (by rw [Hn.out]; exact hlt)
      have hdl : (ls.drop k).length = len - k := by rw [List.length_drop, Hn.out]
      have i1 : (0 : Int) ≤ (k : Int) := by omega
      have i2 : (k : Int) ≤ (len : Int) := by omega
      have i3 : ¬ (cap = k) := by omega
      have hD := decode_fresh (some ⟨b, o + k, none⟩) (ls.drop k) (len - k) (cap - k) wr (hAr.drop k) hdl (by omega) (by omega)
      have HD := Lib.hid hD
      clear hD hdl hAr
      by_cases he : decErr (ls.drop k) = 0
      · have hit := scan_hit (l := ls) (by rw [Hn.out]; exact hlt) he
        obtain ⟨hl1, hl2⟩ := headLen_le he
        rw [List.length_drop, Hn.out] at hl1 hl2
        have hl18 : 18 ≤ headLen (ls.drop k) := by unfold headLen; omega
        have hP : ∀ w v, DecPostF wr.heap.size (ls.drop k) w v → ∃ u, v = .tuple #[u, .int .i64 (headLen (ls.drop k) : Int), .int .i64 0] ∧ FrRep w u (decFr (ls.drop k)) ∧ FrTy wr.heap.size w u := fun w v h => by
          unfold DecPostF at h
          rw [if_pos he, if_pos he, he] at h
          exact h
        generalize decFr (ls.drop k) = F at *
        generalize headLen (ls.drop k) = N at *
        have HP := Lib.hid hP
        have HIT := Lib.hid hit
        clear hP hit he
        gi_wp2
        refine ⟨trivial, (fun h => by cases h), ?_⟩
        refine (callsIn_wide.2 HD.out).mono ?_
        rintro e W9 ⟨_, rfl, hpost, hb9⟩
        obtain ⟨u, rfl, hu, hty⟩ := HP.out _ _ hpost
        clear hpost
        obtain ⟨am, lm, cm, ap, lp, cp, rfl⟩ := hu.open
        have hb10 : Below wr.heap.size wr (W9.alloc (.cells #[.int .u32 (F.seq : Int), .int .i64 F.point, .int .i64 F.source, .int .i64 F.turn, .float .f32 F.scale, .slice am lm cm, .slice ap lp cp] 27)) := hb9.alloc hb9.size _
        have hj9 : J pre (W9.alloc (.cells #[.int .u32 (F.seq : Int), .int .i64 F.point, .int .i64 F.source, .int .i64 F.turn, .float .f32 F.scale, .slice am lm cm, .slice ap lp cp] 27)) := hJ _ _ _ none hj (grown_of_below hb10 none) (fun _ e => by cases e)
        have hu9 := hu.below ((Below.refl W9.heap.size W9).alloc (Nat.le_refl _) (.cells #[.int .u32 (F.seq : Int), .int .i64 F.point, .int .i64 F.source, .int .i64 F.turn, .float .f32 F.scale, .slice am lm cm, .slice ap lp cp] 27)) (Nat.le_refl _)
        obtain ⟨fn, tmps, assign, body, hy, hR⟩ := hY pre (k, .agg #[.int .u32 (F.seq : Int), .int .i64 F.point, .int .i64 F.source, .int .i64 F.turn, .float .f32 F.scale, .slice am lm cm, .slice ap lp cp], F) _ hj9 ⟨⟨_, by rw [hsc.out, HIT.out]; rfl⟩, hu9, hty.below ((Below.refl W9.heap.size W9).alloc (Nat.le_refl _) _) (by omega)⟩
        simp only [encHit] at hy
        have HSC : Hid (scanFrom ls 0 = (pre ++ [(k, Value.agg #[.int .u32 (F.seq : Int), .int .i64 F.point, .int .i64 F.source, .int .i64 F.turn, .float .f32 F.scale, .slice am lm cm, .slice ap lp cp], F)]).map hkey ++ scanFrom ls (k + N)) := by show _ = _; rw [hsc.out, HIT.out, List.map_append, List.append_assoc]; rfl
        have hB10 := hK.trans (KeepG.of_below hb10)
        have hs10 := hb10.size
        clear hj hu hu9 hb9 hsc HIT hty
        gi_wp2
        refine ⟨(fun h => by cases h), hR.mono ?_⟩
        rintro e W3 (⟨rfl, hJ3, hk3⟩ | ⟨rfl, hJx3⟩)
        · have hs3 := hk3.size
          gi_wp2
          go_roundw
          case rel => exact ⟨k + N, _, by omega, by go_num, HSC, hJ3, hB10.trans hk3⟩
          case measure => simp [intOf]; omega
        · gi_wp2
          refine bodyPost_ret (results_none rfl _ _ _) rfl ?_
          exact ⟨⟨_, rfl⟩, .inr ⟨_, ⟨_, HSC.out⟩, hJx3⟩⟩
      · have hm := scan_miss (by rw [Hn.out]; exact hlt) he
        have hsc2 : Hid (scanFrom ls 0 = pre.map hkey ++ scanFrom ls (k + 1)) := by show _ = _; rw [← hm]; exact hsc.out
        have hz : ((decErr (ls.drop k) : Int) != 0) = true := by simp; omega
        gi_wp2
        refine ⟨trivial, (fun h => by cases h), ?_⟩
        refine (callsIn_wide.2 HD.out).mono ?_
        rintro e W9 ⟨_, rfl, hpost, hb9⟩
        unfold DecPostF at hpost
        rw [if_neg he, if_neg he] at hpost
        obtain ⟨u, rfl, hu, -⟩ := hpost
        obtain ⟨am, lm, cm, ap, lp, cp, rfl⟩ := hu.open
        have hb10 : Below wr.heap.size wr (W9.alloc (.cells #[.int .u32 (zeroFr.seq : Int), .int .i64 zeroFr.point, .int .i64 zeroFr.source, .int .i64 zeroFr.turn, .float .f32 zeroFr.scale, .slice am lm cm, .slice ap lp cp] 27)) := hb9.alloc hb9.size _
        have hj9 : J pre (W9.alloc (.cells #[.int .u32 (zeroFr.seq : Int), .int .i64 zeroFr.point, .int .i64 zeroFr.source, .int .i64 zeroFr.turn, .float .f32 zeroFr.scale, .slice am lm cm, .slice ap lp cp] 27)) := hJ _ _ _ none hj (grown_of_below hb10 none) (fun _ e => by cases e)
        have hB10 := hK.trans (KeepG.of_below hb10)
        have hs10 := hb10.size
        clear hj hu hb9 hsc hb10
        gi_wp2
        go_roundw
        case rel => exact ⟨k + 1, pre, by omega, by go_num, hsc2, hj9, hB10⟩
        case measure => simp [intOf]; omega
    · obtain rfl : k = len := by omega
      have hend : pre.map hkey = scanFrom ls 0 := by rw [hsc.out, scan_end (by rw [Hn.out]; exact Nat.le_refl _), List.append_nil]
      have HE := Lib.hid hend
      clear hend
      gi_wp2
      go_end0
      exact ⟨⟨_, rfl⟩, .inl ⟨pre, HE.out, hj⟩⟩

set_option maxRecDepth 100000 in
set_option maxHeartbeats 1000000 in
theorem all_spec (n : Nat) (a : Option Addr) (len cap : Nat) (w : World) :
    CallsIn Fence.wide n Tryz.prog 22 #[.slice a len cap] w fun e w' => e = .returned (.func (.func 48) #[] #[.pointer (some ⟨w.heap.size, 0, none⟩)]) ∧ w' = w.alloc (.cells #[.slice a len cap] 31) := by
  refine callsIn_of_wp Tryz.func22 rfl trivial ?_ rfl
  simp only [Tryz.ntmps22, List.size_toArray, List.length_cons, List.length_nil, Nat.reduceAdd, Nat.reduceSub, Array.replicate_succ, Array.replicate_zero, List.push_toArray, List.append_toArray, List.nil_append, List.cons_append]
  gi_wp2
  go_ret
  exact ⟨rfl, rfl⟩

/-- What All yields. -/
theorem all_yields (n g n0 B : Nat) (a : Option Addr) (ls : List UInt8) (len cap : Nat) (w : World) (hg : w.cell? ⟨g, 0, none⟩ = some (.slice a len cap)) (hn0 : n0 ≤ w.heap.size) (hB : B ≤ w.heap.size) (hA : ∀ W', KeepG n0 g w W' → BytesA W' a ls) (Hn : Hid (ls.length = len)) (hcap : len ≤ cap) (hmax : cap ≤ 9223372036854775807) :
    Yields n 48 #[.pointer (some ⟨g, 0, none⟩)] encHit (NextHit ls B) n0 g (fun xs => xs.map hkey = scanFrom ls 0) (fun pre => ∃ rest, scanFrom ls 0 = pre.map hkey ++ rest) w := fun l J Jx W hW hJ _ hY h0 =>
  all1_in n l g n0 B a ls len cap J Jx W hJ ((hW.cell (p := ⟨g, 0, none⟩) (World.block_lt_of_cell? w _ hg)).trans hg) (Nat.le_trans hB hW.size) (fun W' hb => hA W' ((KeepG.of_below hW).trans hb)) Hn hcap hmax hY h0
end Go.Proofs.YtohnlmfmpflbpaaGreat
