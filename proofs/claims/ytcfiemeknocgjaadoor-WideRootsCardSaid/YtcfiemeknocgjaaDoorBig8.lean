/- The walk of gromaref01's Words. Conditions: at most four words. -/
import Derived.Test.YtcfiemeknocgjaaDoorBig7
import Derived.Test.YtcfiemeknocgjaaDoorDig2
import Derived.IntWalk
namespace Go.Proofs.YtcfiemeknocgjaaDoor
open Go.RowKit

/-- a slice of words that holds these -/
structure Ws (w : World) (b : Nat) (ws : List Int) : Prop where
  cell : ∀ i, i < ws.length → w.cell? ⟨b, i, none⟩ = some (.int .u64 (ws.getD i 0))
  blk : b < w.heap.size
  ok : WordsOk ws
  len : ws.length ≤ 4
theorem Ws.of {w w' : World} {b : Nat} {ws : List Int} (h : Ws w b ws) (hb : Below w.heap.size w w') : Ws w' b ws :=
  ⟨fun i hi => by rw [hb.cell (p := ⟨b, i, none⟩) h.blk]; exact h.cell i hi, Nat.lt_of_lt_of_le h.blk hb.size, h.ok, h.len⟩

theorem Blk.grown {w w' : World} {b : Nat} {c : Array Value} {t : TypeId} {row : Option Nat} (h : Blk w b c t) (hg : w.grownBy w' row) (hne : row ≠ some b) : Blk w' b c t := by
  have := hg.block b h.lt (fun e => hne e.symm)
  exact this.trans h
theorem ownsRow_drew {w : World} {base n size : Nat} {e : TypeId} {v : Value} {xs : List Value} (h : w.ownsRow base e size v n xs) : w.drew.ownsRow base e size v n xs := h
theorem words_get {ws : List Int} (h : WordsOk ws) (i : Nat) : Wd (ws.getD i 0) := by
  by_cases hi : i < ws.length
  · rw [getD_in' hi]; exact h _ (List.getElem_mem hi)
  · rw [getD_out (by omega)]; exact ⟨by decide, by decide⟩
theorem p2_le {i j : Nat} (h : i ≤ j) : (2 : Int) ^ i ≤ 2 ^ j := by
  have e : (2 : Int) ^ j = 2 ^ i * 2 ^ (j - i) := by rw [← Int.pow_add, show i + (j - i) = j by omega]
  have := p2_pos (j - i); have p := p2_pos i
  have : (2 : Int) ^ i * 1 ≤ 2 ^ i * 2 ^ (j - i) := Int.mul_le_mul_of_nonneg_left (by omega) (by omega)
  omega
theorem u64_p2 {i : Nat} (h : i < 64) : IntKind.u64.wrap (2 ^ i) = 2 ^ i := by
  have p := p2_pos i
  have e : (2 : Int) ^ 64 = 2 ^ i * 2 ^ (64 - i) := by rw [← Int.pow_add, show i + (64 - i) = 64 by omega]
  have q : (2 : Int) ^ i * 2 ≤ 2 ^ i * 2 ^ (64 - i) := by
    refine Int.mul_le_mul_of_nonneg_left ?_ (Int.le_of_lt p)
    have e2 : (2 : Int) ^ (64 - i) = 2 * 2 ^ (63 - i) := by rw [show 64 - i = (63 - i) + 1 by omega, Int.pow_succ, Int.mul_comm]
    have := p2_pos (63 - i)
    omega
  have e64 : (2 : Int) ^ 64 = 18446744073709551616 := rfl
  have hw : ∀ x : Int, 0 ≤ x → x < 18446744073709551616 → IntKind.u64.wrap x = x := fun x h0 h1 => by simp [IntKind.wrap, IntKind.signed, IntKind.bits]; omega
  exact hw _ (Int.le_of_lt p) (by omega)

set_option maxRecDepth 100000 in
set_option maxHeartbeats 1000000 in
theorem Words_any (b cap n : Nat) (ws : List Int) (w : World) (h : Ws w b ws) (hn : n = ws.length) :
    Calls Tryd.prog 39 #[.slice (some ⟨b, 0, none⟩) n cap] w (GivesBig w (uval ws) (64 * n / 15 + 1)) := by
  obtain ⟨i0, hi, hz0, hz1, hz2⟩ := info_parts info_int
  have HW := Lib.hid h
  have HN := Lib.hid hn
  have n4 : n ≤ 4 := hn ▸ h.len
  clear h hn
  go_enter Tryd.func39, Tryd.ntmps39
  go_wp2_with fail
  refine name_world ?_
  intro W hW
  have k0 : Blk W w.heap.size #[.bool false, .slice none 0 0] 34 := by rw [hW]; exact Blk.new _ _ _
  have hb0 : Below w.heap.size w W := by rw [hW]; exact below_a1 _ _
  clear hW
  go_loopw [3, 4, 5, 6] (fun out room many i wr => ∃ (k m L : Nat) (r : Int) (ds : List Int), k ≤ 64 * n ∧ i = .int .i64 k ∧ many = .int .i64 m ∧ m ≤ 14 ∧ room = .int .u64 r ∧ 0 ≤ r ∧ r < 32768 ∧ L ≤ 18 ∧ wr.ownsRow (w.heap.size + 1) 3 1 out L (dg ds) ∧
      Hid (ds.length = L ∧ Gat (uval ws) k m ds r) ∧ Blk wr w.heap.size #[.bool false, .slice none 0 0] 34 ∧ Below w.heap.size w wr) (fun _ _ _ i _ => 64 * n - (intOf i).toNat)
  case atStart => exact ⟨0, 0, 0, 0, [], Nat.zero_le _, rfl, rfl, by decide, rfl, by decide, by decide, by decide, World.ownsRow_nil _ _ _ _, ⟨rfl, Gat.zero _⟩, k0, hb0⟩
  case round =>
    clear k0 hb0
    rename_i wr
    obtain ⟨k, m, L, r, ds, hk, rfl, rfl, hm, rfl, r0, r1, hL, hown, hds, kr, hbl⟩ := hrel
    by_cases h1 : k < 64 * n
    · have e0 : wr.cell? ⟨b, k / 64, none⟩ = some (.int .u64 (ws.getD (k / 64) 0)) := by rw [hbl.cell (p := ⟨b, k / 64, none⟩) HW.out.blk]; exact HW.out.cell _ (by rw [← HN.out]; omega)
      obtain ⟨x, hx⟩ : ∃ x, x = ws.getD (k / 64) 0 := ⟨_, rfl⟩
      rw [← hx] at e0
      have HX := Lib.hid hx
      have KR := Lib.hid kr
      clear hx kr
      have l0 : b < wr.heap.size := Nat.lt_of_lt_of_le HW.out.blk hbl.size
      go_wp2_with fail
      refine name_world ?_
      intro W hW
      subst hW
      refine wp_region_up W.heap.size 11 [(true, 0), (true, 1), (true, 2), (true, 3), (true, 4), (true, 5), (true, 6), (true, 7), (true, 8), (true, 9), (true, 10)] (by kernel_rfl) (by kernel_rfl) (fun _ _ d _ _ h => by cases d <;> exact h) ?_
      iterate 8
        refine wpS_takeL rfl rfl ?_
        go_big_quiet_step (rfl)
        refine wpQuiet_nil ?_
      obtain ⟨p, hp⟩ : ∃ p : Int, p = IntKind.u64.wrap (2 ^ (k % 64)) := ⟨_, rfl⟩
      rw [← hp]
      have p0 : 0 < p := by rw [hp, u64_p2 (by omega)]; exact p2_pos _
      have HP := Lib.hid hp
      clear hp
      have hxw : Wd x := HX.out ▸ words_get HW.out.ok _
      have x0 := hxw.lo
      have x1 : x ≤ 18446744073709551615 := by have := hxw.hi; omega
      clear hxw
      refine wpS_takeL rfl rfl ?_
      go_big_quiet_step (rfl)
      refine wpQuiet_nil ?_
      obtain ⟨q, hq⟩ : ∃ q : Int, q = x / p := ⟨_, rfl⟩
      rw [← hq]
      have q0 : 0 ≤ q := by rw [hq]; exact Int.ediv_nonneg x0 (Int.le_of_lt p0)
      have q1 : q ≤ 18446744073709551615 := by rw [hq]; exact Int.le_trans (Int.ediv_le_self _ x0) x1
      have HQ := Lib.hid hq
      clear hq x0 x1
      refine wpS_takeL rfl rfl ?_
      go_big_quiet_step (rfl)
      refine wpQuiet_nil ?_
      obtain ⟨t, ht⟩ : ∃ t : Int, t = q % 2 := ⟨_, rfl⟩
      rw [← ht]
      have t0 : 0 ≤ t := by omega
      have t1 : t ≤ 1 := by omega
      have hbit : t = uval ws / 2 ^ k % 2 := by
        rw [ht, HQ.out, HP.out, HX.out, u64_p2 (by omega)]
        exact uval_bit HW.out.ok k
      have HB := Lib.hid hbit
      clear ht hbit q0 q1
      refine wpS_takeL rfl rfl ?_
      go_big_quiet_step (rfl)
      refine wpQuiet_nil ?_
      refine wpS_nil ?_
      simp only [List.drop_succ_cons, List.drop_zero]
      have hst := hds.out.2.bit HB.out
      have r2 : r + t * 2 ^ m < 2 ^ 15 := Int.lt_of_lt_of_le hst.2.2 (p2_le (by omega))
      obtain ⟨r3, hr3⟩ : ∃ r3 : Int, r3 = r + t * 2 ^ m := ⟨_, rfl⟩
      rw [← hr3] at hst r2
      have r30 := hst.2.1
      have r31 : r3 ≤ 32767 := by have : (2 : Int) ^ 15 = 32768 := rfl; omega
      obtain ⟨P, hP⟩ : ∃ P : Int, P = IntKind.u64.wrap (2 ^ m) := ⟨_, rfl⟩
      have hP' : P = 2 ^ m := hP.trans (u64_p2 (by omega))
      have hT : IntKind.u64.wrap (t * P) = r3 - r := by
        rw [show t * P = r3 - r by rw [hP', hr3]; omega]
        have := Int.mul_nonneg t0 (Int.le_of_lt (p2_pos m))
        exact IntWalk.u64_in _ (by omega)
      have hP2 : IntKind.u64.wrap (2 ^ m) = P := hP.symm
      have hR : r + (r3 - r) = r3 := by omega
      have R3 := Lib.hid hr3
      clear hst r2 hr3 hP' hP
      have h15 : ((m : Int) + 1 == 15) = true ∨ ((m : Int) + 1 == 15) = false := by cases ((m : Int) + 1 == 15) <;> simp
      clear e0 l0
      rcases h15 with h15 | h15
      · have m14 : m = 14 := by have := beq_iff_eq.1 h15; omega
        have hst := hds.out.2
        have hlen := hds.out.1
        rw [m14] at hst
        have R4 := R3.out
        rw [m14] at R4
        have ST := Lib.hid (hst.next HB.out)
        rw [← R4] at ST
        have HL := Lib.hid hlen
        have hL' : 15 * L ≤ 256 := by have := hst.pos; omega
        clear hst hlen R4 m14 hds
        go_wp2_with (at_builtin; refine wpList_append_own _ rfl _ _ 32 rfl (w.heap.size + 1) 3 i0 (.int .i64 0) 1 8 Tryd.underlying32 hi hz0 hz1 hz2 rfl (by decide) _ _ _ rfl ((ownsRow_drew hown).alloc _) ⟨W.heap.size, 0, none⟩ 1 1 [.int .i64 r3] rfl rfl (one_new W.drew _ _) (one_cell _) (by unfold maxLen; omega) (by omega) (by have := hbl.size; have := KR.out.lt; simp; omega) ?_; intro v' w1 hown' hgrow _)
        have hb1 : Below w.heap.size w w1 := (hbl.drew.alloc hbl.size _).grown hgrow (by have := hbl.size; simp; omega) (fun k hk => Nat.le_of_succ_le (hown.lt k hk).1)
        have k1 : Blk w1 w.heap.size #[.bool false, .slice none 0 0] 34 := (KR.out.drew.alloc _).grown hgrow (fun h => Nat.lt_irrefl _ (hown.lt _ h).1)
        rw [← dg_snoc] at hown'
        clear hown hbl hgrow
        go_wp2
        go_roundw
        case rel => exact ⟨k + 1, 0, L + 1, 0, _, by omega, by go_num, rfl, by decide, rfl, by decide, by decide, by omega, hown', ⟨by rw [List.length_append, HL.out]; rfl, ST.out⟩, k1, hb1⟩
        case measure => simp [intOf]; omega
      · have m13 : m + 1 ≤ 14 := by have := beq_eq_false_iff_ne.1 h15; omega
        have ST := Lib.hid (hds.out.2.on HB.out)
        rw [← R3.out] at ST
        have HL := Lib.hid hds.out.1
        have k1 : Blk W.drew w.heap.size #[.bool false, .slice none 0 0] 34 := KR.out.drew
        have K1 := Lib.hid k1
        clear hds k1
        go_wp2
        go_roundw
        case rel => exact ⟨k + 1, m + 1, L, r3, ds, by omega, by go_num, by go_num, by omega, rfl, by omega, by omega, hL, ownsRow_drew hown, ⟨HL.out, ST.out⟩, K1.out, hbl.drew⟩
        case measure => simp [intOf]; omega
    · have hk' : k = 64 * n := by omega
      have HK := Lib.hid hk'
      have KR := Lib.hid kr
      have hL' : 15 * L ≤ 256 := by have := hds.out.2.pos; have := hds.out.1; omega
      have gl : (ds ++ [r]).length = L + 1 := by rw [List.length_append, hds.out.1]; rfl
      have fin := hds.out.2.done hm (uval_bd HW.out.ok).1 (by rw [HK.out, HN.out]; exact (uval_bd HW.out.ok).2)
      have HP := Lib.hid (show (ds ++ [r]).length ≤ 64 * n / 15 + 1 by have := HK.out; have := hds.out.2.pos; have := hds.out.1; omega)
      have FIN := Lib.hid fin
      have GL := Lib.hid gl
      clear hk' kr hds gl fin
      go_wp2_with (at_builtin; refine wpList_append_own _ rfl _ _ 32 rfl (w.heap.size + 1) 3 i0 (.int .i64 0) 1 8 Tryd.underlying32 hi hz0 hz1 hz2 rfl (by decide) _ _ _ rfl (hown.alloc _) ⟨wr.heap.size, 0, none⟩ 1 1 [.int .i64 r] rfl rfl (one_new _ _ _) (one_cell _) (by unfold maxLen; omega) (by omega) (by have := hbl.size; have := KR.out.lt; simp; omega) ?_; intro v' w1 hown' hgrow _; rw [← dg_snoc] at hown'; obtain ⟨ao2, b2, cap2, hv, hsl⟩ := own_sl hown' GL.out (by omega); subst hv; rw [GL.out]; have hb1 : Below w.heap.size w w1 := (hbl.alloc hbl.size _).grown hgrow (by have := hbl.size; simp; omega) (fun k hk => Nat.le_of_succ_le (hown.lt k hk).1); have k1 : Blk w1 w.heap.size #[.bool false, .slice none 0 0] 34 := (KR.out.alloc _).grown hgrow (fun h => Nat.lt_irrefl _ (hown.lt _ h).1); have SL := Lib.hid hsl; have K1 := Lib.hid k1; clear hown hown' hbl hgrow hsl k1 KR)
      have T := trim_any false ao2 b2 cap2 (ds ++ [r]) w1 SL.out FIN.out.1 (64 * n / 15 + 1) HP.out
      rw [GL.out, FIN.out.2] at T
      refine T.mono ?_
      clear T
      rintro e w3 ⟨v3, rfl, hbig, hn⟩
      have HBG := Lib.hid hbig
      have hvv := hbig.shape
      clear hbig
      obtain ⟨n3, a3, q3, c3, rfl⟩ := hvv
      have k2 : Blk w3 _ _ _ := K1.out.of hn
      have d0 := k2.cell 0
      have d1 := k2.cell 1
      have f0 := k2.free 0
      have f1 := k2.free 1
      simp only [List.getElem?_toArray, List.getElem?_cons_zero, List.getElem?_cons_succ] at d0 d1
      have hb2 := hb1.trans (hn.mono hb1.size)
      clear hn k2 hb1
      go_wp2
      simp [bodyPost, results, Tryd.results39, go_sem, d0, d1]
      refine ⟨_, rfl, ?_, set2_below hb2 (Nat.le_refl _) _ _⟩
      exact HBG.out.set2 d0 (.bool n3) (.slice a3 q3 c3)
end Go.Proofs.YtcfiemeknocgjaaDoor
