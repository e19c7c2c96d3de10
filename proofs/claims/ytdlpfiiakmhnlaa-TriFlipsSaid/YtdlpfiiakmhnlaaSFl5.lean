/- My texts TrAg, TrDe, TrDg, TrBw, TrBa, TrBb, TrBc, TrBd, TrBf, AvRB, TrBg, TrBj, TrBu, joined: what the last one needs of them. Conditions: as each lemma says. -/
import Derived.Test.YtdlpfiiakmhnlaaSFl4
import Derived.KernelRfl
import Derived.StillTail
import Derived.OrdersHeld
import Derived.Deep.Quiet
import Derived.Below
import Derived.WalkKit
import Derived.Test.YtdlpfiiakmhnlaaProg
import Derived.WalkSpells
import Derived.StillTactics
import Derived.Laws.Pointers
import Derived.Deep.RegionHeld3
import Derived.RowKit3
import Derived.Deep.QuietTactic
import Derived.BigQuiet
import Derived.BigRegion
import Derived.Lib.Hide
import Derived.WalkSmall
import Derived.Laws.BitsAllLaws
import Derived.IntWalk
import Derived.Deep.OwnRows
import Derived.Deep.LoopGhost
import Derived.Shelf.Bits.Mul64
import Derived.ProofKit
import Derived.OpenShut
import Derived.ShutString
import Derived.ChangeOld
import Derived.Lib.SmallJoins
import Derived.Laws.IdiomArrays
import Derived.Laws.CopyOwn
import Derived.Laws.AppendOwn
import Derived.Deep.DeepAppendRoom
import Derived.Lib.AppendZerosOnto
import Derived.Lib.Overlaps
import Derived.Deep.RegionLaw
import Derived.Shelf.RegionOpenPlain
import Derived.Deep.RegionWith
import Derived.Sort.LoopGhostIn
import Derived.RangeFuncNested
import Derived.RangeFuncBound
import Derived.RangeFuncCalls
import Derived.RangeFuncLeaves
import Derived.OwnWalk
import Derived.OwnWalkIn
import Derived.TacticsInMore
import Derived.LoopNIn
import Derived.LoopIn
import Derived.Deep.DeepFit
import Derived.Deep.DeepCutAuto
import Derived.Shelf.Abstract
import Derived.Shelf.RegionOpen
import Derived.Maps.OwnIn
import Derived.WalkMore
import Derived.Deep.SlicePairs
namespace Go.Proofs.Ytdlpfiiakmhnlaa
open Go.RowKit
attribute [local go_sem] undef

def nxI (z i : Nat) : Int := if z < i then (z : Int) else -1
theorem nxI_up {z i : Nat} (h : i = z) : nxI z (i + 1) = (i : Int) := by unfold nxI; rw [if_pos (by omega), h]
theorem nxI_st {z i : Nat} (h : i ≠ z) : nxI z (i + 1) = nxI z i := by
  unfold nxI
  by_cases h1 : z < i
  · rw [if_pos h1, if_pos (by omega)]
  · rw [if_neg h1, if_neg (by omega)]
theorem NL.own2 {w : World} {base : Nat} {v : Value} {L : List Nat} (h : NL w base v L) {g : Nat} (hg : v.ownBlock = some g) : base ≤ g ∧ g < w.heap.size := World.ownsRow.lt h g hg
theorem NL.cnt {w : World} {base : Nat} {ao : Option Addr} {n cap : Nat} {L : List Nat} (h : NL w base (.slice ao n cap) L) : n = L.length := by
  obtain ⟨a, c, e, _⟩ := h.val
  injection e
theorem gH_take2 {H : List Nat} {k : Nat} (hk : k < H.length) : H.take (k + 1) = H.take k ++ [gH H k] := by
  rw [List.take_add_one, gH_at hk]; rfl
set_option maxRecDepth 100000 in
set_option maxHeartbeats 8000000 in
theorem rHull_is (ao : Option Addr) (N cap : Nat) (X Y : Nat → Int) (w : World) (h : Pts w ao N cap X Y) (hN : N ≤ 4096) (H : List Nat) (hR : RC N X Y H) :
    Calls Try.prog 16 #[.slice ao N cap] w fun e w' => ∃ v, e = .returned v ∧ NL w' w.heap.size v H ∧ Below w.heap.size w w' := by
 have hcl := h.capl
 have hcb := h.capb
 have HO := Lib.hid h
 have HH := Lib.hid hR
 have hpos := hR.pos
 have hlen := hR.len
 clear h hR
 obtain ⟨pa, rfl, _⟩ := HO.out.atP (by omega)
 obtain ⟨n, hn⟩ : ∃ n, H.length = n := ⟨_, rfl⟩
 have HLN := Lib.hid hn
 rw [hn] at hpos hlen
 clear hn
 go_enter Try.func16, Try.ntmps16
 go_wp2_with fail
 go_loopg [3, 4] n (fun gk s3 s4 wr => ∃ (k : Nat) (ho : Option Addr) (hc a : Nat), s3 = .slice ho k hc ∧ s4 = .int .i64 (a : Nat) ∧ k ≤ n ∧ n - k ≤ gk ∧ (k = n → a = 0) ∧ (0 < k → k < n → a ≠ 0) ∧ Hid (a = gH H (k % n)) ∧ Hid (NL wr w.heap.size (.slice ho k hc) (H.take k)) ∧ Below w.heap.size w wr)
 case atStart =>
  refine ⟨0, none, 0, 0, rfl, rfl, by omega, by omega, fun _ => rfl, fun h => by omega, Lib.hid ?_, Lib.hid NL.none, Below.refl _ _⟩
  first | exact HH.out.zero.symm | (rw [Nat.zero_mod]; exact HH.out.zero.symm)
 case round =>
  obtain ⟨k, ho, hc, a, rfl, rfl, hk, hgk, ha0, han, HA, HNL, hb⟩ := hrel
  by_cases hlt : k < n
  ·have haN : a < N := by rw [HA.out, Nat.mod_eq_of_lt hlt]; exact HH.out.lt k (by rw [HLN.out]; exact hlt)
   have hsz := hb.size
   rcases Nat.eq_zero_or_pos k with hk0 | hk0
   ·subst hk0
    have hq1 : (H.take 0).length < 100000 := by rw [List.length_take]; omega
    have hq2 : w.heap.size ≤ (wr.alloc (.cells #[.int .i64 (a : Nat)] 3)).heap.size := by simp; omega
    go_wp2_with (at_builtin; go_loud (refine wpList_append_nl rfl _ _ rfl w.heap.size (.slice ho 0 hc) (H.take 0) a wr.heap.size rfl rfl (Blk.new wr _ _) (HNL.out.of (below_a1 _ _)) hq1 hq2 ?_))
    intro ho2 m2 hc2 V1 nl2 gr2
    have hva : (wr.alloc (.cells #[.int .i64 (a : Nat)] 3)).heap.size = wr.heap.size + 1 := by simp
    have hoy : ∀ g, (Value.slice ho 0 hc).ownBlock = some g → w.heap.size ≤ g := fun g hg => (HNL.out.own2 hg).1
    have BB : Hid (Below w.heap.size w V1) := Lib.hid (hb.trans ⟨gr2.os, gr2.tape, gr2.output, by have := gr2.size; omega, fun g hg => (gr2.block g (by omega) (fun e => by have := hoy g e.symm; omega)).trans ((below_a1 wr _).block g (by omega))⟩)
    have hm3 : m2 = 0 + 1 := by rw [nl2.cnt]; first | rfl | (have := HLN.out; simp; omega)
    have NL3 : Hid (NL V1 w.heap.size (.slice ho2 (0 + 1) hc2) (H.take (0 + 1))) := by
     rw [gH_take2 (by rw [HLN.out]; exact hlt), ← hm3]
     have e : gH H 0 = a := by rw [HA.out, Nat.mod_eq_of_lt hlt]
     rw [e]; exact Lib.hid nl2
    subst hm3
    have hz1 := BB.out.size
    clear hva hoy nl2 gr2 HNL hq1 hq2 hb
    obtain ⟨z, hz⟩ : ∃ z, gH H ((0 + 1) % n) = z := ⟨_, rfl⟩
    have HNX : Hid ((∀ i, i < N → i ≠ a → ((∀ j, j < N → goodR X Y a i j) ↔ i = z)) ∧ z ≠ a ∧ z < N) := by
     have h1 := HH.out.nxt 0 (by rw [HLN.out]; exact hlt)
     have h2 := HH.out.ne 0 (by rw [HLN.out]; exact hlt)
     have e : gH H 0 = a := by rw [HA.out, Nat.mod_eq_of_lt hlt]
     rw [HLN.out, hz, e] at h1 h2
     refine Lib.hid ⟨h1, h2, ?_⟩
     rw [← hz]; exact HH.out.lt _ (by rw [HLN.out]; exact Nat.mod_lt _ (by omega))
    have HZ := Lib.hid hz
    clear hz
    obtain ⟨ax, hax⟩ : ∃ x, X a = x := ⟨_, rfl⟩
    obtain ⟨ay, hay⟩ : ∃ x, Y a = x := ⟨_, rfl⟩
    have HAP := Lib.hid (And.intro hax hay)
    clear hax hay
    go_wp2_with fail
    go_loopg [5, 6] N (fun gk s5 s6 wi => ∃ i : Nat, s5 = .int .i64 (nxI z i) ∧ s6 = .int .i64 (i : Nat) ∧ i ≤ N ∧ N - i ≤ gk ∧ Hid (Below V1.heap.size V1 wi))
    case atStart => exact ⟨0, by unfold nxI; rw [if_neg (by omega)], rfl, by omega, by omega, Lib.hid (Below.refl _ _)⟩
    case round =>
     obtain ⟨i, rfl, rfl, hi, hgi, HWi⟩ := hrel
     by_cases hilt : i < N
     ·by_cases hia : i = a
      ·subst hia
       have HN2 := Lib.hid (nxI_st (show i ≠ z from fun e => HNX.out.2.1 e.symm))
       go_wp2_with fail
       go_roundg (N - (i + 1))
       case measure => omega
       case rel => exact ⟨i + 1, by rw [HN2.out], by norm_cast, by omega, Nat.le_refl _, HWi⟩
      ·have hia2 : ((i : Int) == (a : Int)) = false := by simp; omega
       obtain ⟨ix, hix⟩ : ∃ x, X i = x := ⟨_, rfl⟩
       obtain ⟨iy, hiy⟩ : ∃ x, Y i = x := ⟨_, rfl⟩
       have HI := Lib.hid (And.intro hix hiy)
       clear hix hiy
       go_wp2_with fail
       go_loopg [7, 8] N (fun gk s7 s8 wj => ∃ (j : Nat) (b : Bool), s7 = .bool b ∧ s8 = .int .i64 (j : Nat) ∧ j ≤ N ∧ N - j ≤ gk ∧ Hid (b = true ↔ ∀ q, q < j → goodR X Y a i q) ∧ Hid (Below V1.heap.size V1 wj))
       case atStart => exact ⟨0, true, rfl, rfl, by omega, by omega, Lib.hid ⟨fun _ q hq => by omega, fun _ => rfl⟩, HWi⟩
       case round =>
        obtain ⟨j, b, rfl, rfl, hj, hgj, HG, HWj⟩ := hrel
        by_cases hjlt : j < N
        ·obtain ⟨r, hr⟩ : ∃ r, wy X Y a i j = r := ⟨_, rfl⟩
         obtain ⟨cx, hcx⟩ : ∃ x, X j = x := ⟨_, rfl⟩
         obtain ⟨cy, hcy⟩ : ∃ x, Y j = x := ⟨_, rfl⟩
         have HC := Lib.hid (And.intro hcx hcy)
         clear hcx hcy
         have HR := Lib.hid hr
         have hw : Hid (way ax ay ix iy cx cy = r) := by rw [← hr, ← HAP.out.1, ← HAP.out.2, ← HI.out.1, ← HI.out.2, ← HC.out.1, ← HC.out.2]; exact Lib.hid rfl
         have hr3 : r = -1 ∨ r = 0 ∨ r = 1 := by rw [← hr]; exact wy_cases _ _ _ _ _
         clear hr
         have hbj := BB.out.trans (HWj.out.mono hz1)
         obtain ⟨pa2, he2, hpt⟩ := (HO.out.of hbj).atP (by omega)
         injection he2 with he2
         rw [← he2] at hpt
         have qa := hpt a haN
         rw [HAP.out.1, HAP.out.2] at qa
         have qa0 := fun u => (qa u).1
         have qa1 := fun u => (qa u).2
         have qi := hpt i hilt
         rw [HI.out.1, HI.out.2] at qi
         have qi0 := fun u => (qi u).1
         have qi1 := fun u => (qi u).2
         have qc := hpt j hjlt
         rw [HC.out.1, HC.out.2] at qc
         have qc0 := fun u => (qc u).1
         have qc1 := fun u => (qc u).2
         clear hpt he2 qa qi qc
         go_wp2_with fail
         refine wp_region_up wr.heap.size 12 [(true, 0), (true, 1), (true, 2), (true, 3), (true, 4), (true, 5), (true, 6), (true, 7), (true, 8), (true, 9), (true, 10), (true, 11)] (by kernel_rfl) (by kernel_rfl) (fun _ _ d _ _ h => by cases d <;> exact h) ?_
         have hb : Below wr.heap.size wr wr.drew := (Below.refl _ _).drew
         iterate 12
          refine wpS_takeL rfl rfl ?_
          go_big_quiet_step (rfl)
          refine wpQuiet_nil ?_
         refine wpS_nil ?_
         simp only [List.drop_succ_cons, List.drop_zero]
         go_wp2_with fail
         refine (rWy_is ax ay ix iy cx cy r hw.out _).mono ?_
         rintro e w2 ⟨rfl, hn⟩
         have HW2 := Lib.hid ((HWj.out.trans (hb.mono HWj.out.size)).trans (hn.mono (HWj.out.trans (hb.mono HWj.out.size)).size))
         clear hn hb hbj qa0 qa1 qi0 qi1 qc0 qc1
         rcases hr3 with rfl | rfl | rfl
         ·go_wp2_with fail
          refine wp_region_up w2.heap.size 28 [(true, 0), (true, 1), (true, 2), (true, 3), (true, 4), (true, 5), (true, 6), (true, 7), (true, 8), (true, 9), (true, 10), (true, 11), (true, 12), (true, 13), (true, 14), (true, 15), (true, 16), (true, 17), (true, 18), (true, 19), (true, 20), (true, 21), (true, 22), (true, 23), (true, 24), (true, 25), (true, 26), (true, 27)] (by kernel_rfl) (by kernel_rfl) (fun _ _ d _ _ h => by cases d <;> exact h) ?_
          have hb : Below w2.heap.size w2 w2.drew := (Below.refl _ _).drew
          iterate 28
           refine wpS_takeL rfl rfl ?_
           go_big_quiet_step (rfl)
           refine wpQuiet_nil ?_
          refine wpS_nil ?_
          simp only [List.drop_succ_cons, List.drop_zero]
          have HW3 := Lib.hid (HW2.out.trans (hb.mono HW2.out.size))
          have HF : Hid (false = true ↔ ∀ q, q < j + 1 → goodR X Y a i q) := Lib.hid (by refine ⟨fun h => (by cases h), fun h => ?_⟩; have := (h j (by omega)).1; rw [HR.out] at this; exact absurd (by decide) this)
          clear hb
          go_wp2_with fail
          go_roundg (N - (j + 1))
          case measure => omega
          case rel => exact ⟨j + 1, false, rfl, by norm_cast, by omega, Nat.le_refl _, HF, HW3⟩
         ·by_cases hja : j = a
          ·subst hja
           go_wp2_with fail
           refine wp_region_up w2.heap.size 28 [(true, 0), (true, 1), (true, 2), (true, 3), (true, 4), (true, 5), (true, 6), (true, 7), (true, 8), (true, 9), (true, 10), (true, 11), (true, 12), (true, 13), (true, 14), (true, 15), (true, 16), (true, 17), (true, 18), (true, 19), (true, 20), (true, 21), (true, 22), (true, 23), (true, 24), (true, 25), (true, 26), (true, 27)] (by kernel_rfl) (by kernel_rfl) (fun _ _ d _ _ h => by cases d <;> exact h) ?_
           have hb : Below w2.heap.size w2 w2.drew := (Below.refl _ _).drew
           iterate 28
            refine wpS_takeL rfl rfl ?_
            go_big_quiet_step (rfl)
            refine wpQuiet_nil ?_
           refine wpS_nil ?_
           simp only [List.drop_succ_cons, List.drop_zero]
           have HW3 := Lib.hid (HW2.out.trans (hb.mono HW2.out.size))
           have HF : Hid (b = true ↔ ∀ q, q < j + 1 → goodR X Y j i q) := Lib.hid (by refine HG.out.trans ⟨fun h q hq => ?_, fun h q hq => h q (by omega)⟩; rcases Nat.lt_or_ge q j with h1 | h1; exact h q h1; have e : q = j := (by omega); subst e; exact ⟨by rw [HR.out]; decide, fun _ h2 => absurd rfl h2⟩)
           clear hb
           go_wp2_with fail
           go_roundg (N - (j + 1))
           case measure => omega
           case rel => exact ⟨j + 1, b, rfl, by norm_cast, by omega, Nat.le_refl _, HF, HW3⟩
          ·by_cases hji : j = i
           ·subst hji
            have hja2 : ((j : Int) != (a : Int)) = true := by simp; omega
            go_wp2_with fail
            refine wp_region_up w2.heap.size 28 [(true, 0), (true, 1), (true, 2), (true, 3), (true, 4), (true, 5), (true, 6), (true, 7), (true, 8), (true, 9), (true, 10), (true, 11), (true, 12), (true, 13), (true, 14), (true, 15), (true, 16), (true, 17), (true, 18), (true, 19), (true, 20), (true, 21), (true, 22), (true, 23), (true, 24), (true, 25), (true, 26), (true, 27)] (by kernel_rfl) (by kernel_rfl) (fun _ _ d _ _ h => by cases d <;> exact h) ?_
            have hb : Below w2.heap.size w2 w2.drew := (Below.refl _ _).drew
            iterate 28
             refine wpS_takeL rfl rfl ?_
             go_big_quiet_step (rfl)
             refine wpQuiet_nil ?_
            refine wpS_nil ?_
            simp only [List.drop_succ_cons, List.drop_zero]
            have HW3 := Lib.hid (HW2.out.trans (hb.mono HW2.out.size))
            have HF : Hid (b = true ↔ ∀ q, q < j + 1 → goodR X Y a j q) := Lib.hid (by refine HG.out.trans ⟨fun h q hq => ?_, fun h q hq => h q (by omega)⟩; rcases Nat.lt_or_ge q j with h1 | h1; exact h q h1; have e : q = j := (by omega); subst e; exact ⟨by rw [HR.out]; decide, fun _ _ h2 => absurd rfl h2⟩)
            clear hb
            go_wp2_with fail
            go_roundg (N - (j + 1))
            case measure => omega
            case rel => exact ⟨j + 1, b, rfl, by norm_cast, by omega, Nat.le_refl _, HF, HW3⟩
           ·have hja2 : ((j : Int) != (a : Int)) = true := by simp; omega
            have hji2 : ((j : Int) != (i : Int)) = true := by simp; omega
            obtain ⟨o, ho_⟩ : ∃ o, onB ax ay ix iy cx cy = o := ⟨_, rfl⟩
            have HON := Lib.hid ho_
            clear ho_
            have hb2 := BB.out.trans (HW2.out.mono hz1)
            obtain ⟨pa2, he2, hpt⟩ := (HO.out.of hb2).atP (by omega)
            injection he2 with he2
            rw [← he2] at hpt
            have qa := hpt a haN
            rw [HAP.out.1, HAP.out.2] at qa
            have qa0 := fun u => (qa u).1
            have qa1 := fun u => (qa u).2
            have qi := hpt i hilt
            rw [HI.out.1, HI.out.2] at qi
            have qi0 := fun u => (qi u).1
            have qi1 := fun u => (qi u).2
            have qc := hpt j hjlt
            rw [HC.out.1, HC.out.2] at qc
            have qc0 := fun u => (qc u).1
            have qc1 := fun u => (qc u).2
            clear hpt he2 qa qi qc
            go_wp2_with fail
            refine wp_region_up w2.heap.size 28 [(true, 0), (true, 1), (true, 2), (true, 3), (true, 4), (true, 5), (true, 6), (true, 7), (true, 8), (true, 9), (true, 10), (true, 11), (true, 12), (true, 13), (true, 14), (true, 15), (true, 16), (true, 17), (true, 18), (true, 19), (true, 20), (true, 21), (true, 22), (true, 23), (true, 24), (true, 25), (true, 26), (true, 27)] (by kernel_rfl) (by kernel_rfl) (fun _ _ d _ _ h => by cases d <;> exact h) ?_
            have hb : Below w2.heap.size w2 w2.drew := (Below.refl _ _).drew
            iterate 28
             refine wpS_takeL rfl rfl ?_
             go_big_quiet_step (rfl)
             refine wpQuiet_nil ?_
            refine wpS_nil ?_
            simp only [List.drop_succ_cons, List.drop_zero]
            go_wp2_with fail
            refine (rOnB_is ax ay ix iy cx cy o HON.out _).mono ?_
            rintro e w3 ⟨rfl, hn⟩
            have HW3 := Lib.hid ((HW2.out.trans (hb.mono HW2.out.size)).trans (hn.mono (HW2.out.trans (hb.mono HW2.out.size)).size))
            have HOB := Lib.hid (show onB (X a) (Y a) (X i) (Y i) (X j) (Y j) = o by rw [HAP.out.1, HAP.out.2, HI.out.1, HI.out.2, HC.out.1, HC.out.2]; exact HON.out)
            clear hn hb hb2 qa0 qa1 qi0 qi1 qc0 qc1
            cases o with
            | true =>
             have HF : Hid (false = true ↔ ∀ q, q < j + 1 → goodR X Y a i q) := Lib.hid (by refine ⟨fun h => (by cases h), fun h => ?_⟩; have := (h j (by omega)).2 HR.out hja hji; rw [HOB.out] at this; cases this)
             go_wp2_with fail
             go_roundg (N - (j + 1))
             case measure => omega
             case rel => exact ⟨j + 1, false, rfl, by norm_cast, by omega, Nat.le_refl _, HF, HW3⟩
            | false =>
             have HF : Hid (b = true ↔ ∀ q, q < j + 1 → goodR X Y a i q) := Lib.hid (by refine HG.out.trans ⟨fun h q hq => ?_, fun h q hq => h q (by omega)⟩; rcases Nat.lt_or_ge q j with h1 | h1; exact h q h1; have e : q = j := (by omega); subst e; exact ⟨by rw [HR.out]; decide, fun _ _ _ => HOB.out⟩)
             go_wp2_with fail
             go_roundg (N - (j + 1))
             case measure => omega
             case rel => exact ⟨j + 1, b, rfl, by norm_cast, by omega, Nat.le_refl _, HF, HW3⟩
         ·go_wp2_with fail
          refine wp_region_up w2.heap.size 28 [(true, 0), (true, 1), (true, 2), (true, 3), (true, 4), (true, 5), (true, 6), (true, 7), (true, 8), (true, 9), (true, 10), (true, 11), (true, 12), (true, 13), (true, 14), (true, 15), (true, 16), (true, 17), (true, 18), (true, 19), (true, 20), (true, 21), (true, 22), (true, 23), (true, 24), (true, 25), (true, 26), (true, 27)] (by kernel_rfl) (by kernel_rfl) (fun _ _ d _ _ h => by cases d <;> exact h) ?_
          have hb : Below w2.heap.size w2 w2.drew := (Below.refl _ _).drew
          iterate 28
           refine wpS_takeL rfl rfl ?_
           go_big_quiet_step (rfl)
           refine wpQuiet_nil ?_
          refine wpS_nil ?_
          simp only [List.drop_succ_cons, List.drop_zero]
          have HW3 := Lib.hid (HW2.out.trans (hb.mono HW2.out.size))
          have HF : Hid (b = true ↔ ∀ q, q < j + 1 → goodR X Y a i q) := Lib.hid (by refine HG.out.trans ⟨fun h q hq => ?_, fun h q hq => h q (by omega)⟩; rcases Nat.lt_or_ge q j with h1 | h1; exact h q h1; have e : q = j := (by omega); subst e; exact ⟨by rw [HR.out]; decide, fun h => by rw [HR.out] at h; cases h⟩)
          clear hb
          go_wp2_with fail
          go_roundg (N - (j + 1))
          case measure => omega
          case rel => exact ⟨j + 1, b, rfl, by norm_cast, by omega, Nat.le_refl _, HF, HW3⟩
        ·have hjN : j = N := by omega
         have HB2 : Hid (b = true ↔ i = z) := Lib.hid (by have h1 := HG.out; rw [hjN] at h1; exact h1.trans (HNX.out.1 i hilt hia))
         cases b with
         | true =>
          have HN2 := Lib.hid (nxI_up (HB2.out.1 rfl))
          go_wp2_with fail
          go_roundg (N - (i + 1))
          case measure => omega
          case rel => exact ⟨i + 1, by rw [HN2.out], by norm_cast, by omega, Nat.le_refl _, HWj⟩
         | false =>
          have HN2 := Lib.hid (nxI_st (fun e => by have := HB2.out.2 e; cases this))
          go_wp2_with fail
          go_roundg (N - (i + 1))
          case measure => omega
          case rel => exact ⟨i + 1, by rw [HN2.out], by norm_cast, by omega, Nat.le_refl _, HWj⟩
     ·have hiN : i = N := by omega
      have hnz : nxI z i = (z : Int) := by unfold nxI; rw [if_pos (by rw [hiN]; exact HNX.out.2.2)]
      rw [hnz]
      have hz0 : ¬ ((z : Int) < 0) := by omega
      have HST : Hid ((0 + 1 = n → z = 0) ∧ (0 < 0 + 1 → 0 + 1 < n → z ≠ 0) ∧ z = gH H ((0 + 1) % n)) := by
       refine Lib.hid ⟨fun h => ?_, fun _ h => ?_, HZ.out.symm⟩
       ·rw [← HZ.out, h, Nat.mod_self]; exact HH.out.zero
       ·rw [← HZ.out, Nat.mod_eq_of_lt h]; exact HH.out.nz _ (by omega) (by rw [HLN.out]; exact h)
      have HBB := BB.out.trans (HWi.out.mono hz1)
      have HNL2 := Lib.hid (NL3.out.of HWi.out)
      clear hnz
      go_wp2_with fail
      go_roundg (n - (0 + 1))
      case measure => omega
      case rel => exact ⟨0 + 1, ho2, hc2, z, rfl, rfl, by omega, Nat.le_refl _, HST.out.1, HST.out.2.1, Lib.hid HST.out.2.2, HNL2, HBB⟩
   ·have hk1 : ¬ k = 0 := by omega
    have hk2 : ¬ a = 0 := han hk0 hlt
    have hk4 : ((k : Int) == 0) = false := by simp; omega
    have hk5 : ((a : Int) != 0) = true := by simp; omega
    have hk3 : (k : Int) ≤ (N : Int) := by omega
    clear hk0
    have hq1 : (H.take k).length < 100000 := by rw [List.length_take]; omega
    have hq2 : w.heap.size ≤ (wr.alloc (.cells #[.int .i64 (a : Nat)] 3)).heap.size := by simp; omega
    go_wp2_with (at_builtin; go_loud (refine wpList_append_nl rfl _ _ rfl w.heap.size (.slice ho k hc) (H.take k) a wr.heap.size rfl rfl (Blk.new wr _ _) (HNL.out.of (below_a1 _ _)) hq1 hq2 ?_))
    intro ho2 m2 hc2 V1 nl2 gr2
    have hva : (wr.alloc (.cells #[.int .i64 (a : Nat)] 3)).heap.size = wr.heap.size + 1 := by simp
    have hoy : ∀ g, (Value.slice ho k hc).ownBlock = some g → w.heap.size ≤ g := fun g hg => (HNL.out.own2 hg).1
    have BB : Hid (Below w.heap.size w V1) := Lib.hid (hb.trans ⟨gr2.os, gr2.tape, gr2.output, by have := gr2.size; omega, fun g hg => (gr2.block g (by omega) (fun e => by have := hoy g e.symm; omega)).trans ((below_a1 wr _).block g (by omega))⟩)
    have hm3 : m2 = k + 1 := by rw [nl2.cnt]; first | rfl | (have := HLN.out; simp; omega)
    have NL3 : Hid (NL V1 w.heap.size (.slice ho2 (k + 1) hc2) (H.take (k + 1))) := by
     rw [gH_take2 (by rw [HLN.out]; exact hlt), ← hm3]
     have e : gH H k = a := by rw [HA.out, Nat.mod_eq_of_lt hlt]
     rw [e]; exact Lib.hid nl2
    subst hm3
    have hz1 := BB.out.size
    clear hva hoy nl2 gr2 HNL hq1 hq2 hb
    obtain ⟨z, hz⟩ : ∃ z, gH H ((k + 1) % n) = z := ⟨_, rfl⟩
    have HNX : Hid ((∀ i, i < N → i ≠ a → ((∀ j, j < N → goodR X Y a i j) ↔ i = z)) ∧ z ≠ a ∧ z < N) := by
     have h1 := HH.out.nxt k (by rw [HLN.out]; exact hlt)
     have h2 := HH.out.ne k (by rw [HLN.out]; exact hlt)
     have e : gH H k = a := by rw [HA.out, Nat.mod_eq_of_lt hlt]
     rw [HLN.out, hz, e] at h1 h2
     refine Lib.hid ⟨h1, h2, ?_⟩
     rw [← hz]; exact HH.out.lt _ (by rw [HLN.out]; exact Nat.mod_lt _ (by omega))
    have HZ := Lib.hid hz
    clear hz
    obtain ⟨ax, hax⟩ : ∃ x, X a = x := ⟨_, rfl⟩
    obtain ⟨ay, hay⟩ : ∃ x, Y a = x := ⟨_, rfl⟩
    have HAP := Lib.hid (And.intro hax hay)
    clear hax hay
    go_wp2_with fail
    go_loopg [5, 6] N (fun gk s5 s6 wi => ∃ i : Nat, s5 = .int .i64 (nxI z i) ∧ s6 = .int .i64 (i : Nat) ∧ i ≤ N ∧ N - i ≤ gk ∧ Hid (Below V1.heap.size V1 wi))
    case atStart => exact ⟨0, by unfold nxI; rw [if_neg (by omega)], rfl, by omega, by omega, Lib.hid (Below.refl _ _)⟩
    case round =>
     obtain ⟨i, rfl, rfl, hi, hgi, HWi⟩ := hrel
     by_cases hilt : i < N
     ·by_cases hia : i = a
      ·subst hia
       have HN2 := Lib.hid (nxI_st (show i ≠ z from fun e => HNX.out.2.1 e.symm))
       go_wp2_with fail
       go_roundg (N - (i + 1))
       case measure => omega
       case rel => exact ⟨i + 1, by rw [HN2.out], by norm_cast, by omega, Nat.le_refl _, HWi⟩
      ·have hia2 : ((i : Int) == (a : Int)) = false := by simp; omega
       obtain ⟨ix, hix⟩ : ∃ x, X i = x := ⟨_, rfl⟩
       obtain ⟨iy, hiy⟩ : ∃ x, Y i = x := ⟨_, rfl⟩
       have HI := Lib.hid (And.intro hix hiy)
       clear hix hiy
       go_wp2_with fail
       go_loopg [7, 8] N (fun gk s7 s8 wj => ∃ (j : Nat) (b : Bool), s7 = .bool b ∧ s8 = .int .i64 (j : Nat) ∧ j ≤ N ∧ N - j ≤ gk ∧ Hid (b = true ↔ ∀ q, q < j → goodR X Y a i q) ∧ Hid (Below V1.heap.size V1 wj))
       case atStart => exact ⟨0, true, rfl, rfl, by omega, by omega, Lib.hid ⟨fun _ q hq => by omega, fun _ => rfl⟩, HWi⟩
       case round =>
        obtain ⟨j, b, rfl, rfl, hj, hgj, HG, HWj⟩ := hrel
        by_cases hjlt : j < N
        ·obtain ⟨r, hr⟩ : ∃ r, wy X Y a i j = r := ⟨_, rfl⟩
         obtain ⟨cx, hcx⟩ : ∃ x, X j = x := ⟨_, rfl⟩
         obtain ⟨cy, hcy⟩ : ∃ x, Y j = x := ⟨_, rfl⟩
         have HC := Lib.hid (And.intro hcx hcy)
         clear hcx hcy
         have HR := Lib.hid hr
         have hw : Hid (way ax ay ix iy cx cy = r) := by rw [← hr, ← HAP.out.1, ← HAP.out.2, ← HI.out.1, ← HI.out.2, ← HC.out.1, ← HC.out.2]; exact Lib.hid rfl
         have hr3 : r = -1 ∨ r = 0 ∨ r = 1 := by rw [← hr]; exact wy_cases _ _ _ _ _
         clear hr
         have hbj := BB.out.trans (HWj.out.mono hz1)
         obtain ⟨pa2, he2, hpt⟩ := (HO.out.of hbj).atP (by omega)
         injection he2 with he2
         rw [← he2] at hpt
         have qa := hpt a haN
         rw [HAP.out.1, HAP.out.2] at qa
         have qa0 := fun u => (qa u).1
         have qa1 := fun u => (qa u).2
         have qi := hpt i hilt
         rw [HI.out.1, HI.out.2] at qi
         have qi0 := fun u => (qi u).1
         have qi1 := fun u => (qi u).2
         have qc := hpt j hjlt
         rw [HC.out.1, HC.out.2] at qc
         have qc0 := fun u => (qc u).1
         have qc1 := fun u => (qc u).2
         clear hpt he2 qa qi qc
         go_wp2_with fail
         refine wp_region_up wr.heap.size 12 [(true, 0), (true, 1), (true, 2), (true, 3), (true, 4), (true, 5), (true, 6), (true, 7), (true, 8), (true, 9), (true, 10), (true, 11)] (by kernel_rfl) (by kernel_rfl) (fun _ _ d _ _ h => by cases d <;> exact h) ?_
         have hb : Below wr.heap.size wr wr.drew := (Below.refl _ _).drew
         iterate 12
          refine wpS_takeL rfl rfl ?_
          go_big_quiet_step (rfl)
          refine wpQuiet_nil ?_
         refine wpS_nil ?_
         simp only [List.drop_succ_cons, List.drop_zero]
         go_wp2_with fail
         refine (rWy_is ax ay ix iy cx cy r hw.out _).mono ?_
         rintro e w2 ⟨rfl, hn⟩
         have HW2 := Lib.hid ((HWj.out.trans (hb.mono HWj.out.size)).trans (hn.mono (HWj.out.trans (hb.mono HWj.out.size)).size))
         clear hn hb hbj qa0 qa1 qi0 qi1 qc0 qc1
         rcases hr3 with rfl | rfl | rfl
         ·go_wp2_with fail
          refine wp_region_up w2.heap.size 28 [(true, 0), (true, 1), (true, 2), (true, 3), (true, 4), (true, 5), (true, 6), (true, 7), (true, 8), (true, 9), (true, 10), (true, 11), (true, 12), (true, 13), (true, 14), (true, 15), (true, 16), (true, 17), (true, 18), (true, 19), (true, 20), (true, 21), (true, 22), (true, 23), (true, 24), (true, 25), (true, 26), (true, 27)] (by kernel_rfl) (by kernel_rfl) (fun _ _ d _ _ h => by cases d <;> exact h) ?_
          have hb : Below w2.heap.size w2 w2.drew := (Below.refl _ _).drew
          iterate 28
           refine wpS_takeL rfl rfl ?_
           go_big_quiet_step (rfl)
           refine wpQuiet_nil ?_
          refine wpS_nil ?_
          simp only [List.drop_succ_cons, List.drop_zero]
          have HW3 := Lib.hid (HW2.out.trans (hb.mono HW2.out.size))
          have HF : Hid (false = true ↔ ∀ q, q < j + 1 → goodR X Y a i q) := Lib.hid (by refine ⟨fun h => (by cases h), fun h => ?_⟩; have := (h j (by omega)).1; rw [HR.out] at this; exact absurd (by decide) this)
          clear hb
          go_wp2_with fail
          go_roundg (N - (j + 1))
          case measure => omega
          case rel => exact ⟨j + 1, false, rfl, by norm_cast, by omega, Nat.le_refl _, HF, HW3⟩
         ·by_cases hja : j = a
          ·subst hja
           go_wp2_with fail
           refine wp_region_up w2.heap.size 28 [(true, 0), (true, 1), (true, 2), (true, 3), (true, 4), (true, 5), (true, 6), (true, 7), (true, 8), (true, 9), (true, 10), (true, 11), (true, 12), (true, 13), (true, 14), (true, 15), (true, 16), (true, 17), (true, 18), (true, 19), (true, 20), (true, 21), (true, 22), (true, 23), (true, 24), (true, 25), (true, 26), (true, 27)] (by kernel_rfl) (by kernel_rfl) (fun _ _ d _ _ h => by cases d <;> exact h) ?_
           have hb : Below w2.heap.size w2 w2.drew := (Below.refl _ _).drew
           iterate 28
            refine wpS_takeL rfl rfl ?_
            go_big_quiet_step (rfl)
            refine wpQuiet_nil ?_
           refine wpS_nil ?_
           simp only [List.drop_succ_cons, List.drop_zero]
           have HW3 := Lib.hid (HW2.out.trans (hb.mono HW2.out.size))
           have HF : Hid (b = true ↔ ∀ q, q < j + 1 → goodR X Y j i q) := Lib.hid (by refine HG.out.trans ⟨fun h q hq => ?_, fun h q hq => h q (by omega)⟩; rcases Nat.lt_or_ge q j with h1 | h1; exact h q h1; have e : q = j := (by omega); subst e; exact ⟨by rw [HR.out]; decide, fun _ h2 => absurd rfl h2⟩)
           clear hb
           go_wp2_with fail
           go_roundg (N - (j + 1))
           case measure => omega
           case rel => exact ⟨j + 1, b, rfl, by norm_cast, by omega, Nat.le_refl _, HF, HW3⟩
          ·by_cases hji : j = i
           ·subst hji
            have hja2 : ((j : Int) != (a : Int)) = true := by simp; omega
            go_wp2_with fail
            refine wp_region_up w2.heap.size 28 [(true, 0), (true, 1), (true, 2), (true, 3), (true, 4), (true, 5), (true, 6), (true, 7), (true, 8), (true, 9), (true, 10), (true, 11), (true, 12), (true, 13), (true, 14), (true, 15), (true, 16), (true, 17), (true, 18), (true, 19), (true, 20), (true, 21), (true, 22), (true, 23), (true, 24), (true, 25), (true, 26), (true, 27)] (by kernel_rfl) (by kernel_rfl) (fun _ _ d _ _ h => by cases d <;> exact h) ?_
            have hb : Below w2.heap.size w2 w2.drew := (Below.refl _ _).drew
            iterate 28
             refine wpS_takeL rfl rfl ?_
             go_big_quiet_step (rfl)
             refine wpQuiet_nil ?_
            refine wpS_nil ?_
            simp only [List.drop_succ_cons, List.drop_zero]
            have HW3 := Lib.hid (HW2.out.trans (hb.mono HW2.out.size))
            have HF : Hid (b = true ↔ ∀ q, q < j + 1 → goodR X Y a j q) := Lib.hid (by refine HG.out.trans ⟨fun h q hq => ?_, fun h q hq => h q (by omega)⟩; rcases Nat.lt_or_ge q j with h1 | h1; exact h q h1; have e : q = j := (by omega); subst e; exact ⟨by rw [HR.out]; decide, fun _ _ h2 => absurd rfl h2⟩)
            clear hb
            go_wp2_with fail
            go_roundg (N - (j + 1))
            case measure => omega
            case rel => exact ⟨j + 1, b, rfl, by norm_cast, by omega, Nat.le_refl _, HF, HW3⟩
           ·have hja2 : ((j : Int) != (a : Int)) = true := by simp; omega
            have hji2 : ((j : Int) != (i : Int)) = true := by simp; omega
            obtain ⟨o, ho_⟩ : ∃ o, onB ax ay ix iy cx cy = o := ⟨_, rfl⟩
            have HON := Lib.hid ho_
            clear ho_
            have hb2 := BB.out.trans (HW2.out.mono hz1)
            obtain ⟨pa2, he2, hpt⟩ := (HO.out.of hb2).atP (by omega)
            injection he2 with he2
            rw [← he2] at hpt
            have qa := hpt a haN
            rw [HAP.out.1, HAP.out.2] at qa
            have qa0 := fun u => (qa u).1
            have qa1 := fun u => (qa u).2
            have qi := hpt i hilt
            rw [HI.out.1, HI.out.2] at qi
            have qi0 := fun u => (qi u).1
            have qi1 := fun u => (qi u).2
            have qc := hpt j hjlt
            rw [HC.out.1, HC.out.2] at qc
            have qc0 := fun u => (qc u).1
            have qc1 := fun u => (qc u).2
            clear hpt he2 qa qi qc
            go_wp2_with fail
            refine wp_region_up w2.heap.size 28 [(true, 0), (true, 1), (true, 2), (true, 3), (true, 4), (true, 5), (true, 6), (true, 7), (true, 8), (true, 9), (true, 10), (true, 11), (true, 12), (true, 13), (true, 14), (true, 15), (true, 16), (true, 17), (true, 18), (true, 19), (true, 20), (true, 21), (true, 22), (true, 23), (true, 24), (true, 25), (true, 26), (true, 27)] (by kernel_rfl) (by kernel_rfl) (fun _ _ d _ _ h => by cases d <;> exact h) ?_
            have hb : Below w2.heap.size w2 w2.drew := (Below.refl _ _).drew
            iterate 28
             refine wpS_takeL rfl rfl ?_
             go_big_quiet_step (rfl)
             refine wpQuiet_nil ?_
            refine wpS_nil ?_
            simp only [List.drop_succ_cons, List.drop_zero]
            go_wp2_with fail
            refine (rOnB_is ax ay ix iy cx cy o HON.out _).mono ?_
            rintro e w3 ⟨rfl, hn⟩
            have HW3 := Lib.hid ((HW2.out.trans (hb.mono HW2.out.size)).trans (hn.mono (HW2.out.trans (hb.mono HW2.out.size)).size))
            have HOB := Lib.hid (show onB (X a) (Y a) (X i) (Y i) (X j) (Y j) = o by rw [HAP.out.1, HAP.out.2, HI.out.1, HI.out.2, HC.out.1, HC.out.2]; exact HON.out)
            clear hn hb hb2 qa0 qa1 qi0 qi1 qc0 qc1
            cases o with
            | true =>
             have HF : Hid (false = true ↔ ∀ q, q < j + 1 → goodR X Y a i q) := Lib.hid (by refine ⟨fun h => (by cases h), fun h => ?_⟩; have := (h j (by omega)).2 HR.out hja hji; rw [HOB.out] at this; cases this)
             go_wp2_with fail
             go_roundg (N - (j + 1))
             case measure => omega
             case rel => exact ⟨j + 1, false, rfl, by norm_cast, by omega, Nat.le_refl _, HF, HW3⟩
            | false =>
             have HF : Hid (b = true ↔ ∀ q, q < j + 1 → goodR X Y a i q) := Lib.hid (by refine HG.out.trans ⟨fun h q hq => ?_, fun h q hq => h q (by omega)⟩; rcases Nat.lt_or_ge q j with h1 | h1; exact h q h1; have e : q = j := (by omega); subst e; exact ⟨by rw [HR.out]; decide, fun _ _ _ => HOB.out⟩)
             go_wp2_with fail
             go_roundg (N - (j + 1))
             case measure => omega
             case rel => exact ⟨j + 1, b, rfl, by norm_cast, by omega, Nat.le_refl _, HF, HW3⟩
         ·go_wp2_with fail
          refine wp_region_up w2.heap.size 28 [(true, 0), (true, 1), (true, 2), (true, 3), (true, 4), (true, 5), (true, 6), (true, 7), (true, 8), (true, 9), (true, 10), (true, 11), (true, 12), (true, 13), (true, 14), (true, 15), (true, 16), (true, 17), (true, 18), (true, 19), (true, 20), (true, 21), (true, 22), (true, 23), (true, 24), (true, 25), (true, 26), (true, 27)] (by kernel_rfl) (by kernel_rfl) (fun _ _ d _ _ h => by cases d <;> exact h) ?_
          have hb : Below w2.heap.size w2 w2.drew := (Below.refl _ _).drew
          iterate 28
           refine wpS_takeL rfl rfl ?_
           go_big_quiet_step (rfl)
           refine wpQuiet_nil ?_
          refine wpS_nil ?_
          simp only [List.drop_succ_cons, List.drop_zero]
          have HW3 := Lib.hid (HW2.out.trans (hb.mono HW2.out.size))
          have HF : Hid (b = true ↔ ∀ q, q < j + 1 → goodR X Y a i q) := Lib.hid (by refine HG.out.trans ⟨fun h q hq => ?_, fun h q hq => h q (by omega)⟩; rcases Nat.lt_or_ge q j with h1 | h1; exact h q h1; have e : q = j := (by omega); subst e; exact ⟨by rw [HR.out]; decide, fun h => by rw [HR.out] at h; cases h⟩)
          clear hb
          go_wp2_with fail
          go_roundg (N - (j + 1))
          case measure => omega
          case rel => exact ⟨j + 1, b, rfl, by norm_cast, by omega, Nat.le_refl _, HF, HW3⟩
        ·have hjN : j = N := by omega
         have HB2 : Hid (b = true ↔ i = z) := Lib.hid (by have h1 := HG.out; rw [hjN] at h1; exact h1.trans (HNX.out.1 i hilt hia))
         cases b with
         | true =>
          have HN2 := Lib.hid (nxI_up (HB2.out.1 rfl))
          go_wp2_with fail
          go_roundg (N - (i + 1))
          case measure => omega
          case rel => exact ⟨i + 1, by rw [HN2.out], by norm_cast, by omega, Nat.le_refl _, HWj⟩
         | false =>
          have HN2 := Lib.hid (nxI_st (fun e => by have := HB2.out.2 e; cases this))
          go_wp2_with fail
          go_roundg (N - (i + 1))
          case measure => omega
          case rel => exact ⟨i + 1, by rw [HN2.out], by norm_cast, by omega, Nat.le_refl _, HWj⟩
     ·have hiN : i = N := by omega
      have hnz : nxI z i = (z : Int) := by unfold nxI; rw [if_pos (by rw [hiN]; exact HNX.out.2.2)]
      rw [hnz]
      have hz0 : ¬ ((z : Int) < 0) := by omega
      have HST : Hid ((k + 1 = n → z = 0) ∧ (0 < k + 1 → k + 1 < n → z ≠ 0) ∧ z = gH H ((k + 1) % n)) := by
       refine Lib.hid ⟨fun h => ?_, fun _ h => ?_, HZ.out.symm⟩
       ·rw [← HZ.out, h, Nat.mod_self]; exact HH.out.zero
       ·rw [← HZ.out, Nat.mod_eq_of_lt h]; exact HH.out.nz _ (by omega) (by rw [HLN.out]; exact h)
      have HBB := BB.out.trans (HWi.out.mono hz1)
      have HNL2 := Lib.hid (NL3.out.of HWi.out)
      clear hnz
      go_wp2_with fail
      go_roundg (n - (k + 1))
      case measure => omega
      case rel => exact ⟨k + 1, ho2, hc2, z, rfl, rfl, by omega, Nat.le_refl _, HST.out.1, HST.out.2.1, Lib.hid HST.out.2.2, HNL2, HBB⟩
  ·have hkn : k = n := by omega
   have haz := ha0 hkn
   subst haz
   subst hkn
   have hne : ((k : Int) == 0) = false := by simp; omega
   go_wp2
   go_ret
   refine ⟨_, rfl, ?_, hb⟩
   have := HNL.out
   rw [List.take_of_length_le (by rw [HLN.out]; exact Nat.le_refl _)] at this
   exact this
end Go.Proofs.Ytdlpfiiakmhnlaa

namespace Go.Proofs.Ytdlpfiiakmhnlaa
open Go.RowKit

theorem rTurn_v (ax ay bx b_y cx cy t : Int) (ht : trn ax ay bx b_y cx cy = t) (h1 : Co ax) (h2 : Co ay) (h3 : Co bx) (h4 : Co b_y) (h5 : Co cx) (h6 : Co cy) (w : World) :
    Calls Try.prog 57 #[pI ax ay, pI bx b_y, pI cx cy] w (GivesBig w t 12) := by
  subst ht
  refine (rTurn_any ax ay bx b_y cx cy h1 h2 h3 h4 h5 h6 w).mono ?_
  rintro e w2 ⟨v, rfl, h, hb⟩
  exact ⟨v, rfl, h.mono (by decide), hb⟩
/-- a sum in a variable -/
def SumB (w : World) (b : Nat) (z : Int) : Prop := ∃ neg a l c, Blk w b #[.bool neg, .slice a l c] 109 ∧ Big w (.agg #[.bool neg, .slice a l c]) z 12
theorem SumB.of {w w' : World} {b : Nat} {z : Int} (h : SumB w b z) (hb : Below w.heap.size w w') : SumB w' b z := by
  obtain ⟨neg, a, l, c, h1, h2⟩ := h
  exact ⟨neg, a, l, c, h1.of hb, h2.of hb⟩
theorem bigCmp_is0 (v v' : Value) (n m : Int) (L L' : Nat) (hm : m = n) (w : World) (h : Big w v n L) (h' : Big w v' m L') :
    Calls Try.prog 59 #[v, v'] w fun e w' => e = .returned (.int .i64 0) ∧ Below w.heap.size w w' := by
  subst hm
  refine (bigCmp_any v v' m m L L' w h h').mono ?_
  rintro e w' ⟨rfl, hb⟩
  exact ⟨by simp [cmpI], hb⟩
theorem gT_bd {N : Nat} {X Y : Nat → Int} (hg : allC N X Y = true) {a b c : Nat} (ha : a < N) (hb : b < N) (hc : c < N) : -38685626227668133590597632 ≤ gT X Y a b c ∧ gT X Y a b c ≤ 38685626227668133590597632 := by
  obtain ⟨a1, a2⟩ := allC_co hg ha
  obtain ⟨b1, b2⟩ := allC_co hg hb
  obtain ⟨c1, c2⟩ := allC_co hg hc
  exact trn_bd a1 a2 b1 b2 c1 c2
/-- what a fan of a way covers -/
def fanS (X Y : Nat → Int) (H : List Nat) (k : Nat) : Int := sumN (fun i => gT X Y (gH H 0) (gH H (i + 1)) (gH H (i + 2))) k
theorem fanS_bd {N : Nat} {X Y : Nat → Int} {H : List Nat} (hg : allC N X Y = true) (hlt : ∀ i, i < H.length → gH H i < N) : ∀ k, k + 2 ≤ H.length → -(38685626227668133590597632 * (k : Int)) ≤ fanS X Y H k ∧ fanS X Y H k ≤ 38685626227668133590597632 * (k : Int)
  | 0, _ => by show -(_ * (0 : Int)) ≤ 0 ∧ (0 : Int) ≤ _ * 0; omega
  | k + 1, h => by
    have h1 := fanS_bd hg hlt k (by omega)
    have h2 := gT_bd hg (hlt 0 (by omega)) (hlt (k + 1) (by omega)) (hlt (k + 2) (by omega))
    show _ ≤ fanS X Y H k + gT X Y (gH H 0) (gH H (k + 1)) (gH H (k + 2)) ∧ fanS X Y H k + gT X Y (gH H 0) (gH H (k + 1)) (gH H (k + 2)) ≤ _
    have e : ((k + 1 : Nat) : Int) = (k : Int) + 1 := by omega
    rw [e]; omega
set_option maxRecDepth 100000 in
set_option maxHeartbeats 4000000 in
theorem Area_is (po : Option Addr) (N pc : Nat) (X Y : Nat → Int) (H : List Nat) (base : Nat) (v : Value) (r : Nat) (w : World) (hP : Pts w po N pc X Y) (hg : allC N X Y = true) (hV : NL w base v H) (hr : H.length = r + 2) (hr60 : r ≤ 60) (hlt : ∀ i, i < H.length → gH H i < N) :
    Calls Try.prog 60 #[.slice po N pc, v] w (GivesBig w (fanS X Y H r) 12) := by
 obtain ⟨ao, cap, rfl, hcl, hcb, hcell⟩ := hV.val
 obtain ⟨g, rfl, _, hgw, hcell⟩ := hcell (by omega)
 have hpcl := hP.capl
 have hpcb := hP.capb
 have HP := Lib.hid hP
 have HG := Lib.hid hg
 have HLT := Lib.hid hlt
 have HCE := Lib.hid (show ∀ j, j < H.length → w.cell? ⟨g, j, none⟩ = some (.int .i64 (gH H j : Nat)) from fun j hj => hcell j _ (gH_at hj))
 have HRR := Lib.hid hr
 have HBD := Lib.hid (fanS_bd (H := H) hg hlt)
 clear hP hg hV hlt hcell
 rw [hr] at hcl ⊢
 clear hr
 go_enter Try.func60, Try.ntmps60
 go_wp2_with fail
 refine name_world ?_
 intro V hV
 have hb0 : Below w.heap.size w V := by rw [hV]; exact below_a2 _ _ _
 have kr : Blk V w.heap.size #[.bool false, .slice none 0 0] 109 := by rw [hV]; exact (Blk.new _ _ _).of (below_a1 _ _)
 have ks : Blk V (w.heap.size + 1) #[.bool false, .slice none 0 0] 109 := by rw [hV]; have := Blk.new (w.alloc (.cells #[.bool false, .slice none 0 0] 109)) #[.bool false, .slice none 0 0] 109; simpa using this
 obtain ⟨rb, erb⟩ : ∃ b, w.heap.size = b := ⟨_, rfl⟩
 obtain ⟨sb, esb⟩ : ∃ b, w.heap.size + 1 = b := ⟨_, rfl⟩
 rw [esb] at ks
 rw [erb] at kr
 rw [esb, erb]
 have HB0 := Lib.hid hb0
 have KS0 : Hid (SumB V sb (fanS X Y H 0)) := Lib.hid ⟨false, none, 0, 0, ks, Big.zero _ _⟩
 have KR0 := Lib.hid kr
 have hrs : rb < sb := by omega
 have hwr : w.heap.size = rb := erb
 clear hV hb0 kr ks erb esb
 go_wp2_with fail
 go_loopg [6] r (fun gk s6 wr => ∃ i : Nat, s6 = .int .i64 ((i : Int) + 1) ∧ i ≤ r ∧ r - i ≤ gk ∧ Hid (SumB wr sb (fanS X Y H i)) ∧ Hid (Blk wr rb #[.bool false, .slice none 0 0] 109) ∧ Hid (Below w.heap.size w wr))
 case atStart => exact ⟨0, rfl, by omega, by omega, KS0, KR0, HB0⟩
 case round =>
  clear HB0 KS0 KR0
  obtain ⟨i, rfl, hi, hgi, KS, KR, HB⟩ := hrel
  by_cases hlt : i < r
  ·have hc1 : decide ((i : Int) + 1 + 1 < ((r + 2 : Nat) : Int)) = true := by simp; omega
   have hc2 : (i : Int) + 1 + 1 < ((r + 2 : Nat) : Int) := by omega
   obtain ⟨a, ha⟩ : ∃ a, gH H 0 = a := ⟨_, rfl⟩
   obtain ⟨b, hb_⟩ : ∃ a, gH H (i + 1) = a := ⟨_, rfl⟩
   obtain ⟨c, hc⟩ : ∃ a, gH H (i + 2) = a := ⟨_, rfl⟩
   have haN : a < N := by rw [← ha]; exact HLT.out 0 (by rw [HRR.out]; omega)
   have hbN : b < N := by rw [← hb_]; exact HLT.out (i + 1) (by rw [HRR.out]; omega)
   have hcN : c < N := by rw [← hc]; exact HLT.out (i + 2) (by rw [HRR.out]; omega)
   have e0 := HCE.out 0 (by rw [HRR.out]; omega)
   have e1 := HCE.out (i + 1) (by rw [HRR.out]; omega)
   have e2 := HCE.out (i + 2) (by rw [HRR.out]; omega)
   rw [ha] at e0
   rw [hb_] at e1
   rw [hc] at e2
   have hgr : g < wr.heap.size := Nat.lt_of_lt_of_le hgw HB.out.size
   have f0 : ∀ u : UpTo wr.heap.size wr, u.w.cell? ⟨g, 0, none⟩ = some (.int .i64 (a : Nat)) := fun u => (u.below.cell (p := ⟨g, 0, none⟩) hgr).trans ((HB.out.cell (p := ⟨g, 0, none⟩) hgw).trans e0)
   have f1 : ∀ u : UpTo wr.heap.size wr, u.w.cell? ⟨g, i + 1, none⟩ = some (.int .i64 (b : Nat)) := fun u => (u.below.cell (p := ⟨g, i + 1, none⟩) hgr).trans ((HB.out.cell (p := ⟨g, i + 1, none⟩) hgw).trans e1)
   have f2 : ∀ u : UpTo wr.heap.size wr, u.w.cell? ⟨g, i + 2, none⟩ = some (.int .i64 (c : Nat)) := fun u => (u.below.cell (p := ⟨g, i + 2, none⟩) hgr).trans ((HB.out.cell (p := ⟨g, i + 2, none⟩) hgw).trans e2)
   have f3 : ∀ u : UpTo wr.heap.size wr, u.w.cell? ⟨g, i + 1 + 1, none⟩ = some (.int .i64 (c : Nat)) := f2
   obtain ⟨pa, rfl, hpt⟩ := (HP.out.of HB.out).atP (by omega)
   have qa := hpt a haN
   have qb := hpt b hbN
   have qc := hpt c hcN
   have qa0 := fun u => (qa u).1
   have qa1 := fun u => (qa u).2
   have qb0 := fun u => (qb u).1
   have qb1 := fun u => (qb u).2
   have qc0 := fun u => (qc u).1
   have qc1 := fun u => (qc u).2
   obtain ⟨neg, da, dl, dc, ks, hz⟩ := KS.out
   have HZ := Lib.hid hz
   have HKS := Lib.hid ks
   have s0 : ∀ u : UpTo wr.heap.size wr, u.w.cell? ⟨sb, 0, none⟩ = some (.bool neg) := fun u => (ks.of u.below).cell 0
   have s1 : ∀ u : UpTo wr.heap.size wr, u.w.cell? ⟨sb, 1, none⟩ = some (.slice da dl dc) := fun u => (ks.of u.below).cell 1
   have ls := ks.lt
   obtain ⟨t, ht⟩ : ∃ t, trn (X a) (Y a) (X b) (Y b) (X c) (Y c) = t := ⟨_, rfl⟩
   have HT := Lib.hid ht
   have HCA := Lib.hid (allC_co HG.out haN)
   have HCB := Lib.hid (allC_co HG.out hbN)
   have HCC := Lib.hid (allC_co HG.out hcN)
   have HGH := Lib.hid (And.intro ha (And.intro hb_ hc))
   clear ha hb_ hc e0 e1 e2 hpt qa qb qc ks hz ht
   go_wp2_with fail
   refine wp_region_up wr.heap.size 23 [(true, 0), (true, 1), (true, 2), (true, 3), (true, 4), (true, 5), (true, 6), (true, 7), (true, 8), (true, 9), (true, 10), (true, 11), (true, 12), (true, 13), (true, 14), (true, 15), (true, 16), (true, 17), (true, 18), (true, 19), (true, 20), (true, 21), (false, 22)] (by kernel_rfl) (by kernel_rfl) (fun _ _ d _ _ h => by cases d <;> exact h) ?_
   have hb : Below wr.heap.size wr wr.drew := (Below.refl _ _).drew
   iterate 22
    refine wpS_takeL rfl rfl ?_
    go_big_quiet_step (rfl)
    refine wpQuiet_nil ?_
   refine wpS_doL rfl ?_
   intro K hK
   go_wp2_with ((go_at_call 57; (with_reducible refine (rTurn_v (X a) (Y a) (X b) (Y b) (X c) (Y c) t HT.out HCA.out.1 HCA.out.2 HCB.out.1 HCB.out.2 HCC.out.1 HCC.out.2 _).mono ?_); rintro e w2 ⟨v_, rfl, hbm, hn⟩; have HB9 := Lib.hid hbm; have hvm := hbm.shape; clear hbm; obtain ⟨bn1, ba1, bl1, bc1, rfl⟩ := hvm))
   replace hb := hb.trans (hn.mono hb.size)
   refine hK.out _ _ (up_iff.2 hb) ?_
   clear hK K
   clear hn
   refine wpS_nil ?_
   simp only [List.drop_succ_cons, List.drop_zero]
   clear f0 f1 f2 f3 qa0 qa1 qb0 qb1 qc0 qc1 s0 s1 ls
   go_wp2_with fail
   refine (bigAdd_any _ _ (fanS X Y H i) t 12 _ (HZ.out.of hb) HB9.out (by decide)).mono ?_
   rintro e W9 ⟨v9, rfl, hv9, hn9⟩
   obtain ⟨nn, na, nl, nc, rfl⟩ := hv9.shape
   have hbw := hb.trans (hn9.mono hb.size)
   have e1 : fanS X Y H (i + 1) = fanS X Y H i + t := by
    show fanS X Y H i + gT X Y (gH H 0) (gH H (i + 1)) (gH H (i + 2)) = _
    rw [← HT.out, ← gT_trn, HGH.out.1, HGH.out.2.1, HGH.out.2.2]
   have Hv : Hid (Big W9 (.agg #[.bool nn, .slice na nl nc]) (fanS X Y H (i + 1)) 12) := by
    refine Lib.hid ?_
    have hk60 : ((i + 1 : Nat) : Int) ≤ 60 := by omega
    have bd := HBD.out (i + 1) (by rw [HRR.out]; omega)
    have p12 : P15 12 = 1532495540865888858358347027150309183618739122183602176 := by decide
    rw [← e1] at hv9
    refine hv9.fit ?_
    rw [p12]; omega
   have HKS9 := Lib.hid (HKS.out.of hbw)
   have KR9 := Lib.hid (KR.out.of hbw)
   have hb9 := Lib.hid (HB.out.trans (hbw.mono HB.out.size))
   have c0 := HKS9.out.cell 0
   have c1 := HKS9.out.cell 1
   have f0 := HKS9.out.free 0
   have f1 := HKS9.out.free 1
   have ls9 := HKS9.out.lt
   clear hb hbw hv9 hn9 HZ HKS HB9 KS KR e1 HGH HT HCA HCB HCC
   go_wp2_with fail
   go_roundg (r - (i + 1))
   case measure => omega
   case rel =>
    refine ⟨i + 1, by norm_cast, by omega, Nat.le_refl _, Lib.hid ⟨nn, na, nl, nc, HKS9.out.put2 _ _, Hv.out.set2 (HKS9.out.cell 0) _ _⟩, Lib.hid ?_, Lib.hid ?_⟩
    ·exact ((Below.heap_setCell _ ⟨sb, 1, none⟩ _ rb (by show rb ≠ sb; omega)).trans (Below.heap_setCell _ ⟨sb, 0, none⟩ _ rb (by show rb ≠ sb; omega))).trans KR9.out
    ·exact (hb9.out.setCell (p := ⟨sb, 0, none⟩) (by show w.heap.size ≤ sb; omega) _).setCell (p := ⟨sb, 1, none⟩) (by show w.heap.size ≤ sb; omega) _
  ·obtain rfl : i = r := by omega
   have hc1 : decide ((i : Int) + 1 + 1 < ((i + 2 : Nat) : Int)) = false := by simp; omega
   obtain ⟨neg, da, dl, dc, ks, hz⟩ := KS.out
   have s0 := ks.cell 0
   have s1 := ks.cell 1
   have ls := ks.lt
   have r0 := KR.out.cell 0
   have r1 := KR.out.cell 1
   have fr0 := KR.out.free 0
   have fr1 := KR.out.free 1
   have lr := KR.out.lt
   have HZ := Lib.hid hz
   simp only [List.getElem?_toArray, List.getElem?_cons_zero, List.getElem?_cons_succ] at s0 s1 r0 r1
   clear ks hz
   go_wp2
   have KF := KR.out.put2 (.bool neg) (.slice da dl dc)
   have c0 := KF.cell 0
   have c1 := KF.cell 1
   simp only [List.getElem?_toArray, List.getElem?_cons_zero, List.getElem?_cons_succ] at c0 c1
   simp [bodyPost, results, Try.results60, go_sem, c0, c1]
   exact ⟨_, rfl, HZ.out.set2 r0 _ _, (HB.out.setCell (p := ⟨rb, 0, none⟩) (by show w.heap.size ≤ rb; omega) _).setCell (p := ⟨rb, 1, none⟩) (by show w.heap.size ≤ rb; omega) _⟩
end Go.Proofs.Ytdlpfiiakmhnlaa

namespace Go.Proofs.Ytdlpfiiakmhnlaa
open Go.RowKit

/-- the digits handed back lie above B -/
def FrR (B : Nat) (e : Ending) : Prop := ∀ neg ao n cap, e = .returned (.agg #[.bool neg, .slice ao n cap]) → ao = none ∨ ∃ g, ao = some ⟨g, 0, none⟩ ∧ B ≤ g
/-- a slice handed back is of its own -/
def FrS (B : Nat) (e : Ending) : Prop := ∀ v g, e = .returned v → v.ownBlock = some g → B ≤ g
/-- the digits handed back are a part of those -/
def FrT (ao : Option Addr) (e : Ending) : Prop := ∀ neg a n cap, e = .returned (.agg #[.bool neg, .slice a n cap]) → a = none ∨ a = ao
theorem FrT.mk1 (ao : Option Addr) (neg : Bool) : FrT ao (.returned (.agg #[.bool neg, .slice none 0 0])) := by
  intro n a k c h
  injection h with h; injection h with h; injection h with h
  simp at h
  exact .inl h.2.1.symm
theorem FrT.mk2 (ao : Option Addr) (neg : Bool) (m c0 : Nat) : FrT ao (.returned (.agg #[.bool neg, .slice ao m c0])) := by
  intro n a k c h
  injection h with h; injection h with h; injection h with h
  simp at h
  exact .inr h.2.1.symm
theorem FrR.of {B : Nat} {neg : Bool} {a : Option Addr} {q c : Nat} {ao : Option Addr} {m c2 : Nat} (ht : FrT ao (.returned (.agg #[.bool neg, .slice a q c]))) (hs : FrS B (.returned (.slice ao m c2))) (hp : a = none ∨ ∃ g, a = some ⟨g, 0, none⟩) : FrR B (.returned (.agg #[.bool neg, .slice a q c])) := by
  intro n a' k c' h
  injection h with h; injection h with h; injection h with h
  simp at h
  obtain ⟨_, rfl, _, _⟩ := h
  rcases hp with e | ⟨g, e⟩
  · exact .inl e
  · refine .inr ⟨g, e, ?_⟩
    rcases ht neg a q c rfl with h | h
    · rw [h] at e; cases e
    · exact hs _ g rfl (by rw [← h, e]; rfl)
theorem FrR.neg {B : Nat} {neg : Bool} {a : Option Addr} {q c : Nat} (h : FrR B (.returned (.agg #[.bool neg, .slice a q c]))) : a = none ∨ ∃ g, a = some ⟨g, 0, none⟩ ∧ B ≤ g := h _ _ _ _ rfl
theorem Big.ptr {w : World} {neg : Bool} {a : Option Addr} {q c : Nat} {n : Int} {L : Nat} (h : Big w (.agg #[.bool neg, .slice a q c]) n L) (hq : q ≠ 0 ∨ a = none) : a = none ∨ ∃ g, a = some ⟨g, 0, none⟩ := by
  rcases hq with hq | hq
  · obtain ⟨n2, ao, b, cap, ds, e, hs, _⟩ := h
    injection e with e; injection e with e
    simp at e
    obtain ⟨_, rfl, rfl, rfl⟩ := e
    exact .inr ⟨b, hs.ptr (by omega)⟩
  · exact .inl hq
theorem FrR.of2 {B B' : Nat} {w : World} {neg : Bool} {a : Option Addr} {q c : Nat} {n : Int} {L : Nat} {ao : Option Addr} {m c2 : Nat} (ht : FrT ao (.returned (.agg #[.bool neg, .slice a q c]))) (hs : FrS B' (.returned (.slice ao m c2))) (h : Big w (.agg #[.bool neg, .slice a q c]) n L) (hB : B ≤ B') : FrR B (.returned (.agg #[.bool neg, .slice a q c])) := by
  intro n' a' k c' h2
  injection h2 with h2; injection h2 with h2; injection h2 with h2
  simp at h2
  obtain ⟨_, rfl, _, _⟩ := h2
  obtain ⟨n2, ao2, b, cap, ds, e, hsl, _, _, hz, _⟩ := h
  injection e with e; injection e with e
  simp at e
  obtain ⟨_, rfl, rfl, rfl⟩ := e
  rcases Nat.eq_zero_or_pos ds.length with h0 | h0
  · exact .inl (hz (List.length_eq_zero_iff.1 h0)).2
  · have hp := hsl.ptr h0
    refine .inr ⟨b, hp, Nat.le_trans hB ?_⟩
    rcases ht neg a ds.length c rfl with h | h
    · rw [h] at hp; cases hp
    · exact hs _ b rfl (by rw [← h, hp]; rfl)
set_option maxRecDepth 100000 in
set_option maxHeartbeats 1000000 in
theorem trim_F (neg : Bool) (ao : Option Addr) (b cap : Nat) (ds : List Int) (w : World) (hs : Sl w ao b cap ds) (hd : DigOk ds) (L : Nat) (hL : ds.length ≤ L) :
    Calls Try.prog 80 #[.agg #[.bool neg, .slice ao ds.length cap]] w (fun e w2 => GivesBig w (bif neg then -dval ds else dval ds) L e w2 ∧ FrT ao e) := by
 have HS := Lib.hid hs
 have HD := Lib.hid hd
 have HL := Lib.hid hL
 have ll := hs.len
 have cl := hs.capl
 have cb := hs.capb
 clear hs hd hL
 obtain ⟨N, hN⟩ : ∃ N, N = ds.length := ⟨_, rfl⟩
 have HN := Lib.hid hN
 rw [← hN] at ll cl ⊢
 clear hN
 go_enter Try.func80, Try.ntmps80
 go_wp2_with fail
 refine name_world ?_
 intro W hW
 have k0 : Blk W w.heap.size #[.bool neg, .slice ao N cap] 109 := by rw [hW]; exact (Blk.new _ _ _).alloc _
 have k1 : Blk W (w.heap.size + 1) #[.bool false, .slice none 0 0] 109 := by rw [hW]; exact Blk.new1 _ _ _ _
 have hb0 : Below w.heap.size w W := by rw [hW]; (repeat (first | exact Below.refl _ _ | refine below_drewN ?_ _ | refine Below.drew ?_ | refine Below.alloc ?_ (by simp) _ | refine Below.alloc ?_ (by simp; omega) _))
 clear hW
 have c0 := k0.cell 0
 have c1 := k0.cell 1
 simp only [List.getElem?_toArray, List.getElem?_cons_zero, List.getElem?_cons_succ] at c0 c1
 have d0 := k1.cell 0
 have d1 := k1.cell 1
 have f0 := k1.free 0
 have f1 := k1.free 1
 simp only [List.getElem?_toArray, List.getElem?_cons_zero, List.getElem?_cons_succ] at d0 d1
 have K0 := Lib.hid k0
 have K1 := Lib.hid k1
 have l0 := k0.lt
 clear k0 k1
 go_loopw [3] (fun i wr => ∃ k : Nat, k ≤ N ∧ i = .int .i64 k ∧ Hid (dval (ds.take k) = dval ds) ∧ W = wr) (fun i _ => (intOf i).toNat)
 case atStart => exact ⟨N, Nat.le_refl _, rfl, (by rw [List.take_of_length_le (by rw [HN.out]; exact Nat.le_refl _)] : dval (ds.take N) = dval ds), rfl⟩
 case round =>
  rename_i i0 wr
  obtain ⟨k, hk, rfl, hd, rfl⟩ := hrel
  cases k with
  | zero =>
   have hz : dval ds = 0 := by have := hd.out; rw [List.take_zero] at this; exact this.symm
   have HZ := Lib.hid hz
   clear hz hd
   go_wp2
   simp [bodyPost, results, Try.results80, go_sem, d0, d1]
   refine ⟨⟨_, rfl, ?_, ?_⟩, FrT.mk1 _ _⟩
   ·have e : (bif neg then -dval ds else dval ds) = 0 := by rw [HZ.out]; cases neg <;> rfl
    rw [e]; exact Big.zero _ _
   ·refine Below.setCell (Below.setCell hb0 ?_ _) ?_ _ <;> exact Nat.le_succ _
  | succ j =>
   have ja : j < ds.length := by rw [← HN.out]; omega
   obtain rfl := HS.out.ptr (by omega)
   have ba := HS.out.blk (by omega)
   have e0 : W.cell? ⟨b, j, none⟩ = some (.int .i64 (ds.getD j 0)) := by rw [hb0.cell (p := ⟨b, j, none⟩) ba]; exact HS.out.cell j ja
   obtain ⟨x, hx⟩ : ∃ x, x = ds.getD j 0 := ⟨_, rfl⟩
   rw [← hx] at e0
   have HX := Lib.hid hx
   have JA := Lib.hid ja
   clear hx ja ba
   have e1 : ((j + 1 : Nat) : Int) - 1 = (j : Int) := by omega
   by_cases hx0 : x = 0
   ·subst hx0
    go_wp2
    go_roundw
    case rel => exact ⟨j, by omega, by go_num, dval_take_zero JA.out HX.out.symm hd.out, trivial⟩
    case measure => simp [intOf]
   ·have hx1 : (x == 0) = false := by simpa using hx0
    have HX0 := Lib.hid hx0
    clear hx0
    go_wp2_with fail
    have D0 := Lib.hid d0
    have D1 := Lib.hid d1
    clear d0 d1
    have hj1 : (0 : Int) ≤ ((j + 1 : Nat) : Int) := by omega
    refine wp_region_up W.heap.size 6 [(true, 0), (true, 1), (true, 2), (true, 3), (true, 4), (true, 5)] (by kernel_rfl) (by kernel_rfl) (fun _ _ d _ _ h => by cases d <;> exact h) ?_
    have hb : Below W.heap.size W W.drew := (Below.refl _ _).drew
    iterate 6
     refine wpS_takeL rfl rfl ?_
     go_big_quiet_step (rfl)
     refine wpQuiet_nil ?_
    refine wpS_nil ?_
    simp only [List.drop_succ_cons, List.drop_zero]
    have d0 := D0.out
    have d1 := D1.out
    go_wp2
    simp [bodyPost, results, Try.results80, go_sem, d0, d1]
    have hbl : Below w.heap.size w ((W.setCell ⟨w.heap.size + 1, 0, none⟩ (.bool neg)).setCell ⟨w.heap.size + 1, 1, none⟩ (.slice (some ⟨b, 0, none⟩) (j + 1) cap)).drew := by
     refine (Below.setCell (Below.setCell hb0 ?_ _) ?_ _).drew <;> exact Nat.le_succ _
    have hlen : (ds.take (j + 1)).length = j + 1 := by rw [List.length_take]; have := JA.out; omega
    refine ⟨⟨_, rfl, ⟨neg, some ⟨b, 0, none⟩, b, cap, ds.take (j + 1), by rw [hlen], ?_, HD.out.take _, .inr ?_, fun h => ?_, by rw [hd.out], ?_⟩, hbl⟩, FrT.mk2 _ _ _ _⟩
    ·exact (HS.out.of hbl).cut JA.out
    ·rw [hlen]
     have := HX0.out
     rw [HX.out] at this
     simpa [List.getElem?_take] using this
    ·rw [h] at hlen; simp at hlen
    ·rw [hlen]; have := HL.out; have := JA.out; omega
set_option maxRecDepth 100000 in
set_option maxHeartbeats 4000000 in
theorem more_F (ao bo : Option Addr) (b b' cap cap' : Nat) (xs ys : List Int) (w : World) (ha : Sl w ao b cap xs) (hb : Sl w bo b' cap' ys) (hl1 : xs.length < 536870912) (hl2 : ys.length < 536870912) (da : DigOk xs) (db : DigOk ys) :
    Calls Try.prog 81 #[.slice ao xs.length cap, .slice bo ys.length cap'] w (fun e w2 => GivesDig w (dval xs + dval ys) (max xs.length ys.length + 1) e w2 ∧ FrS w.heap.size e) := by
 obtain ⟨i0, hi, hz0, hz1, hz2⟩ := info_parts info_int
 have HA := Lib.hid ha
 have HB := Lib.hid hb
 have D := Lib.hid (And.intro da db)
 have la := hl1
 have lb := hl2
 clear ha hb da db hl1 hl2
 obtain ⟨N, hN⟩ : ∃ N, N = xs.length := ⟨_, rfl⟩
 obtain ⟨M, hM⟩ : ∃ M, M = ys.length := ⟨_, rfl⟩
 have HN := Lib.hid hN
 have HM := Lib.hid hM
 rw [← hN] at la ⊢
 rw [← hM] at lb ⊢
 clear hN hM
 go_enter Try.func81, Try.ntmps81
 go_wp2_with fail
 go_loopw [5, 6, 7] (fun out c i wr => ∃ (k : Nat) (cv : Int) (ds : List Int), (k ≤ N ∨ k ≤ M) ∧ i = .int .i64 k ∧ c = .int .i64 cv ∧ 0 ≤ cv ∧ cv ≤ 1 ∧ wr.ownsRow w.heap.size 3 1 out k (dg ds) ∧
   Hid (DigOk ds ∧ ds.length = k ∧ dval ds + P15 k * cv = dval (xs.take k) + dval (ys.take k)) ∧ Below w.heap.size w wr) (fun _ _ i _ => N + M - (intOf i).toNat)
 case atStart => exact ⟨0, 0, [], .inl (Nat.zero_le _), rfl, rfl, by decide, by decide, World.ownsRow_nil _ _ _ _, ⟨DigOk.nil, rfl, by simp [dval]⟩, Below.refl _ _⟩
 case round =>
  rename_i wr
  obtain ⟨k, cv, ds, hk, rfl, rfl, cv0, cv1, hown, hds, hbl⟩ := hrel
  by_cases h1 : k < N
  ·by_cases h2 : k < M
   ·have ja : k < xs.length := by rw [← HN.out]; exact h1
    obtain rfl := HA.out.ptr (by omega)
    have e0 : wr.cell? ⟨b, k, none⟩ = some (.int .i64 (xs.getD k 0)) := by rw [hbl.cell (p := ⟨b, k, none⟩) (HA.out.blk (by omega))]; exact HA.out.cell k ja
    clear ja
    have jb : k < ys.length := by rw [← HM.out]; exact h2
    obtain rfl := HB.out.ptr (by omega)
    have e1 : wr.cell? ⟨b', k, none⟩ = some (.int .i64 (ys.getD k 0)) := by rw [hbl.cell (p := ⟨b', k, none⟩) (HB.out.blk (by omega))]; exact HB.out.cell k jb
    clear jb
    obtain ⟨x0, x1⟩ := D.out.1.get k
    obtain ⟨y0, y1⟩ := D.out.2.get k
    obtain ⟨x, hx⟩ : ∃ x, x = xs.getD k 0 := ⟨_, rfl⟩
    obtain ⟨y, hy⟩ : ∃ y, y = ys.getD k 0 := ⟨_, rfl⟩
    rw [← hx] at x0 x1 e0
    rw [← hy] at y0 y1 e1
    have hst := more_step hx hy ⟨x0, x1⟩ ⟨y0, y1⟩ ⟨cv0, cv1⟩ hds.out
    have ST := Lib.hid hst
    have HX := Lib.hid hx
    have HY := Lib.hid hy
    clear hst hx hy hds
    go_wp2_with (at_builtin; refine wpList_append_own _ rfl _ _ 29 rfl w.heap.size 3 i0 (.int .i64 0) 1 8 Try.underlying29 hi hz0 hz1 hz2 rfl (by decide) _ _ _ rfl (hown.alloc _) ⟨wr.heap.size, 0, none⟩ 1 1 [.int .i64 ((cv + x + y) % 32768)] rfl rfl ?c1 ?c2 ?c3 ?c4 ?c5 ?_)
    case c1 =>
     intro j u hj
     match j, hj with
     | 0, hj => simp at hj; subst hj; simp [Addr.add]
    case c2 => intro u hu; simp at hu; subst hu; rfl
    case c3 => unfold maxLen; omega
    case c4 => omega
    case c5 => have := hbl.size; simp; omega
    intro v' w1 hown' hgrow _
    have hb1 : Below w.heap.size w w1 := (hbl.alloc hbl.size _).grown hgrow (by have := hbl.size; simp; omega) (fun k hk => (hown.lt k hk).1)
    rw [← dg_snoc] at hown'
    clear hown hbl hgrow
    go_wp2
    go_roundw
    case rel => exact ⟨k + 1, (cv + x + y) / 32768, _, by omega, by go_num, rfl, ST.out.1.1, ST.out.1.2, hown', ST.out.2, hb1⟩
    case measure => simp [intOf]; omega
   ·have ja : k < xs.length := by rw [← HN.out]; exact h1
    obtain rfl := HA.out.ptr (by omega)
    have e0 : wr.cell? ⟨b, k, none⟩ = some (.int .i64 (xs.getD k 0)) := by rw [hbl.cell (p := ⟨b, k, none⟩) (HA.out.blk (by omega))]; exact HA.out.cell k ja
    clear ja
    obtain ⟨x0, x1⟩ := D.out.1.get k
    obtain ⟨y0, y1⟩ := D.out.2.get k
    obtain ⟨x, hx⟩ : ∃ x, x = xs.getD k 0 := ⟨_, rfl⟩
    obtain ⟨y, hy⟩ : ∃ y, y = ys.getD k 0 := ⟨_, rfl⟩
    rw [← hx] at x0 x1 e0
    rw [← hy] at y0 y1
    have hst := more_step hx hy ⟨x0, x1⟩ ⟨y0, y1⟩ ⟨cv0, cv1⟩ hds.out
    have hy0 : y = 0 := hy.trans (getD_out (by rw [← HM.out]; omega))
    subst hy0
    simp only [Int.add_zero] at hst
    have ST := Lib.hid hst
    have HX := Lib.hid hx
    have HY := Lib.hid hy
    clear hst hx hy hds
    go_wp2_with (at_builtin; refine wpList_append_own _ rfl _ _ 29 rfl w.heap.size 3 i0 (.int .i64 0) 1 8 Try.underlying29 hi hz0 hz1 hz2 rfl (by decide) _ _ _ rfl (hown.alloc _) ⟨wr.heap.size, 0, none⟩ 1 1 [.int .i64 ((cv + x) % 32768)] rfl rfl ?c1 ?c2 ?c3 ?c4 ?c5 ?_)
    case c1 =>
     intro j u hj
     match j, hj with
     | 0, hj => simp at hj; subst hj; simp [Addr.add]
    case c2 => intro u hu; simp at hu; subst hu; rfl
    case c3 => unfold maxLen; omega
    case c4 => omega
    case c5 => have := hbl.size; simp; omega
    intro v' w1 hown' hgrow _
    have hb1 : Below w.heap.size w w1 := (hbl.alloc hbl.size _).grown hgrow (by have := hbl.size; simp; omega) (fun k hk => (hown.lt k hk).1)
    rw [← dg_snoc] at hown'
    clear hown hbl hgrow
    go_wp2
    go_roundw
    case rel => exact ⟨k + 1, (cv + x) / 32768, _, by omega, by go_num, rfl, ST.out.1.1, ST.out.1.2, hown', ST.out.2, hb1⟩
    case measure => simp [intOf]; omega
  ·by_cases h2 : k < M
   ·have jb : k < ys.length := by rw [← HM.out]; exact h2
    obtain rfl := HB.out.ptr (by omega)
    have e1 : wr.cell? ⟨b', k, none⟩ = some (.int .i64 (ys.getD k 0)) := by rw [hbl.cell (p := ⟨b', k, none⟩) (HB.out.blk (by omega))]; exact HB.out.cell k jb
    clear jb
    obtain ⟨x0, x1⟩ := D.out.1.get k
    obtain ⟨y0, y1⟩ := D.out.2.get k
    obtain ⟨x, hx⟩ : ∃ x, x = xs.getD k 0 := ⟨_, rfl⟩
    obtain ⟨y, hy⟩ : ∃ y, y = ys.getD k 0 := ⟨_, rfl⟩
    rw [← hx] at x0 x1
    rw [← hy] at y0 y1 e1
    have hst := more_step hx hy ⟨x0, x1⟩ ⟨y0, y1⟩ ⟨cv0, cv1⟩ hds.out
    have hx0 : x = 0 := hx.trans (getD_out (by rw [← HN.out]; omega))
    subst hx0
    rw [Int.add_zero] at hst
    have ST := Lib.hid hst
    have HX := Lib.hid hx
    have HY := Lib.hid hy
    clear hst hx hy hds
    go_wp2_with (at_builtin; refine wpList_append_own _ rfl _ _ 29 rfl w.heap.size 3 i0 (.int .i64 0) 1 8 Try.underlying29 hi hz0 hz1 hz2 rfl (by decide) _ _ _ rfl (hown.alloc _) ⟨wr.heap.size, 0, none⟩ 1 1 [.int .i64 ((cv + y) % 32768)] rfl rfl ?c1 ?c2 ?c3 ?c4 ?c5 ?_)
    case c1 =>
     intro j u hj
     match j, hj with
     | 0, hj => simp at hj; subst hj; simp [Addr.add]
    case c2 => intro u hu; simp at hu; subst hu; rfl
    case c3 => unfold maxLen; omega
    case c4 => omega
    case c5 => have := hbl.size; simp; omega
    intro v' w1 hown' hgrow _
    have hb1 : Below w.heap.size w w1 := (hbl.alloc hbl.size _).grown hgrow (by have := hbl.size; simp; omega) (fun k hk => (hown.lt k hk).1)
    rw [← dg_snoc] at hown'
    clear hown hbl hgrow
    go_wp2
    go_roundw
    case rel => exact ⟨k + 1, (cv + y) / 32768, _, by omega, by go_num, rfl, ST.out.1.1, ST.out.1.2, hown', ST.out.2, hb1⟩
    case measure => simp [intOf]; omega
   ·have ST := Lib.hid hds.out
    clear hds
    go_wp2_with (at_builtin; refine wpList_append_own _ rfl _ _ 29 rfl w.heap.size 3 i0 (.int .i64 0) 1 8 Try.underlying29 hi hz0 hz1 hz2 rfl (by decide) _ _ _ rfl (hown.alloc _) ⟨wr.heap.size, 0, none⟩ 1 1 [.int .i64 cv] rfl rfl ?c1 ?c2 ?c3 ?c4 ?c5 ?_)
    case c1 =>
     intro j u hj
     match j, hj with
     | 0, hj => simp at hj; subst hj; simp [Addr.add]
    case c2 => intro u hu; simp at hu; subst hu; rfl
    case c3 => unfold maxLen; omega
    case c4 => omega
    case c5 => have := hbl.size; simp; omega
    intro v' w1 hown' hgrow _
    have hb1 : Below w.heap.size w w1 := (hbl.alloc hbl.size _).grown hgrow (by have := hbl.size; simp; omega) (fun k hk => (hown.lt k hk).1)
    rw [← dg_snoc] at hown'
    clear hown hbl hgrow
    go_wp2
    go_ret
    obtain ⟨g1, g2, g3⟩ := ST.out
    have gl : (ds ++ [cv]).length = k + 1 := by rw [List.length_append, g2]; rfl
    obtain ⟨ao2, b2, cap2, hv, hsl⟩ := own_sl hown' gl (by omega)
    refine ⟨⟨ao2, b2, cap2, ds ++ [cv], ?_, hsl, g1.append (DigOk.one ⟨cv0, by omega⟩), ?_, ?_, hb1⟩, fun v g hv hg => by injection hv with hv; subst hv; exact (hown'.lt g hg).1⟩
    ·rw [← hv]; rfl
    ·rw [dval_append, g2]
     have : dval [cv] = cv := by simp [dval]
     rw [this, g3, List.take_of_length_le (by rw [← HN.out]; omega), List.take_of_length_le (by rw [← HM.out]; omega)]
    ·rw [gl]; omega
set_option maxRecDepth 100000 in
set_option maxHeartbeats 4000000 in
theorem less_F (ao bo : Option Addr) (b b' cap cap' : Nat) (xs ys : List Int) (w : World) (ha : Sl w ao b cap xs) (hb : Sl w bo b' cap' ys) (hl1 : xs.length < 536870912) (da : DigOk xs) (db : DigOk ys) (hle : ys.length ≤ xs.length) (hge : dval ys ≤ dval xs) :
    Calls Try.prog 83 #[.slice ao xs.length cap, .slice bo ys.length cap'] w (fun e w2 => GivesDig w (dval xs - dval ys) xs.length e w2 ∧ FrS w.heap.size e) := by
 obtain ⟨i0, hi, hz0, hz1, hz2⟩ := info_parts info_int
 have HA := Lib.hid ha
 have HB := Lib.hid hb
 have D := Lib.hid (And.intro da db)
 have G := Lib.hid hge
 have la := hl1
 clear ha hb da db hl1 hge
 obtain ⟨N, hN⟩ : ∃ N, N = xs.length := ⟨_, rfl⟩
 obtain ⟨M, hM⟩ : ∃ M, M = ys.length := ⟨_, rfl⟩
 have HN := Lib.hid hN
 have HM := Lib.hid hM
 rw [← hN] at la hle ⊢
 rw [← hM] at hle ⊢
 clear hN hM
 go_enter Try.func83, Try.ntmps83
 go_wp2_with fail
 go_loopw [5, 6, 7] (fun out c i wr => ∃ (k : Nat) (cv : Int) (ds : List Int), k ≤ N ∧ i = .int .i64 k ∧ c = .int .i64 cv ∧ 0 ≤ cv ∧ cv ≤ 1 ∧ wr.ownsRow w.heap.size 3 1 out k (dg ds) ∧
   Hid (DigOk ds ∧ ds.length = k ∧ dval ds - P15 k * cv = dval (xs.take k) - dval (ys.take k)) ∧ Below w.heap.size w wr) (fun _ _ i _ => N - (intOf i).toNat)
 case atStart => exact ⟨0, 0, [], Nat.zero_le _, rfl, rfl, by decide, by decide, World.ownsRow_nil _ _ _ _, ⟨DigOk.nil, rfl, by simp [dval]⟩, Below.refl _ _⟩
 case round =>
  rename_i wr
  obtain ⟨k, cv, ds, hk, rfl, rfl, cv0, cv1, hown, hds, hbl⟩ := hrel
  by_cases h1 : k < N
  ·by_cases h2 : k < M
   ·have ja : k < xs.length := by rw [← HN.out]; exact h1
    obtain rfl := HA.out.ptr (by omega)
    have e0 : wr.cell? ⟨b, k, none⟩ = some (.int .i64 (xs.getD k 0)) := by rw [hbl.cell (p := ⟨b, k, none⟩) (HA.out.blk (by omega))]; exact HA.out.cell k ja
    clear ja
    have jb : k < ys.length := by rw [← HM.out]; exact h2
    obtain rfl := HB.out.ptr (by omega)
    have e1 : wr.cell? ⟨b', k, none⟩ = some (.int .i64 (ys.getD k 0)) := by rw [hbl.cell (p := ⟨b', k, none⟩) (HB.out.blk (by omega))]; exact HB.out.cell k jb
    clear jb
    obtain ⟨x0, x1⟩ := D.out.1.get k
    obtain ⟨y0, y1⟩ := D.out.2.get k
    obtain ⟨x, hx⟩ : ∃ x, x = xs.getD k 0 := ⟨_, rfl⟩
    obtain ⟨y, hy⟩ : ∃ y, y = ys.getD k 0 := ⟨_, rfl⟩
    rw [← hx] at x0 x1 e0
    rw [← hy] at y0 y1 e1
    by_cases hneg : x - cv - y < 0
    ·have hst := less_step (d := x - cv - y + 32768) (c := 1) hx hy (by omega) (by omega) hds.out
     have ST := Lib.hid hst
     have HX := Lib.hid hx
     have HY := Lib.hid hy
     clear hst hx hy hds
     go_wp2_with (at_builtin; refine wpList_append_own _ rfl _ _ 29 rfl w.heap.size 3 i0 (.int .i64 0) 1 8 Try.underlying29 hi hz0 hz1 hz2 rfl (by decide) _ _ _ rfl (hown.alloc _) ⟨wr.heap.size, 0, none⟩ 1 1 [.int .i64 (x - cv - y + 32768)] rfl rfl (one_new _ _ _) (one_cell _) (by unfold maxLen; omega) (by omega) (by have := hbl.size; simp; omega) ?_; intro v' w1 hown' hgrow _)
     have hb1 : Below w.heap.size w w1 := (hbl.alloc hbl.size _).grown hgrow (by have := hbl.size; simp; omega) (fun k hk => (hown.lt k hk).1)
     rw [← dg_snoc] at hown'
     clear hown hbl hgrow
     go_wp2
     go_roundw
     case rel => exact ⟨k + 1, 1, _, by omega, by go_num, rfl, by decide, by decide, hown', ST.out, hb1⟩
     case measure => simp [intOf]; omega
    ·have hst := less_step (d := x - cv - y) (c := 0) hx hy (by omega) (by omega) hds.out
     have ST := Lib.hid hst
     have HX := Lib.hid hx
     have HY := Lib.hid hy
     clear hst hx hy hds
     go_wp2_with (at_builtin; refine wpList_append_own _ rfl _ _ 29 rfl w.heap.size 3 i0 (.int .i64 0) 1 8 Try.underlying29 hi hz0 hz1 hz2 rfl (by decide) _ _ _ rfl (hown.alloc _) ⟨wr.heap.size, 0, none⟩ 1 1 [.int .i64 (x - cv - y)] rfl rfl (one_new _ _ _) (one_cell _) (by unfold maxLen; omega) (by omega) (by have := hbl.size; simp; omega) ?_; intro v' w1 hown' hgrow _)
     have hb1 : Below w.heap.size w w1 := (hbl.alloc hbl.size _).grown hgrow (by have := hbl.size; simp; omega) (fun k hk => (hown.lt k hk).1)
     rw [← dg_snoc] at hown'
     clear hown hbl hgrow
     go_wp2
     go_roundw
     case rel => exact ⟨k + 1, 0, _, by omega, by go_num, rfl, by decide, by decide, hown', ST.out, hb1⟩
     case measure => simp [intOf]; omega
   ·have ja : k < xs.length := by rw [← HN.out]; exact h1
    obtain rfl := HA.out.ptr (by omega)
    have e0 : wr.cell? ⟨b, k, none⟩ = some (.int .i64 (xs.getD k 0)) := by rw [hbl.cell (p := ⟨b, k, none⟩) (HA.out.blk (by omega))]; exact HA.out.cell k ja
    clear ja
    obtain ⟨x0, x1⟩ := D.out.1.get k
    obtain ⟨y0, y1⟩ := D.out.2.get k
    obtain ⟨x, hx⟩ : ∃ x, x = xs.getD k 0 := ⟨_, rfl⟩
    obtain ⟨y, hy⟩ : ∃ y, y = ys.getD k 0 := ⟨_, rfl⟩
    rw [← hx] at x0 x1 e0
    rw [← hy] at y0 y1
    have hy0 : y = 0 := hy.trans (getD_out (by rw [← HM.out]; omega))
    subst hy0
    by_cases hneg : x - cv < 0
    ·have hst := less_step (d := x - cv + 32768) (c := 1) hx hy (by omega) (by omega) hds.out
     have ST := Lib.hid hst
     have HX := Lib.hid hx
     have HY := Lib.hid hy
     clear hst hx hy hds
     go_wp2_with (at_builtin; refine wpList_append_own _ rfl _ _ 29 rfl w.heap.size 3 i0 (.int .i64 0) 1 8 Try.underlying29 hi hz0 hz1 hz2 rfl (by decide) _ _ _ rfl (hown.alloc _) ⟨wr.heap.size, 0, none⟩ 1 1 [.int .i64 (x - cv + 32768)] rfl rfl (one_new _ _ _) (one_cell _) (by unfold maxLen; omega) (by omega) (by have := hbl.size; simp; omega) ?_; intro v' w1 hown' hgrow _)
     have hb1 : Below w.heap.size w w1 := (hbl.alloc hbl.size _).grown hgrow (by have := hbl.size; simp; omega) (fun k hk => (hown.lt k hk).1)
     rw [← dg_snoc] at hown'
     clear hown hbl hgrow
     go_wp2
     go_roundw
     case rel => exact ⟨k + 1, 1, _, by omega, by go_num, rfl, by decide, by decide, hown', ST.out, hb1⟩
     case measure => simp [intOf]; omega
    ·have hst := less_step (d := x - cv) (c := 0) hx hy (by omega) (by omega) hds.out
     have ST := Lib.hid hst
     have HX := Lib.hid hx
     have HY := Lib.hid hy
     clear hst hx hy hds
     go_wp2_with (at_builtin; refine wpList_append_own _ rfl _ _ 29 rfl w.heap.size 3 i0 (.int .i64 0) 1 8 Try.underlying29 hi hz0 hz1 hz2 rfl (by decide) _ _ _ rfl (hown.alloc _) ⟨wr.heap.size, 0, none⟩ 1 1 [.int .i64 (x - cv)] rfl rfl (one_new _ _ _) (one_cell _) (by unfold maxLen; omega) (by omega) (by have := hbl.size; simp; omega) ?_; intro v' w1 hown' hgrow _)
     have hb1 : Below w.heap.size w w1 := (hbl.alloc hbl.size _).grown hgrow (by have := hbl.size; simp; omega) (fun k hk => (hown.lt k hk).1)
     rw [← dg_snoc] at hown'
     clear hown hbl hgrow
     go_wp2
     go_roundw
     case rel => exact ⟨k + 1, 0, _, by omega, by go_num, rfl, by decide, by decide, hown', ST.out, hb1⟩
     case measure => simp [intOf]; omega
  ·have ST := Lib.hid hds.out
   clear hds
   go_wp2
   go_ret
   obtain ⟨g1, g2, g3⟩ := ST.out
   obtain ⟨ao2, b2, cap2, hv, hsl⟩ := own_sl hown g2 (by omega)
   have hkN : k = xs.length := by rw [← HN.out]; omega
   rw [List.take_of_length_le (by omega), List.take_of_length_le (by rw [← HM.out]; omega)] at g3
   have hbd := dval_bd g1
   rw [g2] at hbd
   have hge := G.out
   have hc : cv = 0 := by
    rcases (show cv = 0 ∨ cv = 1 by omega) with h | h
    ·exact h
    ·rw [h, Int.mul_one] at g3; omega
   rw [hc, Int.mul_zero, Int.sub_zero] at g3
   exact ⟨⟨ao2, b2, cap2, ds, by rw [← hv]; rfl, hsl, g1, g3, by omega, hbl⟩, fun v g hv hg => by injection hv with hv; subst hv; exact (hown.lt g hg).1⟩
set_option maxRecDepth 100000 in
set_option maxHeartbeats 600000 in
theorem bigAdd_sameF (neg : Bool) (ao bo : Option Addr) (b b' cap cap' : Nat) (xs ys : List Int) (w : World) (ha : Sl w ao b cap xs) (hb : Sl w bo b' cap' ys) (da : DigOk xs) (db : DigOk ys)
    (hl1 : xs.length < 268435456) (hl2 : ys.length < 268435456) :
    Calls Try.prog 56 #[.agg #[.bool neg, .slice ao xs.length cap], .agg #[.bool neg, .slice bo ys.length cap']] w
      (fun e w2 => GivesBig w (bif neg then -(dval xs + dval ys) else dval xs + dval ys) (max xs.length ys.length + 1) e w2 ∧ FrR w.heap.size e) := by
 have HA := Lib.hid ha
 have HB := Lib.hid hb
 have D := Lib.hid (And.intro da db)
 have HL := Lib.hid (And.intro hl1 hl2)
 clear ha hb da db hl1 hl2
 go_enter Try.func56, Try.ntmps56
 go_wp2_with fail
 refine name_world ?_
 intro W hW
 have k0 : Blk W w.heap.size #[.bool neg, .slice ao xs.length cap] 109 := by rw [hW]; exact ((Blk.new _ _ _).alloc _).alloc _
 have k1 : Blk W (w.heap.size + 1) #[.bool neg, .slice bo ys.length cap'] 109 := by rw [hW]; exact (Blk.new1 _ _ _ _).alloc _
 have k2 : Blk W (w.heap.size + 1 + 1) #[.bool false, .slice none 0 0] 109 := by rw [hW]; exact Blk.new2 _ _ _ _ _
 have hb0 : Below w.heap.size w W := by rw [hW]; exact below_a3 _ _ _ _
 clear hW
 have c0 := k0.cell 0
 have c1 := k0.cell 1
 have d0 := k1.cell 0
 have d1 := k1.cell 1
 simp only [List.getElem?_toArray, List.getElem?_cons_zero, List.getElem?_cons_succ] at c0 c1 d0 d1
 have l0 := k0.lt
 have l1 := k1.lt
 have K2 := Lib.hid k2
 clear k0 k1 k2
 refine wp_region_up W.heap.size 7 [(true, 0), (true, 1), (true, 2), (true, 3), (true, 4), (true, 5), (false, 6)] (by kernel_rfl) (by kernel_rfl) (fun _ _ d _ _ h => by cases d <;> exact h) ?_
 have hb : Below W.heap.size W W.drew := (Below.refl _ _).drew
 have hsz0 : w.heap.size ≤ W.drew.heap.size := hb0.size
 iterate 6
  refine wpS_takeL rfl rfl ?_
  go_big_quiet_step (rfl)
  refine wpQuiet_nil ?_
 refine wpS_doL rfl ?_
 intro K hK
 go_wp2_with ((go_at_call 81; refine (more_F ao bo b b' cap cap' xs ys _ (HA.out.of (hb0.trans (hb.mono hb0.size))) (HB.out.of (hb0.trans (hb.mono hb0.size))) (by have := HL.out; omega) (by have := HL.out; omega) D.out.1 D.out.2).mono ?_; rintro e w2 ⟨⟨ao2, b2, cap2, ds2, rfl, hsl2, hdg2, hv2, hl2, hn⟩, hfs⟩; have HFS := Lib.hid hfs; clear hfs; have SL := Lib.hid hsl2; have DG := Lib.hid hdg2; have HV := Lib.hid hv2; have HL2 := Lib.hid hl2; clear hsl2 hdg2 hv2 hl2))
 replace hb := hb.trans (hn.mono hb.size)
 refine hK.out _ _ (up_iff.2 hb) ?_
 clear hK K
 clear hn
 refine wpS_nil ?_
 simp only [List.drop_succ_cons, List.drop_zero]
 have hb1 : Below w.heap.size w w2 := hb0.trans (hb.mono hb0.size)
 have k2 : Blk w2 (w.heap.size + 1 + 1) #[.bool false, .slice none 0 0] 109 := K2.out.of hb
 clear c0 c1 d0 d1 l0 l1 K2 hb hb0
 go_wp2_with fail
 refine (trim_F neg ao2 b2 cap2 ds2 _ SL.out DG.out (max xs.length ys.length + 1) (by rw [HL2.out]; exact Nat.le_refl _)).mono ?_
 rintro e w3 ⟨⟨v3, rfl, hbig, hn⟩, hft⟩
 rw [HV.out] at hbig
 have HBG := Lib.hid hbig
 have hvv := hbig.shape
 clear hbig
 obtain ⟨n3, a3, q3, c3, rfl⟩ := hvv
 have HFT := Lib.hid hft
 clear hft
 replace k2 : Blk w3 _ _ _ := k2.of hn
 have d0 := k2.cell 0
 have d1 := k2.cell 1
 have f0 := k2.free 0
 have f1 := k2.free 1
 simp only [List.getElem?_toArray, List.getElem?_cons_zero, List.getElem?_cons_succ] at d0 d1
 have hb2 := hb1.trans (hn.mono hb1.size)
 clear hn k2 hb1
 go_wp2
 simp [bodyPost, results, Try.results56, go_sem, d0, d1]
 refine ⟨⟨_, rfl, ?_, set2_below hb2 ?_ _ _⟩, FrR.of2 HFT.out HFS.out HBG.out hsz0⟩
 ·have := HBG.out.set2 d0 (.bool n3) (.slice a3 q3 c3)
  exact this
 ·omega
set_option maxRecDepth 100000 in
set_option maxHeartbeats 600000 in
theorem bigAdd_geF (neg : Bool) (ao bo : Option Addr) (b b' cap cap' : Nat) (xs ys : List Int) (w : World) (ha : Sl w ao b cap xs) (hb : Sl w bo b' cap' ys) (da : DigOk xs) (db : DigOk ys) (na : Norm xs) (nb : Norm ys) (hcmp : dval ys ≤ dval xs)
    (hl1 : xs.length < 268435456) (hl2 : ys.length < 268435456) :
    Calls Try.prog 56 #[.agg #[.bool neg, .slice ao xs.length cap], .agg #[.bool (!neg), .slice bo ys.length cap']] w
      (fun e w2 => GivesBig w (bif neg then -(dval xs - dval ys) else dval xs - dval ys) xs.length e w2 ∧ FrR w.heap.size e) := by
 have HC := Lib.hid hcmp
 have NN := Lib.hid (And.intro na nb)
 have HA := Lib.hid ha
 have HB := Lib.hid hb
 have D := Lib.hid (And.intro da db)
 have HL := Lib.hid (And.intro hl1 hl2)
 have hle : ys.length ≤ xs.length := by
  rcases Nat.lt_or_ge xs.length ys.length with h | h
  ·have := len_lt da db nb h; omega
  ·exact h
 have HLE := Lib.hid hle
 clear hle
 clear ha hb da db hl1 hl2 hcmp na nb
 go_enter Try.func56, Try.ntmps56
 cases neg
 ·go_wp2_with fail
  refine calls_w ?_
  intro W hW
  have k0 : Blk W w.heap.size #[.bool false, .slice ao xs.length cap] 109 := by rw [hW]; exact ((Blk.new _ _ _).alloc _).alloc _
  have k1 : Blk W (w.heap.size + 1) #[.bool true, .slice bo ys.length cap'] 109 := by rw [hW]; exact (Blk.new1 _ _ _ _).alloc _
  have k2 : Blk W (w.heap.size + 1 + 1) #[.bool false, .slice none 0 0] 109 := by rw [hW]; exact Blk.new2 _ _ _ _ _
  have hb0 : Below w.heap.size w W := by rw [hW]; exact below_a3 _ _ _ _
  clear hW
  refine (sizes_any ao bo b b' cap cap' xs ys _ (HA.out.of hb0) (HB.out.of hb0) D.out.1 D.out.2 NN.out.1 NN.out.2).mono ?_
  rintro e w1 ⟨rfl, hn⟩
  replace k0 : Blk w1 _ _ _ := k0.of hn
  replace k1 : Blk w1 _ _ _ := k1.of hn
  replace k2 : Blk w1 _ _ _ := k2.of hn
  replace hb0 := hb0.trans (hn.mono hb0.size)
  clear hn
  have c0 := k0.cell 0
  have c1 := k0.cell 1
  have d0 := k1.cell 0
  have d1 := k1.cell 1
  simp only [List.getElem?_toArray, List.getElem?_cons_zero, List.getElem?_cons_succ] at c0 c1 d0 d1
  have l0 := k0.lt
  have l1 := k1.lt
  have K2 := Lib.hid k2
  clear k0 k1 k2
  have hsg : decide (0 ≤ cmpI (dval xs) (dval ys)) = true := by
   have := HC.out
   rcases Int.lt_or_eq_of_le this with h | h
   ·rw [cmpI_gt h]; rfl
   ·rw [h, cmpI_eq]; rfl
  go_wp2_with fail
  refine name_world ?_
  intro W hW
  subst hW
  refine wp_region_up W.heap.size 7 [(true, 0), (true, 1), (true, 2), (true, 3), (true, 4), (true, 5), (false, 6)] (by kernel_rfl) (by kernel_rfl) (fun _ _ d _ _ h => by cases d <;> exact h) ?_
  have hb : Below W.heap.size W W.drew := (Below.refl _ _).drew
  have hsz0 : w.heap.size ≤ W.drew.heap.size := hb0.size
  iterate 6
   refine wpS_takeL rfl rfl ?_
   go_big_quiet_step (rfl)
   refine wpQuiet_nil ?_
  refine wpS_doL rfl ?_
  intro K hK
  go_wp2_with ((go_at_call 83; refine (less_F ao bo b b' cap cap' xs ys _ (HA.out.of (hb0.trans (hb.mono hb0.size))) (HB.out.of (hb0.trans (hb.mono hb0.size))) (by have := HL.out; omega) D.out.1 D.out.2 HLE.out HC.out).mono ?_; rintro e w2 ⟨⟨ao2, b2, cap2, ds2, rfl, hsl2, hdg2, hv2, hl2, hn⟩, hfs⟩; have HFS := Lib.hid hfs; clear hfs; have SL := Lib.hid hsl2; have DG := Lib.hid hdg2; have HV := Lib.hid hv2; have HL2 := Lib.hid hl2; clear hsl2 hdg2 hv2 hl2))
  replace hb := hb.trans (hn.mono hb.size)
  refine hK.out _ _ (up_iff.2 hb) ?_
  clear hK K
  clear hn
  refine wpS_nil ?_
  simp only [List.drop_succ_cons, List.drop_zero]
  have hb1 : Below w.heap.size w w2 := hb0.trans (hb.mono hb0.size)
  have k2 : Blk w2 (w.heap.size + 1 + 1) #[.bool false, .slice none 0 0] 109 := K2.out.of hb
  clear c0 c1 d0 d1 l0 l1 K2 hb hb0
  go_wp2_with fail
  refine (trim_F _ ao2 b2 cap2 ds2 _ SL.out DG.out xs.length (by rw [HL2.out]; exact Nat.le_refl _)).mono ?_
  rintro e w3 ⟨⟨v3, rfl, hbig, hn⟩, hft⟩
  rw [HV.out] at hbig
  have HBG := Lib.hid hbig
  have hvv := hbig.shape
  clear hbig
  obtain ⟨n3, a3, q3, c3, rfl⟩ := hvv
  have HFT := Lib.hid hft
  clear hft
  replace k2 : Blk w3 _ _ _ := k2.of hn
  have d0 := k2.cell 0
  have d1 := k2.cell 1
  have f0 := k2.free 0
  have f1 := k2.free 1
  simp only [List.getElem?_toArray, List.getElem?_cons_zero, List.getElem?_cons_succ] at d0 d1
  have hb2 := hb1.trans (hn.mono hb1.size)
  clear hn k2 hb1
  go_wp2
  simp [bodyPost, results, Try.results56, go_sem, d0, d1]
  refine ⟨⟨_, rfl, ?_, set2_below hb2 ?_ _ _⟩, FrR.of2 HFT.out HFS.out HBG.out hsz0⟩
  ·have := HBG.out.set2 d0 (.bool n3) (.slice a3 q3 c3)
   exact this
  ·omega
 ·go_wp2_with fail
  refine calls_w ?_
  intro W hW
  have k0 : Blk W w.heap.size #[.bool true, .slice ao xs.length cap] 109 := by rw [hW]; exact ((Blk.new _ _ _).alloc _).alloc _
  have k1 : Blk W (w.heap.size + 1) #[.bool false, .slice bo ys.length cap'] 109 := by rw [hW]; exact (Blk.new1 _ _ _ _).alloc _
  have k2 : Blk W (w.heap.size + 1 + 1) #[.bool false, .slice none 0 0] 109 := by rw [hW]; exact Blk.new2 _ _ _ _ _
  have hb0 : Below w.heap.size w W := by rw [hW]; exact below_a3 _ _ _ _
  clear hW
  refine (sizes_any ao bo b b' cap cap' xs ys _ (HA.out.of hb0) (HB.out.of hb0) D.out.1 D.out.2 NN.out.1 NN.out.2).mono ?_
  rintro e w1 ⟨rfl, hn⟩
  replace k0 : Blk w1 _ _ _ := k0.of hn
  replace k1 : Blk w1 _ _ _ := k1.of hn
  replace k2 : Blk w1 _ _ _ := k2.of hn
  replace hb0 := hb0.trans (hn.mono hb0.size)
  clear hn
  have c0 := k0.cell 0
  have c1 := k0.cell 1
  have d0 := k1.cell 0
  have d1 := k1.cell 1
  simp only [List.getElem?_toArray, List.getElem?_cons_zero, List.getElem?_cons_succ] at c0 c1 d0 d1
  have l0 := k0.lt
  have l1 := k1.lt
  have K2 := Lib.hid k2
  clear k0 k1 k2
  have hsg : decide (0 ≤ cmpI (dval xs) (dval ys)) = true := by
   have := HC.out
   rcases Int.lt_or_eq_of_le this with h | h
   ·rw [cmpI_gt h]; rfl
   ·rw [h, cmpI_eq]; rfl
  go_wp2_with fail
  refine name_world ?_
  intro W hW
  subst hW
  refine wp_region_up W.heap.size 7 [(true, 0), (true, 1), (true, 2), (true, 3), (true, 4), (true, 5), (false, 6)] (by kernel_rfl) (by kernel_rfl) (fun _ _ d _ _ h => by cases d <;> exact h) ?_
  have hb : Below W.heap.size W W.drew := (Below.refl _ _).drew
  have hsz0 : w.heap.size ≤ W.drew.heap.size := hb0.size
  iterate 6
   refine wpS_takeL rfl rfl ?_
   go_big_quiet_step (rfl)
   refine wpQuiet_nil ?_
  refine wpS_doL rfl ?_
  intro K hK
  go_wp2_with ((go_at_call 83; refine (less_F ao bo b b' cap cap' xs ys _ (HA.out.of (hb0.trans (hb.mono hb0.size))) (HB.out.of (hb0.trans (hb.mono hb0.size))) (by have := HL.out; omega) D.out.1 D.out.2 HLE.out HC.out).mono ?_; rintro e w2 ⟨⟨ao2, b2, cap2, ds2, rfl, hsl2, hdg2, hv2, hl2, hn⟩, hfs⟩; have HFS := Lib.hid hfs; clear hfs; have SL := Lib.hid hsl2; have DG := Lib.hid hdg2; have HV := Lib.hid hv2; have HL2 := Lib.hid hl2; clear hsl2 hdg2 hv2 hl2))
  replace hb := hb.trans (hn.mono hb.size)
  refine hK.out _ _ (up_iff.2 hb) ?_
  clear hK K
  clear hn
  refine wpS_nil ?_
  simp only [List.drop_succ_cons, List.drop_zero]
  have hb1 : Below w.heap.size w w2 := hb0.trans (hb.mono hb0.size)
  have k2 : Blk w2 (w.heap.size + 1 + 1) #[.bool false, .slice none 0 0] 109 := K2.out.of hb
  clear c0 c1 d0 d1 l0 l1 K2 hb hb0
  go_wp2_with fail
  refine (trim_F _ ao2 b2 cap2 ds2 _ SL.out DG.out xs.length (by rw [HL2.out]; exact Nat.le_refl _)).mono ?_
  rintro e w3 ⟨⟨v3, rfl, hbig, hn⟩, hft⟩
  rw [HV.out] at hbig
  have HBG := Lib.hid hbig
  have hvv := hbig.shape
  clear hbig
  obtain ⟨n3, a3, q3, c3, rfl⟩ := hvv
  have HFT := Lib.hid hft
  clear hft
  replace k2 : Blk w3 _ _ _ := k2.of hn
  have d0 := k2.cell 0
  have d1 := k2.cell 1
  have f0 := k2.free 0
  have f1 := k2.free 1
  simp only [List.getElem?_toArray, List.getElem?_cons_zero, List.getElem?_cons_succ] at d0 d1
  have hb2 := hb1.trans (hn.mono hb1.size)
  clear hn k2 hb1
  go_wp2
  simp [bodyPost, results, Try.results56, go_sem, d0, d1]
  refine ⟨⟨_, rfl, ?_, set2_below hb2 ?_ _ _⟩, FrR.of2 HFT.out HFS.out HBG.out hsz0⟩
  ·have := HBG.out.set2 d0 (.bool n3) (.slice a3 q3 c3)
   exact this
  ·omega
set_option maxRecDepth 100000 in
set_option maxHeartbeats 600000 in
theorem bigAdd_ltF (neg : Bool) (ao bo : Option Addr) (b b' cap cap' : Nat) (xs ys : List Int) (w : World) (ha : Sl w ao b cap xs) (hb : Sl w bo b' cap' ys) (da : DigOk xs) (db : DigOk ys) (na : Norm xs) (nb : Norm ys) (hcmp : dval xs < dval ys)
    (hl1 : xs.length < 268435456) (hl2 : ys.length < 268435456) :
    Calls Try.prog 56 #[.agg #[.bool neg, .slice ao xs.length cap], .agg #[.bool (!neg), .slice bo ys.length cap']] w
      (fun e w2 => GivesBig w (bif !neg then -(dval ys - dval xs) else dval ys - dval xs) ys.length e w2 ∧ FrR w.heap.size e) := by
 have HC := Lib.hid hcmp
 have NN := Lib.hid (And.intro na nb)
 have HA := Lib.hid ha
 have HB := Lib.hid hb
 have D := Lib.hid (And.intro da db)
 have HL := Lib.hid (And.intro hl1 hl2)
 have hle : xs.length ≤ ys.length := by
  rcases Nat.lt_or_ge ys.length xs.length with h | h
  ·have := len_lt db da na h; omega
  ·exact h
 have HLE := Lib.hid hle
 clear hle
 clear ha hb da db hl1 hl2 hcmp na nb
 go_enter Try.func56, Try.ntmps56
 cases neg
 ·go_wp2_with fail
  refine calls_w ?_
  intro W hW
  have k0 : Blk W w.heap.size #[.bool false, .slice ao xs.length cap] 109 := by rw [hW]; exact ((Blk.new _ _ _).alloc _).alloc _
  have k1 : Blk W (w.heap.size + 1) #[.bool true, .slice bo ys.length cap'] 109 := by rw [hW]; exact (Blk.new1 _ _ _ _).alloc _
  have k2 : Blk W (w.heap.size + 1 + 1) #[.bool false, .slice none 0 0] 109 := by rw [hW]; exact Blk.new2 _ _ _ _ _
  have hb0 : Below w.heap.size w W := by rw [hW]; exact below_a3 _ _ _ _
  clear hW
  refine (sizes_any ao bo b b' cap cap' xs ys _ (HA.out.of hb0) (HB.out.of hb0) D.out.1 D.out.2 NN.out.1 NN.out.2).mono ?_
  rintro e w1 ⟨rfl, hn⟩
  replace k0 : Blk w1 _ _ _ := k0.of hn
  replace k1 : Blk w1 _ _ _ := k1.of hn
  replace k2 : Blk w1 _ _ _ := k2.of hn
  replace hb0 := hb0.trans (hn.mono hb0.size)
  clear hn
  have c0 := k0.cell 0
  have c1 := k0.cell 1
  have d0 := k1.cell 0
  have d1 := k1.cell 1
  simp only [List.getElem?_toArray, List.getElem?_cons_zero, List.getElem?_cons_succ] at c0 c1 d0 d1
  have l0 := k0.lt
  have l1 := k1.lt
  have K2 := Lib.hid k2
  clear k0 k1 k2
  have hsg : decide (0 ≤ cmpI (dval xs) (dval ys)) = false := by
   have := HC.out
   rw [cmpI_lt this]; rfl
  go_wp2_with fail
  refine name_world ?_
  intro W hW
  subst hW
  refine wp_region_up W.heap.size 7 [(true, 0), (true, 1), (true, 2), (true, 3), (true, 4), (true, 5), (false, 6)] (by kernel_rfl) (by kernel_rfl) (fun _ _ d _ _ h => by cases d <;> exact h) ?_
  have hb : Below W.heap.size W W.drew := (Below.refl _ _).drew
  have hsz0 : w.heap.size ≤ W.drew.heap.size := hb0.size
  iterate 6
   refine wpS_takeL rfl rfl ?_
   go_big_quiet_step (rfl)
   refine wpQuiet_nil ?_
  refine wpS_doL rfl ?_
  intro K hK
  go_wp2_with ((go_at_call 83; refine (less_F bo ao b' b cap' cap ys xs _ (HB.out.of (hb0.trans (hb.mono hb0.size))) (HA.out.of (hb0.trans (hb.mono hb0.size))) (by have := HL.out; omega) D.out.2 D.out.1 HLE.out (Int.le_of_lt HC.out)).mono ?_; rintro e w2 ⟨⟨ao2, b2, cap2, ds2, rfl, hsl2, hdg2, hv2, hl2, hn⟩, hfs⟩; have HFS := Lib.hid hfs; clear hfs; have SL := Lib.hid hsl2; have DG := Lib.hid hdg2; have HV := Lib.hid hv2; have HL2 := Lib.hid hl2; clear hsl2 hdg2 hv2 hl2))
  replace hb := hb.trans (hn.mono hb.size)
  refine hK.out _ _ (up_iff.2 hb) ?_
  clear hK K
  clear hn
  refine wpS_nil ?_
  simp only [List.drop_succ_cons, List.drop_zero]
  have hb1 : Below w.heap.size w w2 := hb0.trans (hb.mono hb0.size)
  have k2 : Blk w2 (w.heap.size + 1 + 1) #[.bool false, .slice none 0 0] 109 := K2.out.of hb
  clear c0 c1 d0 d1 l0 l1 K2 hb hb0
  go_wp2_with fail
  refine (trim_F _ ao2 b2 cap2 ds2 _ SL.out DG.out ys.length (by rw [HL2.out]; exact Nat.le_refl _)).mono ?_
  rintro e w3 ⟨⟨v3, rfl, hbig, hn⟩, hft⟩
  rw [HV.out] at hbig
  have HBG := Lib.hid hbig
  have hvv := hbig.shape
  clear hbig
  obtain ⟨n3, a3, q3, c3, rfl⟩ := hvv
  have HFT := Lib.hid hft
  clear hft
  replace k2 : Blk w3 _ _ _ := k2.of hn
  have d0 := k2.cell 0
  have d1 := k2.cell 1
  have f0 := k2.free 0
  have f1 := k2.free 1
  simp only [List.getElem?_toArray, List.getElem?_cons_zero, List.getElem?_cons_succ] at d0 d1
  have hb2 := hb1.trans (hn.mono hb1.size)
  clear hn k2 hb1
  go_wp2
  simp [bodyPost, results, Try.results56, go_sem, d0, d1]
  refine ⟨⟨_, rfl, ?_, set2_below hb2 ?_ _ _⟩, FrR.of2 HFT.out HFS.out HBG.out hsz0⟩
  ·have := HBG.out.set2 d0 (.bool n3) (.slice a3 q3 c3)
   exact this
  ·omega
 ·go_wp2_with fail
  refine calls_w ?_
  intro W hW
  have k0 : Blk W w.heap.size #[.bool true, .slice ao xs.length cap] 109 := by rw [hW]; exact ((Blk.new _ _ _).alloc _).alloc _
  have k1 : Blk W (w.heap.size + 1) #[.bool false, .slice bo ys.length cap'] 109 := by rw [hW]; exact (Blk.new1 _ _ _ _).alloc _
  have k2 : Blk W (w.heap.size + 1 + 1) #[.bool false, .slice none 0 0] 109 := by rw [hW]; exact Blk.new2 _ _ _ _ _
  have hb0 : Below w.heap.size w W := by rw [hW]; exact below_a3 _ _ _ _
  clear hW
  refine (sizes_any ao bo b b' cap cap' xs ys _ (HA.out.of hb0) (HB.out.of hb0) D.out.1 D.out.2 NN.out.1 NN.out.2).mono ?_
  rintro e w1 ⟨rfl, hn⟩
  replace k0 : Blk w1 _ _ _ := k0.of hn
  replace k1 : Blk w1 _ _ _ := k1.of hn
  replace k2 : Blk w1 _ _ _ := k2.of hn
  replace hb0 := hb0.trans (hn.mono hb0.size)
  clear hn
  have c0 := k0.cell 0
  have c1 := k0.cell 1
  have d0 := k1.cell 0
  have d1 := k1.cell 1
  simp only [List.getElem?_toArray, List.getElem?_cons_zero, List.getElem?_cons_succ] at c0 c1 d0 d1
  have l0 := k0.lt
  have l1 := k1.lt
  have K2 := Lib.hid k2
  clear k0 k1 k2
  have hsg : decide (0 ≤ cmpI (dval xs) (dval ys)) = false := by
   have := HC.out
   rw [cmpI_lt this]; rfl
  go_wp2_with fail
  refine name_world ?_
  intro W hW
  subst hW
  refine wp_region_up W.heap.size 7 [(true, 0), (true, 1), (true, 2), (true, 3), (true, 4), (true, 5), (false, 6)] (by kernel_rfl) (by kernel_rfl) (fun _ _ d _ _ h => by cases d <;> exact h) ?_
  have hb : Below W.heap.size W W.drew := (Below.refl _ _).drew
  have hsz0 : w.heap.size ≤ W.drew.heap.size := hb0.size
  iterate 6
   refine wpS_takeL rfl rfl ?_
   go_big_quiet_step (rfl)
   refine wpQuiet_nil ?_
  refine wpS_doL rfl ?_
  intro K hK
  go_wp2_with ((go_at_call 83; refine (less_F bo ao b' b cap' cap ys xs _ (HB.out.of (hb0.trans (hb.mono hb0.size))) (HA.out.of (hb0.trans (hb.mono hb0.size))) (by have := HL.out; omega) D.out.2 D.out.1 HLE.out (Int.le_of_lt HC.out)).mono ?_; rintro e w2 ⟨⟨ao2, b2, cap2, ds2, rfl, hsl2, hdg2, hv2, hl2, hn⟩, hfs⟩; have HFS := Lib.hid hfs; clear hfs; have SL := Lib.hid hsl2; have DG := Lib.hid hdg2; have HV := Lib.hid hv2; have HL2 := Lib.hid hl2; clear hsl2 hdg2 hv2 hl2))
  replace hb := hb.trans (hn.mono hb.size)
  refine hK.out _ _ (up_iff.2 hb) ?_
  clear hK K
  clear hn
  refine wpS_nil ?_
  simp only [List.drop_succ_cons, List.drop_zero]
  have hb1 : Below w.heap.size w w2 := hb0.trans (hb.mono hb0.size)
  have k2 : Blk w2 (w.heap.size + 1 + 1) #[.bool false, .slice none 0 0] 109 := K2.out.of hb
  clear c0 c1 d0 d1 l0 l1 K2 hb hb0
  go_wp2_with fail
  refine (trim_F _ ao2 b2 cap2 ds2 _ SL.out DG.out ys.length (by rw [HL2.out]; exact Nat.le_refl _)).mono ?_
  rintro e w3 ⟨⟨v3, rfl, hbig, hn⟩, hft⟩
  rw [HV.out] at hbig
  have HBG := Lib.hid hbig
  have hvv := hbig.shape
  clear hbig
  obtain ⟨n3, a3, q3, c3, rfl⟩ := hvv
  have HFT := Lib.hid hft
  clear hft
  replace k2 : Blk w3 _ _ _ := k2.of hn
  have d0 := k2.cell 0
  have d1 := k2.cell 1
  have f0 := k2.free 0
  have f1 := k2.free 1
  simp only [List.getElem?_toArray, List.getElem?_cons_zero, List.getElem?_cons_succ] at d0 d1
  have hb2 := hb1.trans (hn.mono hb1.size)
  clear hn k2 hb1
  go_wp2
  simp [bodyPost, results, Try.results56, go_sem, d0, d1]
  refine ⟨⟨_, rfl, ?_, set2_below hb2 ?_ _ _⟩, FrR.of2 HFT.out HFS.out HBG.out hsz0⟩
  ·have := HBG.out.set2 d0 (.bool n3) (.slice a3 q3 c3)
   exact this
  ·omega
theorem bigAdd_F (v v' : Value) (n m : Int) (L : Nat) (w : World) (h : Big w v n L) (h' : Big w v' m L) (hL : L < 268435456) :
    Calls Try.prog 56 #[v, v'] w (fun e w2 => GivesBig w (n + m) (L + 1) e w2 ∧ FrR w.heap.size e) := by
  obtain ⟨neg, ao, b, cap, ds, rfl, hs, hd, hn, hz, hv, hl⟩ := h
  obtain ⟨neg', ao', b', cap', ds', rfl, hs', hd', hn', hz', hv', hl'⟩ := h'
  by_cases hq : neg' = neg
  · subst hq
    refine (bigAdd_sameF neg' ao ao' b b' cap cap' ds ds' w hs hs' hd hd' (by omega) (by omega)).mono ?_
    intro e w2 hg
    have hx : n + m = (bif neg' then -(dval ds + dval ds') else dval ds + dval ds') := by
      rw [hv, hv']; cases neg' <;> simp <;> omega
    rw [hx]
    exact ⟨hg.1.mono (by omega), hg.2⟩
  · have hq' : neg' = !neg := by cases neg <;> cases neg' <;> simp_all
    subst hq'
    by_cases hc : dval ds' ≤ dval ds
    · refine (bigAdd_geF neg ao ao' b b' cap cap' ds ds' w hs hs' hd hd' hn hn' hc (by omega) (by omega)).mono ?_
      intro e w2 hg
      have hx : n + m = (bif neg then -(dval ds - dval ds') else dval ds - dval ds') := by
        rw [hv, hv']; cases neg <;> simp <;> omega
      rw [hx]
      exact ⟨hg.1.mono (by omega), hg.2⟩
    · refine (bigAdd_ltF neg ao ao' b b' cap cap' ds ds' w hs hs' hd hd' hn hn' (by omega) (by omega) (by omega)).mono ?_
      intro e w2 hg
      have hx : n + m = (bif !neg then -(dval ds' - dval ds) else dval ds' - dval ds) := by
        rw [hv, hv']; cases neg <;> simp <;> omega
      rw [hx]
      exact ⟨hg.1.mono (by omega), hg.2⟩
end Go.Proofs.Ytdlpfiiakmhnlaa

namespace Go.Proofs.Ytdlpfiiakmhnlaa
open Go.RowKit

/-- is a triangle ahead of another? -/
def ahd3 (a b c d e f : Int) : Bool := if a ≠ d then decide (a < d) else if b ≠ e then decide (b < e) else if c ≠ f then decide (c < f) else false
set_option maxRecDepth 100000 in
set_option maxHeartbeats 1000000 in
theorem ahead_is (a b c d e f : Int) (w : World) : Calls Try.prog 61 #[tI a b c, tI d e f] w fun r w' => r = .returned (.bool (ahd3 a b c d e f)) ∧ Below w.heap.size w w' := by
 go_enter Try.func61, Try.ntmps61
 go_wp2_with fail
 refine name_world ?_
 intro V hV
 have hb : Below w.heap.size w V := by rw [hV]; exact below_a2 _ _ _
 have ka : Hid (Blk V w.heap.size #[.int .i64 a, .int .i64 b, .int .i64 c] 35) := by rw [hV]; exact Lib.hid ((Blk.new w _ _).of (below_a1 _ _))
 have kb : Hid (Blk V (w.heap.size + 1) #[.int .i64 d, .int .i64 e, .int .i64 f] 35) := by rw [hV]; have h := Blk.new (w.alloc (.cells #[.int .i64 a, .int .i64 b, .int .i64 c] 35)) #[.int .i64 d, .int .i64 e, .int .i64 f] 35; exact Lib.hid (by simpa using h)
 obtain ⟨pa, epa⟩ : ∃ b, w.heap.size = b := ⟨_, rfl⟩
 obtain ⟨pb, epb⟩ : ∃ b, w.heap.size + 1 = b := ⟨_, rfl⟩
 rw [epa] at ka
 rw [epb] at kb
 rw [epb, epa]
 have HB := Lib.hid hb
 clear hV hb epa epb
 go_loopg [6] 3 (fun gk s6 wr => ∃ k : Nat, s6 = .int .i64 (k : Nat) ∧ k ≤ 3 ∧ 3 - k ≤ gk ∧ Hid (Below w.heap.size w wr) ∧ Hid (Below V.heap.size V wr) ∧ Hid ((0 < k → a = d) ∧ (1 < k → b = e) ∧ (2 < k → c = f)))
 case atStart => exact ⟨0, rfl, by omega, by omega, HB, Lib.hid (Below.refl _ _), Lib.hid ⟨fun h => by omega, fun h => by omega, fun h => by omega⟩⟩
 case round =>
  clear HB
  obtain ⟨k, rfl, hk, hgk, HW, HV, HQ⟩ := hrel
  have k1 := ka.out.of HV.out
  have k2 := kb.out.of HV.out
  have l1 := k1.lt
  have l2 := k2.lt
  have a0 := k1.cell 0
  have a1 := k1.cell 1
  have a2 := k1.cell 2
  have b0 := k2.cell 0
  have b1 := k2.cell 1
  have b2 := k2.cell 2
  simp only [List.getElem?_toArray, List.getElem?_cons_zero, List.getElem?_cons_succ] at a0 a1 a2 b0 b1 b2
  clear k1 k2
  rcases (show k = 0 ∨ k = 1 ∨ k = 2 ∨ k = 3 by omega) with rfl | rfl | rfl | rfl
  ·by_cases hxy : a = d
   ·have HQ2 : Hid ((0 < 1 → a = d) ∧ (1 < 1 → b = e) ∧ (2 < 1 → c = f)) := by
     have h := HQ.out
     exact Lib.hid ⟨fun _ => by first | exact hxy | exact h.1 (by omega), fun _ => by first | exact hxy | exact h.2.1 (by omega) | omega, fun _ => by first | exact hxy | exact h.2.2 (by omega) | omega⟩
    clear HQ
    go_wp2_with fail
    refine wp_region_up wr.heap.size 6 [(true, 0), (true, 1), (true, 2), (true, 3), (true, 4), (true, 5)] (by kernel_rfl) (by kernel_rfl) (fun _ _ d _ _ h => by cases d <;> exact h) ?_
    have hb : Below wr.heap.size wr wr.drew := (Below.refl _ _).drew
    iterate 6
     refine wpS_takeL rfl rfl ?_
     go_big_quiet_step (rfl)
     refine wpQuiet_nil ?_
    refine wpS_nil ?_
    simp only [List.drop_succ_cons, List.drop_zero]
    have hA := Lib.hid (HW.out.drew)
    have hB := Lib.hid (HV.out.drew)
    go_wp2_with fail
    go_roundg (3 - 1)
    case measure => omega
    case rel => exact ⟨1, by norm_cast, by omega, by omega, hA, hB, HQ2⟩
   ·have hv : ahd3 a b c d e f = decide (a < d) := by
     have h := HQ.out
     unfold ahd3
     rw [if_pos hxy]
    have HVV := Lib.hid hv
    clear hv HQ
    go_wp2_with fail
    refine wp_region_up wr.heap.size 6 [(true, 0), (true, 1), (true, 2), (true, 3), (true, 4), (true, 5)] (by kernel_rfl) (by kernel_rfl) (fun _ _ d _ _ h => by cases d <;> exact h) ?_
    have hb : Below wr.heap.size wr wr.drew := (Below.refl _ _).drew
    iterate 6
     refine wpS_takeL rfl rfl ?_
     go_big_quiet_step (rfl)
     refine wpQuiet_nil ?_
    refine wpS_nil ?_
    simp only [List.drop_succ_cons, List.drop_zero]
    obtain ⟨W2, hW2⟩ : ∃ W, wr.drew = W := ⟨_, rfl⟩
    have g1 : Below wr.heap.size wr W2 := by rw [← hW2]; exact (Below.refl _ _).drew
    have HW2 := Lib.hid (show Below w.heap.size w W2 by rw [← hW2]; exact HW.out.drew)
    have m1 := Nat.lt_of_lt_of_le l1 g1.size
    have m2 := Nat.lt_of_lt_of_le l2 g1.size
    have e0 := (g1.cell (p := ⟨pa, 0, none⟩) l1).trans a0
    have e1 := (g1.cell (p := ⟨pa, 1, none⟩) l1).trans a1
    have e2 := (g1.cell (p := ⟨pa, 2, none⟩) l1).trans a2
    have f0 := (g1.cell (p := ⟨pb, 0, none⟩) l2).trans b0
    have f1 := (g1.cell (p := ⟨pb, 1, none⟩) l2).trans b1
    have f2 := (g1.cell (p := ⟨pb, 2, none⟩) l2).trans b2
    rw [hW2]
    clear a0 a1 a2 b0 b1 b2 l1 l2 hW2 g1 HW HV ka kb
    go_wp2_with fail
    refine wp_region_up W2.heap.size 6 [(true, 0), (true, 1), (true, 2), (true, 3), (true, 4), (true, 5)] (by kernel_rfl) (by kernel_rfl) (fun _ _ d _ _ h => by cases d <;> exact h) ?_
    have hb : Below W2.heap.size W2 W2.drew := (Below.refl _ _).drew
    iterate 6
     refine wpS_takeL rfl rfl ?_
     go_big_quiet_step (rfl)
     refine wpQuiet_nil ?_
    refine wpS_nil ?_
    simp only [List.drop_succ_cons, List.drop_zero]
    have hA := HW2.out.drew
    go_wp2_with fail
    go_ret
    exact ⟨by rw [HVV.out]; rfl, hA⟩
  ·by_cases hxy : b = e
   ·have HQ2 : Hid ((0 < 2 → a = d) ∧ (1 < 2 → b = e) ∧ (2 < 2 → c = f)) := by
     have h := HQ.out
     exact Lib.hid ⟨fun _ => by first | exact hxy | exact h.1 (by omega), fun _ => by first | exact hxy | exact h.2.1 (by omega) | omega, fun _ => by first | exact hxy | exact h.2.2 (by omega) | omega⟩
    clear HQ
    go_wp2_with fail
    refine wp_region_up wr.heap.size 6 [(true, 0), (true, 1), (true, 2), (true, 3), (true, 4), (true, 5)] (by kernel_rfl) (by kernel_rfl) (fun _ _ d _ _ h => by cases d <;> exact h) ?_
    have hb : Below wr.heap.size wr wr.drew := (Below.refl _ _).drew
    iterate 6
     refine wpS_takeL rfl rfl ?_
     go_big_quiet_step (rfl)
     refine wpQuiet_nil ?_
    refine wpS_nil ?_
    simp only [List.drop_succ_cons, List.drop_zero]
    have hA := Lib.hid (HW.out.drew)
    have hB := Lib.hid (HV.out.drew)
    go_wp2_with fail
    go_roundg (3 - 2)
    case measure => omega
    case rel => exact ⟨2, by norm_cast, by omega, by omega, hA, hB, HQ2⟩
   ·have hv : ahd3 a b c d e f = decide (b < e) := by
     have h := HQ.out
     unfold ahd3
     rw [if_neg (fun h2 => h2 (h.1 (by omega))), if_pos hxy]
    have HVV := Lib.hid hv
    clear hv HQ
    go_wp2_with fail
    refine wp_region_up wr.heap.size 6 [(true, 0), (true, 1), (true, 2), (true, 3), (true, 4), (true, 5)] (by kernel_rfl) (by kernel_rfl) (fun _ _ d _ _ h => by cases d <;> exact h) ?_
    have hb : Below wr.heap.size wr wr.drew := (Below.refl _ _).drew
    iterate 6
     refine wpS_takeL rfl rfl ?_
     go_big_quiet_step (rfl)
     refine wpQuiet_nil ?_
    refine wpS_nil ?_
    simp only [List.drop_succ_cons, List.drop_zero]
    obtain ⟨W2, hW2⟩ : ∃ W, wr.drew = W := ⟨_, rfl⟩
    have g1 : Below wr.heap.size wr W2 := by rw [← hW2]; exact (Below.refl _ _).drew
    have HW2 := Lib.hid (show Below w.heap.size w W2 by rw [← hW2]; exact HW.out.drew)
    have m1 := Nat.lt_of_lt_of_le l1 g1.size
    have m2 := Nat.lt_of_lt_of_le l2 g1.size
    have e0 := (g1.cell (p := ⟨pa, 0, none⟩) l1).trans a0
    have e1 := (g1.cell (p := ⟨pa, 1, none⟩) l1).trans a1
    have e2 := (g1.cell (p := ⟨pa, 2, none⟩) l1).trans a2
    have f0 := (g1.cell (p := ⟨pb, 0, none⟩) l2).trans b0
    have f1 := (g1.cell (p := ⟨pb, 1, none⟩) l2).trans b1
    have f2 := (g1.cell (p := ⟨pb, 2, none⟩) l2).trans b2
    rw [hW2]
    clear a0 a1 a2 b0 b1 b2 l1 l2 hW2 g1 HW HV ka kb
    go_wp2_with fail
    refine wp_region_up W2.heap.size 6 [(true, 0), (true, 1), (true, 2), (true, 3), (true, 4), (true, 5)] (by kernel_rfl) (by kernel_rfl) (fun _ _ d _ _ h => by cases d <;> exact h) ?_
    have hb : Below W2.heap.size W2 W2.drew := (Below.refl _ _).drew
    iterate 6
     refine wpS_takeL rfl rfl ?_
     go_big_quiet_step (rfl)
     refine wpQuiet_nil ?_
    refine wpS_nil ?_
    simp only [List.drop_succ_cons, List.drop_zero]
    have hA := HW2.out.drew
    go_wp2_with fail
    go_ret
    exact ⟨by rw [HVV.out]; rfl, hA⟩
  ·by_cases hxy : c = f
   ·have HQ2 : Hid ((0 < 3 → a = d) ∧ (1 < 3 → b = e) ∧ (2 < 3 → c = f)) := by
     have h := HQ.out
     exact Lib.hid ⟨fun _ => by first | exact hxy | exact h.1 (by omega), fun _ => by first | exact hxy | exact h.2.1 (by omega) | omega, fun _ => by first | exact hxy | exact h.2.2 (by omega) | omega⟩
    clear HQ
    go_wp2_with fail
    refine wp_region_up wr.heap.size 6 [(true, 0), (true, 1), (true, 2), (true, 3), (true, 4), (true, 5)] (by kernel_rfl) (by kernel_rfl) (fun _ _ d _ _ h => by cases d <;> exact h) ?_
    have hb : Below wr.heap.size wr wr.drew := (Below.refl _ _).drew
    iterate 6
     refine wpS_takeL rfl rfl ?_
     go_big_quiet_step (rfl)
     refine wpQuiet_nil ?_
    refine wpS_nil ?_
    simp only [List.drop_succ_cons, List.drop_zero]
    have hA := Lib.hid (HW.out.drew)
    have hB := Lib.hid (HV.out.drew)
    go_wp2_with fail
    go_roundg (3 - 3)
    case measure => omega
    case rel => exact ⟨3, by norm_cast, by omega, by omega, hA, hB, HQ2⟩
   ·have hv : ahd3 a b c d e f = decide (c < f) := by
     have h := HQ.out
     unfold ahd3
     rw [if_neg (fun h2 => h2 (h.1 (by omega))), if_neg (fun h2 => h2 (h.2.1 (by omega))), if_pos hxy]
    have HVV := Lib.hid hv
    clear hv HQ
    go_wp2_with fail
    refine wp_region_up wr.heap.size 6 [(true, 0), (true, 1), (true, 2), (true, 3), (true, 4), (true, 5)] (by kernel_rfl) (by kernel_rfl) (fun _ _ d _ _ h => by cases d <;> exact h) ?_
    have hb : Below wr.heap.size wr wr.drew := (Below.refl _ _).drew
    iterate 6
     refine wpS_takeL rfl rfl ?_
     go_big_quiet_step (rfl)
     refine wpQuiet_nil ?_
    refine wpS_nil ?_
    simp only [List.drop_succ_cons, List.drop_zero]
    obtain ⟨W2, hW2⟩ : ∃ W, wr.drew = W := ⟨_, rfl⟩
    have g1 : Below wr.heap.size wr W2 := by rw [← hW2]; exact (Below.refl _ _).drew
    have HW2 := Lib.hid (show Below w.heap.size w W2 by rw [← hW2]; exact HW.out.drew)
    have m1 := Nat.lt_of_lt_of_le l1 g1.size
    have m2 := Nat.lt_of_lt_of_le l2 g1.size
    have e0 := (g1.cell (p := ⟨pa, 0, none⟩) l1).trans a0
    have e1 := (g1.cell (p := ⟨pa, 1, none⟩) l1).trans a1
    have e2 := (g1.cell (p := ⟨pa, 2, none⟩) l1).trans a2
    have f0 := (g1.cell (p := ⟨pb, 0, none⟩) l2).trans b0
    have f1 := (g1.cell (p := ⟨pb, 1, none⟩) l2).trans b1
    have f2 := (g1.cell (p := ⟨pb, 2, none⟩) l2).trans b2
    rw [hW2]
    clear a0 a1 a2 b0 b1 b2 l1 l2 hW2 g1 HW HV ka kb
    go_wp2_with fail
    refine wp_region_up W2.heap.size 6 [(true, 0), (true, 1), (true, 2), (true, 3), (true, 4), (true, 5)] (by kernel_rfl) (by kernel_rfl) (fun _ _ d _ _ h => by cases d <;> exact h) ?_
    have hb : Below W2.heap.size W2 W2.drew := (Below.refl _ _).drew
    iterate 6
     refine wpS_takeL rfl rfl ?_
     go_big_quiet_step (rfl)
     refine wpQuiet_nil ?_
    refine wpS_nil ?_
    simp only [List.drop_succ_cons, List.drop_zero]
    have hA := HW2.out.drew
    go_wp2_with fail
    go_ret
    exact ⟨by rw [HVV.out]; rfl, hA⟩
  ·have hv : ahd3 a b c d e f = false := by
    have h := HQ.out
    unfold ahd3
    rw [if_neg (fun h2 => h2 (h.1 (by omega))), if_neg (fun h2 => h2 (h.2.1 (by omega))), if_neg (fun h2 => h2 (h.2.2 (by omega)))]
   have HVV := Lib.hid hv
   clear hv HQ
   go_wp2
   go_ret
   exact ⟨by rw [HVV.out]; rfl, HW.out⟩
end Go.Proofs.Ytdlpfiiakmhnlaa

namespace Go.Proofs.Ytdlpfiiakmhnlaa
open Go.RowKit

def nI (L : List Nat) : List Value := L.map fun x => .int .i64 (x : Nat)
theorem nI_len (L : List Nat) : (nI L).length = L.length := by unfold nI; simp
theorem nI_one (L : List Nat) : ∀ u ∈ nI L, u.oneCell' = true := by
  intro u hu
  unfold nI at hu
  obtain ⟨x, _, rfl⟩ := List.mem_map.1 hu
  rfl
theorem Ns.src {w : World} {a : Addr} {cap : Nat} {L : List Nat} (h : Ns w (some a) cap L) (j : Nat) (u : Value) (hj : (nI L)[j]? = some u) : w.cell? (a.add j) = some u := by
  have hjl : j < L.length := by rw [← nI_len]; exact (List.getElem?_eq_some_iff.1 hj).1
  obtain ⟨g, o, e, _, hc⟩ := h.ptr (by omega)
  injection e with e
  subst e
  have e2 : (⟨g, o, none⟩ : Addr).add j = ⟨g, o + j, none⟩ := by unfold Addr.add; split <;> simp_all
  rw [e2]
  unfold nI at hj
  rw [List.getElem?_map, Option.map_eq_some_iff] at hj
  obtain ⟨x, hx, rfl⟩ := hj
  exact hc j x hx
set_option maxRecDepth 100000 in
set_option maxHeartbeats 1000000 in
theorem CloneI_is (ao : Option Addr) (cap : Nat) (L : List Nat) (w : World) (h : Ns w ao cap L) (hn : L.length ≤ 1000000) :
    Calls Try.prog 98 #[.slice ao L.length cap] w fun e w' => ∃ v, e = .returned v ∧ NL w' w.heap.size v L ∧ Below w.heap.size w w' := by
  have hcl := h.capl
  have hcb := h.capb
  obtain ⟨i0, hi, hz0, hz1, hz2⟩ := info_parts info_int
  have HP := Lib.hid h
  clear h
  cases ao with
  | none =>
    have heq : ∀ n w, Sem.run Try.prog (binOp BinOp.eql 29 (.slice none n cap) (.slice none 0 0)) w = .ok (.bool true) w := fun n w => by kernel_rfl
    have hn0 : L = [] := by
      rcases Nat.eq_zero_or_pos L.length with h0 | h0
      · exact List.eq_nil_of_length_eq_zero h0
      · obtain ⟨g, o, e, _⟩ := HP.out.ptr h0; cases e
    subst hn0
    go_enter Try.func98, Try.ntmps98
    go_wp2
    go_ret
    exact ⟨_, rfl, NL.none, Below.refl _ _⟩
  | some a =>
    have heq : ∀ w, Sem.run Try.prog (binOp BinOp.eql 29 (.slice (some a) L.length cap) (.slice none 0 0)) w = .ok (.bool false) w := fun w => by kernel_rfl
    go_enter Try.func98, Try.ntmps98
    go_wp2_with (at_builtin; refine wpList_append_lies _ rfl _ _ 29 rfl w.heap.size 3 i0 (.int .i64 0) 1 8 Try.underlying29 hi hz0 hz1 hz2 rfl (by decide) (.slice (some ⟨w.heap.size, 0, none⟩) 0 0) 0 [] rfl ⟨rfl, .inr ⟨w.heap.size, 0, #[], rfl, Nat.le_refl _, heap_alloc_new w _, Nat.le_refl _, by decide, rfl, rfl⟩⟩ a L.length cap (nI L) rfl (by rw [nI_len]; omega) (Ns.src (HP.out.of (below_a1 _ _))) (nI_one L) (by unfold maxLen; omega) (by omega) (by simp) ?_)
    intro v' w' own gr _
    have HO : Hid (NL w' w.heap.size v' L) := by
      refine Lib.hid ?_
      unfold NL
      exact own
    have hb : Below w.heap.size w w' := (below_a1 w _).trans ((Below.refl _ _).grown gr (by simp) (fun k hk => by cases hk; exact Nat.le_refl _))
    clear own gr
    go_wp2
    go_ret
    exact ⟨_, rfl, HO.out, hb⟩
end Go.Proofs.Ytdlpfiiakmhnlaa

namespace Go.Proofs.Ytdlpfiiakmhnlaa
open Go.RowKit
attribute [local go_sem] undef

theorem CmpI_is (x y r : Int) (hr : cmpI x y = r) (w : World) : Calls Try.prog 66 #[.int .i64 x, .int .i64 y] w fun e w' => e = .returned (.int .i64 r) ∧ Below w.heap.size w w' := hr ▸ Compare_any x y w
/-- numbers to be read, in a block below B -/
structure Nb (B : Nat) (w : World) (g o cap : Nat) (L : List Nat) : Prop where
  lt : g < w.heap.size
  lo : g < B
  cell : ∀ j x, L[j]? = some x → w.cell? ⟨g, o + j, none⟩ = some (.int .i64 (x : Nat))
  capl : L.length ≤ cap
  capb : cap ≤ 9223372036854775807
theorem Nb.of {B : Nat} {w w' : World} {g o cap : Nat} {L : List Nat} (h : Nb B w g o cap L) (hb : Below B w w') : Nb B w' g o cap L :=
  ⟨Nat.lt_of_lt_of_le h.lt hb.size, h.lo, fun j x hx => (hb.cell (p := ⟨g, o + j, none⟩) h.lo).trans (h.cell j x hx), h.capl, h.capb⟩
theorem Nb.tail {B : Nat} {w : World} {g o cap o' : Nat} {x : Nat} {L : List Nat} (h : Nb B w g o cap (x :: L)) (ho : o' = o + 1 ∨ L = []) : Nb B w g o' (cap - 1) L := by
  have hc := h.capl
  have hcb := h.capb
  simp only [List.length_cons] at hc
  refine ⟨h.lt, h.lo, fun j y hy => ?_, by omega, by omega⟩
  rcases ho with rfl | rfl
  · have := h.cell (j + 1) y (by simpa using hy)
    rw [show o + 1 + j = o + (j + 1) by omega]; exact this
  · simp at hy
theorem Nb.src {B : Nat} {w : World} {g o cap : Nat} {L : List Nat} (h : Nb B w g o cap L) (j : Nat) (u : Value) (hj : (nI L)[j]? = some u) : w.cell? ((⟨g, o, none⟩ : Addr).add j) = some u := by
  have e2 : (⟨g, o, none⟩ : Addr).add j = ⟨g, o + j, none⟩ := by unfold Addr.add; split <;> simp_all
  rw [e2]
  unfold nI at hj
  rw [List.getElem?_map, Option.map_eq_some_iff] at hj
  obtain ⟨x, hx, rfl⟩ := hj
  exact h.cell j x hx
theorem make_ints (k : Nat) (hk : k ≤ 1000000) : ∃ MC : Array Value, (∀ w, Sem.run Try.prog (Instr.makeSlice 29 (.int .i64 0) (.int .i64 (k : Nat))) w = .ok (.slice (some ⟨w.heap.size, 0, none⟩) 0 k) (w.alloc (.cells MC 3))) ∧ MC.size = k := by
  obtain ⟨i0, hi, hz0, hz1, hz2⟩ := info_parts info_int
  refine ⟨madeCells (Value.int .i64 0).cells (k * 1), fun w => ?_, ?_⟩
  · have := run_makeSlice (P := Try.prog) w 29 3 i0 (.int .i64 0) Try.underlying29 hi hz0 .i64 .i64 0 (k : Nat) (by omega) (by omega) (by rw [hz1]; simp; omega) (by rw [hz2]; omega) (by omega)
    rw [hz1] at this
    simpa using this
  · unfold madeCells
    simp [Value.cells]
set_option maxRecDepth 100000 in
set_option maxHeartbeats 8000000 in
theorem Merge_is (ga oa gb ob ac bc : Nat) (la lb : List Nat) (w : World) (ha : Nb w.heap.size w ga oa ac la) (hb_ : Nb w.heap.size w gb ob bc lb) (hla : la.length ≤ 40000) (hlb : lb.length ≤ 40000) :
    Calls Try.prog 99 #[.slice (some ⟨ga, oa, none⟩) la.length ac, .slice (some ⟨gb, ob, none⟩) lb.length bc, cmpF] w fun e w' => ∃ v, e = .returned v ∧ NL w' w.heap.size v (mrg la lb) ∧ Below w.heap.size w w' := by
  have hac := ha.capl
  have hbc := hb_.capl
  have hacb := ha.capb
  have hbcb := hb_.capb
  have HNA := Lib.hid ha
  have HNB := Lib.hid hb_
  obtain ⟨i0, hi, hz0, hz1, hz2⟩ := info_parts info_int
  obtain ⟨n, hn⟩ : ∃ n, la.length = n := ⟨_, rfl⟩
  obtain ⟨m, hm⟩ : ∃ m, lb.length = m := ⟨_, rfl⟩
  have HN := Lib.hid hn
  have HM := Lib.hid hm
  rw [hn] at hla hac ⊢
  rw [hm] at hlb hbc ⊢
  clear ha hb_ hn hm
  obtain ⟨k, hk⟩ : ∃ k, n + m = k := ⟨_, rfl⟩
  have hki : (n : Int) + (m : Int) = (k : Nat) := by omega
  obtain ⟨MC, run_mk, hMC⟩ := make_ints k (by omega)
  go_enter Try.func99, Try.ntmps99
  go_wp2_with fail
  refine name_world ?_
  intro V hV
  have NC : Hid (NL V w.heap.size (.slice (some ⟨w.heap.size, 0, none⟩) 0 k) []) := by
    rw [hV]
    exact Lib.hid ⟨by simp, .inr ⟨w.heap.size, k, MC, rfl, Nat.le_refl _, World.alloc_heap_new w _, by simp, by unfold maxLen; omega, by omega, by simp⟩⟩
  have BV : Hid (Below w.heap.size w V) := by rw [hV]; exact Lib.hid (below_a1 _ _)
  have NA := Lib.hid (HNA.out.of BV.out)
  have NB := Lib.hid (HNB.out.of BV.out)
  clear hV HNA HNB run_mk hMC hki
  go_loopg [0, 1, 7] (n + m) (fun gk s0 s1 s7 wr => ∃ (p q c oa' ob' ac' bc' : Nat) (co : Option Addr) (cc : Nat) (A B C : List Nat), s0 = .slice (some ⟨ga, oa', none⟩) p ac' ∧ s1 = .slice (some ⟨gb, ob', none⟩) q bc' ∧ s7 = .slice co c cc ∧ p + q ≤ gk ∧ p ≤ 40000 ∧ q ≤ 40000 ∧ c + (p + q) = n + m ∧ Hid (A.length = p ∧ B.length = q ∧ C.length = c) ∧ Hid (C ++ mrg A B = mrg la lb) ∧ Hid (Nb w.heap.size wr ga oa' ac' A) ∧ Hid (Nb w.heap.size wr gb ob' bc' B) ∧ Hid (NL wr w.heap.size (.slice co c cc) C) ∧ Hid (Below w.heap.size w wr))
  case atStart => exact ⟨n, m, 0, oa, ob, ac, bc, _, _, la, lb, [], rfl, rfl, rfl, Nat.le_refl _, hla, hlb, by omega, Lib.hid ⟨HN.out, HM.out, rfl⟩, Lib.hid (List.nil_append _), NA, NB, NC, BV⟩
  case round =>
    clear NA NB NC BV
    obtain ⟨p, q, c, oa', ob', ac', bc', co, cc, A, B, C, rfl, rfl, rfl, hgk, hp, hq, hc, HL, HE, NA, NB, NC, HW⟩ := hrel
    have ca := NA.out.capl
    have cab := NA.out.capb
    have cb := NB.out.capl
    have cbb := NB.out.capb
    rw [HL.out.1] at ca
    rw [HL.out.2.1] at cb
    by_cases hpq : 0 < p ∧ 0 < q
    · obtain ⟨hp0, hq0⟩ := hpq
      obtain ⟨x, A', hA⟩ : ∃ x A', A = x :: A' := by
        cases A with
        | nil => have := HL.out.1; simp at this; omega
        | cons x A' => exact ⟨x, A', rfl⟩
      obtain ⟨y, B', hB⟩ : ∃ y B', B = y :: B' := by
        cases B with
        | nil => have := HL.out.2.1; simp at this; omega
        | cons y B' => exact ⟨y, B', rfl⟩
      subst hA
      subst hB
      have p0 : wr.cell? ⟨ga, oa', none⟩ = some (.int .i64 (x : Nat)) := NA.out.cell 0 x rfl
      have q0 : wr.cell? ⟨gb, ob', none⟩ = some (.int .i64 (y : Nat)) := NB.out.cell 0 y rfl
      have lga := NA.out.lt
      have lgb := NB.out.lt
      have hp0i : (0 : Int) < (p : Int) := by omega
      have hq0i : (0 : Int) < (q : Int) := by omega
      obtain ⟨r, hr⟩ : ∃ r, cmpI (y : Int) (x : Int) = r := ⟨_, rfl⟩
      have HRR := Lib.hid hr
      have hr3 : (r < 0 ∧ y < x) ∨ (¬ r < 0 ∧ ¬ y < x) := by rw [← hr]; unfold cmpI; split <;> omega
      clear hr
      go_wp2_with fail
      refine wp_region_up wr.heap.size 7 [(true, 0), (true, 1), (true, 2), (true, 3), (true, 4), (true, 5), (true, 6)] (by kernel_rfl) (by kernel_rfl) (fun _ _ d _ _ h => by cases d <;> exact h) ?_
      have hb : Below wr.heap.size wr wr.drew := (Below.refl _ _).drew
      iterate 7
        refine wpS_takeL rfl rfl ?_
        go_big_quiet_step (rfl)
        refine wpQuiet_nil ?_
      refine wpS_nil ?_
      simp only [List.drop_succ_cons, List.drop_zero]
      go_wp2_with fail
      refine (CmpI_is (y : Nat) (x : Nat) r HRR.out _).mono ?_
      rintro e w2 ⟨rfl, hn⟩
      have hb12 := hb.trans (hn.mono hb.size)
      have NA2 := Lib.hid (NA.out.of (hb12.mono HW.out.size))
      have NB2 := Lib.hid (NB.out.of (hb12.mono HW.out.size))
      have NC2 := Lib.hid (NC.out.of hb12)
      have HW2 := Lib.hid (HW.out.trans (hb12.mono HW.out.size))
      clear hb hn hb12 p0 q0 lga lgb NA NB NC HW
      have p0 : w2.cell? ⟨ga, oa', none⟩ = some (.int .i64 (x : Nat)) := NA2.out.cell 0 x rfl
      have q0 : w2.cell? ⟨gb, ob', none⟩ = some (.int .i64 (y : Nat)) := NB2.out.cell 0 y rfl
      have lga := NA2.out.lt
      have lgb := NB2.out.lt
      obtain ⟨RL, hRL⟩ : ∃ RL, (Value.slice co c cc).ownBlock.toList = RL := ⟨_, rfl⟩
      have HRL := Lib.hid hRL
      have na : ga ∉ RL := by rw [← hRL]; intro h; have := (NC2.out.own (by simpa using h)).1; have := NA2.out.lo; omega
      have nb : gb ∉ RL := by rw [← hRL]; intro h; have := (NC2.out.own (by simpa using h)).1; have := NB2.out.lo; omega
      clear hRL
      have hsz2 := HW2.out.size
      rcases hr3 with ⟨hr0, hyx⟩ | ⟨hr0, hyx⟩
      · rcases Nat.lt_or_ge 1 bc' with hb1 | hb1
        · have hb1 : ¬ bc' = 1 := by omega
          skip
          go_wp2_with fail
          refine wp_region_upl RL 9 [(true, 0), (true, 1), (true, 2), (true, 3), (true, 6), (true, 7), (false, 4), (false, 5), (true, 8)] (by kernel_rfl) (by kernel_rfl) (fun _ _ d _ _ h => by cases d <;> exact h) ?_
          iterate 6
            refine wpS_takeL rfl rfl ?_
            go_big_quiet_step (rfl)
            refine wpQuiet_nil ?_
          refine wpS_doL rfl ?_
          intro K hK
          go_wp2_with fail
          refine name_Kw ?_
          intro Wx hWx
          have kx : Blk Wx w2.heap.size #[.int .i64 (y : Nat)] 3 := by rw [hWx]; exact Blk.new w2.drew _ _
          have hbx : Below w2.heap.size w2 Wx := by rw [hWx]; exact ((Below.refl _ _).drew).alloc (by simp) _
          have hsx : Wx.heap.size = w2.heap.size + 1 := by rw [hWx]; simp
          refine hK.out _ _ (upl (OutL.ofBelow hbx)) ?_
          clear hK K hWx
          refine wpS_doL rfl ?_
          intro K hK
          refine wpList_append_nl rfl _ _ rfl w.heap.size (.slice co c cc) C y w2.heap.size rfl rfl kx (NC2.out.of hbx) (by rw [HL.out.2.2]; omega) (by omega) ?_
          intro co5 c5 cc5 W5 nl5 gr5
          have hc5 : c5 = c + 1 := by
            obtain ⟨_, _, e, _⟩ := nl5.val
            injection e with _ e _
            rw [e, List.length_append, HL.out.2.2]; rfl
          subst hc5
          have hbo5 : OutL RL w2 W5 := (OutL.ofBelow hbx).trans ⟨gr5.os, gr5.tape, gr5.output, gr5.size, fun k hk hc => gr5.block k hk fun e => hc (by rw [← HRL.out, ← e]; simp)⟩
          have hW5 : Below w.heap.size w2 W5 := hbo5.below hsz2 (fun k hk => (NC2.out.own (by rw [← HRL.out] at hk; simpa using hk)).1)
          have NA5 := Lib.hid (NA2.out.of hW5)
          have NB5 := Lib.hid ((NB2.out.of hW5).tail (o' := ob' + 1) (.inl rfl))
          have NC5 := Lib.hid nl5
          have HW5 := Lib.hid (HW2.out.trans hW5)
          have HE5 : Hid ((C ++ [y]) ++ mrg (x :: A') B' = mrg la lb) := by
            have := HE.out
            rw [mrg_lt hyx] at this
            rw [List.append_assoc]; exact Lib.hid this
          have HL5 : Hid ((x :: A').length = p ∧ B'.length = q - 1 ∧ (C ++ [y]).length = c + 1) := by
            have h1 := HL.out.1
            have h2 := HL.out.2.1
            simp only [List.length_cons] at h1 h2
            exact Lib.hid ⟨by first | exact HL.out.1 | omega, by first | exact HL.out.2.1 | omega, by rw [List.length_append, HL.out.2.2]; rfl⟩
          go_wp2_with fail
          refine hK.out _ _ (upl hbo5) ?_
          clear hK K kx hbx hsx hbo5 hW5 nl5 gr5 p0 q0 lga lgb na nb HRL
          simp only [Act.put, List.setIfInBounds_toArray, List.set_cons_succ, List.set_cons_zero]
          refine wpS_takeL rfl rfl ?_
          go_big_quiet_step (rfl)
          refine wpQuiet_nil ?_
          refine wpS_nil ?_
          simp only [List.drop_succ_cons, List.drop_zero]
          go_wp2_with fail
          go_roundg (p + q - 1)
          case measure => omega
          case rel => exact ⟨p, q - 1, c + 1, oa', ob' + 1, ac', bc' - 1, co5, cc5, (x :: A'), B', C ++ [y], by rfl, by rfl, rfl, by omega, by omega, by omega, by omega, HL5, HE5, NA5, NB5, NC5, HW5⟩
        · have hb1 : bc' = 1 := by omega
          subst hb1
          obtain rfl : q = 1 := by omega
          go_wp2_with fail
          refine wp_region_upl RL 9 [(true, 0), (true, 1), (true, 2), (true, 3), (true, 6), (true, 7), (false, 4), (false, 5), (true, 8)] (by kernel_rfl) (by kernel_rfl) (fun _ _ d _ _ h => by cases d <;> exact h) ?_
          iterate 6
            refine wpS_takeL rfl rfl ?_
            go_big_quiet_step (rfl)
            refine wpQuiet_nil ?_
          refine wpS_doL rfl ?_
          intro K hK
          go_wp2_with fail
          refine name_Kw ?_
          intro Wx hWx
          have kx : Blk Wx w2.heap.size #[.int .i64 (y : Nat)] 3 := by rw [hWx]; exact Blk.new w2.drew _ _
          have hbx : Below w2.heap.size w2 Wx := by rw [hWx]; exact ((Below.refl _ _).drew).alloc (by simp) _
          have hsx : Wx.heap.size = w2.heap.size + 1 := by rw [hWx]; simp
          refine hK.out _ _ (upl (OutL.ofBelow hbx)) ?_
          clear hK K hWx
          refine wpS_doL rfl ?_
          intro K hK
          refine wpList_append_nl rfl _ _ rfl w.heap.size (.slice co c cc) C y w2.heap.size rfl rfl kx (NC2.out.of hbx) (by rw [HL.out.2.2]; omega) (by omega) ?_
          intro co5 c5 cc5 W5 nl5 gr5
          have hc5 : c5 = c + 1 := by
            obtain ⟨_, _, e, _⟩ := nl5.val
            injection e with _ e _
            rw [e, List.length_append, HL.out.2.2]; rfl
          subst hc5
          have hbo5 : OutL RL w2 W5 := (OutL.ofBelow hbx).trans ⟨gr5.os, gr5.tape, gr5.output, gr5.size, fun k hk hc => gr5.block k hk fun e => hc (by rw [← HRL.out, ← e]; simp)⟩
          have hW5 : Below w.heap.size w2 W5 := hbo5.below hsz2 (fun k hk => (NC2.out.own (by rw [← HRL.out] at hk; simpa using hk)).1)
          have NA5 := Lib.hid (NA2.out.of hW5)
          have NB5 := Lib.hid ((NB2.out.of hW5).tail (o' := ob') (.inr (by have := NB2.out.capl; simp only [List.length_cons] at this; exact List.eq_nil_of_length_eq_zero (by omega))))
          have NC5 := Lib.hid nl5
          have HW5 := Lib.hid (HW2.out.trans hW5)
          have HE5 : Hid ((C ++ [y]) ++ mrg (x :: A') B' = mrg la lb) := by
            have := HE.out
            rw [mrg_lt hyx] at this
            rw [List.append_assoc]; exact Lib.hid this
          have HL5 : Hid ((x :: A').length = p ∧ B'.length = 1 - 1 ∧ (C ++ [y]).length = c + 1) := by
            have h1 := HL.out.1
            have h2 := HL.out.2.1
            simp only [List.length_cons] at h1 h2
            exact Lib.hid ⟨by first | exact HL.out.1 | omega, by first | exact HL.out.2.1 | omega, by rw [List.length_append, HL.out.2.2]; rfl⟩
          go_wp2_with fail
          refine hK.out _ _ (upl hbo5) ?_
          clear hK K kx hbx hsx hbo5 hW5 nl5 gr5 p0 q0 lga lgb na nb HRL
          simp only [Act.put, List.setIfInBounds_toArray, List.set_cons_succ, List.set_cons_zero]
          refine wpS_takeL rfl rfl ?_
          go_big_quiet_step (rfl)
          refine wpQuiet_nil ?_
          refine wpS_nil ?_
          simp only [List.drop_succ_cons, List.drop_zero]
          go_wp2_with fail
          go_roundg (p + 1 - 1)
          case measure => omega
          case rel => exact ⟨p, 1 - 1, c + 1, oa', ob', ac', 1 - 1, co5, cc5, (x :: A'), B', C ++ [y], by rfl, by rfl, rfl, by omega, by omega, by omega, by omega, HL5, HE5, NA5, NB5, NC5, HW5⟩
      · rcases Nat.lt_or_ge 1 ac' with hb1 | hb1
        · have hb1 : ¬ ac' = 1 := by omega
          skip
          go_wp2_with fail
          refine wp_region_upl RL 9 [(true, 0), (true, 1), (true, 2), (true, 3), (true, 6), (true, 7), (false, 4), (false, 5), (true, 8)] (by kernel_rfl) (by kernel_rfl) (fun _ _ d _ _ h => by cases d <;> exact h) ?_
          iterate 6
            refine wpS_takeL rfl rfl ?_
            go_big_quiet_step (rfl)
            refine wpQuiet_nil ?_
          refine wpS_doL rfl ?_
          intro K hK
          go_wp2_with fail
          refine name_Kw ?_
          intro Wx hWx
          have kx : Blk Wx w2.heap.size #[.int .i64 (x : Nat)] 3 := by rw [hWx]; exact Blk.new w2.drew _ _
          have hbx : Below w2.heap.size w2 Wx := by rw [hWx]; exact ((Below.refl _ _).drew).alloc (by simp) _
          have hsx : Wx.heap.size = w2.heap.size + 1 := by rw [hWx]; simp
          refine hK.out _ _ (upl (OutL.ofBelow hbx)) ?_
          clear hK K hWx
          refine wpS_doL rfl ?_
          intro K hK
          refine wpList_append_nl rfl _ _ rfl w.heap.size (.slice co c cc) C x w2.heap.size rfl rfl kx (NC2.out.of hbx) (by rw [HL.out.2.2]; omega) (by omega) ?_
          intro co5 c5 cc5 W5 nl5 gr5
          have hc5 : c5 = c + 1 := by
            obtain ⟨_, _, e, _⟩ := nl5.val
            injection e with _ e _
            rw [e, List.length_append, HL.out.2.2]; rfl
          subst hc5
          have hbo5 : OutL RL w2 W5 := (OutL.ofBelow hbx).trans ⟨gr5.os, gr5.tape, gr5.output, gr5.size, fun k hk hc => gr5.block k hk fun e => hc (by rw [← HRL.out, ← e]; simp)⟩
          have hW5 : Below w.heap.size w2 W5 := hbo5.below hsz2 (fun k hk => (NC2.out.own (by rw [← HRL.out] at hk; simpa using hk)).1)
          have NA5 := Lib.hid ((NA2.out.of hW5).tail (o' := oa' + 1) (.inl rfl))
          have NB5 := Lib.hid (NB2.out.of hW5)
          have NC5 := Lib.hid nl5
          have HW5 := Lib.hid (HW2.out.trans hW5)
          have HE5 : Hid ((C ++ [x]) ++ mrg A' (y :: B') = mrg la lb) := by
            have := HE.out
            rw [mrg_ge hyx] at this
            rw [List.append_assoc]; exact Lib.hid this
          have HL5 : Hid (A'.length = p - 1 ∧ (y :: B').length = q ∧ (C ++ [x]).length = c + 1) := by
            have h1 := HL.out.1
            have h2 := HL.out.2.1
            simp only [List.length_cons] at h1 h2
            exact Lib.hid ⟨by first | exact HL.out.1 | omega, by first | exact HL.out.2.1 | omega, by rw [List.length_append, HL.out.2.2]; rfl⟩
          go_wp2_with fail
          refine hK.out _ _ (upl hbo5) ?_
          clear hK K kx hbx hsx hbo5 hW5 nl5 gr5 p0 q0 lga lgb na nb HRL
          simp only [Act.put, List.setIfInBounds_toArray, List.set_cons_succ, List.set_cons_zero]
          refine wpS_takeL rfl rfl ?_
          go_big_quiet_step (rfl)
          refine wpQuiet_nil ?_
          refine wpS_nil ?_
          simp only [List.drop_succ_cons, List.drop_zero]
          go_wp2_with fail
          go_roundg (p + q - 1)
          case measure => omega
          case rel => exact ⟨p - 1, q, c + 1, oa' + 1, ob', ac' - 1, bc', co5, cc5, A', (y :: B'), C ++ [x], by rfl, by rfl, rfl, by omega, by omega, by omega, by omega, HL5, HE5, NA5, NB5, NC5, HW5⟩
        · have hb1 : ac' = 1 := by omega
          subst hb1
          obtain rfl : p = 1 := by omega
          go_wp2_with fail
          refine wp_region_upl RL 9 [(true, 0), (true, 1), (true, 2), (true, 3), (true, 6), (true, 7), (false, 4), (false, 5), (true, 8)] (by kernel_rfl) (by kernel_rfl) (fun _ _ d _ _ h => by cases d <;> exact h) ?_
          iterate 6
            refine wpS_takeL rfl rfl ?_
            go_big_quiet_step (rfl)
            refine wpQuiet_nil ?_
          refine wpS_doL rfl ?_
          intro K hK
          go_wp2_with fail
          refine name_Kw ?_
          intro Wx hWx
          have kx : Blk Wx w2.heap.size #[.int .i64 (x : Nat)] 3 := by rw [hWx]; exact Blk.new w2.drew _ _
          have hbx : Below w2.heap.size w2 Wx := by rw [hWx]; exact ((Below.refl _ _).drew).alloc (by simp) _
          have hsx : Wx.heap.size = w2.heap.size + 1 := by rw [hWx]; simp
          refine hK.out _ _ (upl (OutL.ofBelow hbx)) ?_
          clear hK K hWx
          refine wpS_doL rfl ?_
          intro K hK
          refine wpList_append_nl rfl _ _ rfl w.heap.size (.slice co c cc) C x w2.heap.size rfl rfl kx (NC2.out.of hbx) (by rw [HL.out.2.2]; omega) (by omega) ?_
          intro co5 c5 cc5 W5 nl5 gr5
          have hc5 : c5 = c + 1 := by
            obtain ⟨_, _, e, _⟩ := nl5.val
            injection e with _ e _
            rw [e, List.length_append, HL.out.2.2]; rfl
          subst hc5
          have hbo5 : OutL RL w2 W5 := (OutL.ofBelow hbx).trans ⟨gr5.os, gr5.tape, gr5.output, gr5.size, fun k hk hc => gr5.block k hk fun e => hc (by rw [← HRL.out, ← e]; simp)⟩
          have hW5 : Below w.heap.size w2 W5 := hbo5.below hsz2 (fun k hk => (NC2.out.own (by rw [← HRL.out] at hk; simpa using hk)).1)
          have NA5 := Lib.hid ((NA2.out.of hW5).tail (o' := oa') (.inr (by have := NA2.out.capl; simp only [List.length_cons] at this; exact List.eq_nil_of_length_eq_zero (by omega))))
          have NB5 := Lib.hid (NB2.out.of hW5)
          have NC5 := Lib.hid nl5
          have HW5 := Lib.hid (HW2.out.trans hW5)
          have HE5 : Hid ((C ++ [x]) ++ mrg A' (y :: B') = mrg la lb) := by
            have := HE.out
            rw [mrg_ge hyx] at this
            rw [List.append_assoc]; exact Lib.hid this
          have HL5 : Hid (A'.length = 1 - 1 ∧ (y :: B').length = q ∧ (C ++ [x]).length = c + 1) := by
            have h1 := HL.out.1
            have h2 := HL.out.2.1
            simp only [List.length_cons] at h1 h2
            exact Lib.hid ⟨by first | exact HL.out.1 | omega, by first | exact HL.out.2.1 | omega, by rw [List.length_append, HL.out.2.2]; rfl⟩
          go_wp2_with fail
          refine hK.out _ _ (upl hbo5) ?_
          clear hK K kx hbx hsx hbo5 hW5 nl5 gr5 p0 q0 lga lgb na nb HRL
          simp only [Act.put, List.setIfInBounds_toArray, List.set_cons_succ, List.set_cons_zero]
          refine wpS_takeL rfl rfl ?_
          go_big_quiet_step (rfl)
          refine wpQuiet_nil ?_
          refine wpS_nil ?_
          simp only [List.drop_succ_cons, List.drop_zero]
          go_wp2_with fail
          go_roundg (1 + q - 1)
          case measure => omega
          case rel => exact ⟨1 - 1, q, c + 1, oa', ob', 1 - 1, bc', co5, cc5, A', (y :: B'), C ++ [x], by rfl, by rfl, rfl, by omega, by omega, by omega, by omega, HL5, HE5, NA5, NB5, NC5, HW5⟩
    · rcases Nat.eq_zero_or_pos p with hp0 | hp0
      · subst hp0
        have hmr : mrg A B = A ++ B := by
          have h1 := HL.out.1
          have h2 := HL.out.2.1
          first
          | (have e : A = [] := List.eq_nil_of_length_eq_zero (by omega)
             simp [e, mrg_nil])
          | (have e : B = [] := List.eq_nil_of_length_eq_zero (by omega)
             simp [e, mrg_nil2])
        have hlA : (nI A).length = 0 * 1 := by have h1 := nI_len A; have h2 := HL.out.1; omega
        have hlB : (nI B).length = q * 1 := by have h1 := nI_len B; have h2 := HL.out.2.1; omega
        have hb1 : C.length + 0 ≤ maxLen := by unfold maxLen; have := HL.out.2.2; omega
        have hb2 : (C.length + 0) * 8 ≤ 140737488355328 := by have := HL.out.2.2; omega
        have hb3 : (C ++ A).length + q ≤ maxLen := by unfold maxLen; rw [List.length_append]; have h1 := HL.out.2.2; have h2 := HL.out.1; omega
        have hb4 : ((C ++ A).length + q) * 8 ≤ 140737488355328 := by rw [List.length_append]; have h1 := HL.out.2.2; have h2 := HL.out.1; omega
        have HE2 := Lib.hid (show C ++ (A ++ B) = mrg la lb by rw [← hmr]; exact HE.out)
        have hszr := HW.out.size
        clear hmr
        go_wp2_with (at_builtin; go_loud (refine wpList_append_lies _ rfl _ _ 29 rfl w.heap.size 3 i0 (.int .i64 0) 1 8 Try.underlying29 hi hz0 hz1 hz2 rfl (by decide) (.slice co c cc) C.length (nI C) rfl NC.out ⟨ga, oa', none⟩ 0 ac' (nI A) rfl hlA NA.out.src (nI_one A) hb1 hb2 hszr ?_))
        intro v1 w1 own1 gr1 _
        have NC1 : Hid (NL w1 w.heap.size v1 (C ++ A)) := by
          refine Lib.hid ?_
          unfold NL
          rw [List.length_append, List.map_append, HL.out.1]; exact own1
        have hW1 : Below w.heap.size wr w1 := ⟨gr1.os, gr1.tape, gr1.output, gr1.size, fun g hg => gr1.block g (by omega) (fun e => by have := (NC.out.own e.symm).1; omega)⟩
        have NB1 := Lib.hid (NB.out.of hW1)
        have HW1 := Lib.hid (HW.out.trans hW1)
        have hs1 := HW1.out.size
        clear own1 gr1 hW1 NC NA NB HW
        go_wp2_with (at_builtin; go_loud (refine wpList_append_lies _ rfl _ _ 29 rfl w.heap.size 3 i0 (.int .i64 0) 1 8 Try.underlying29 hi hz0 hz1 hz2 rfl (by decide) v1 (C ++ A).length (nI (C ++ A)) rfl NC1.out ⟨gb, ob', none⟩ q bc' (nI B) rfl hlB NB1.out.src (nI_one B) hb3 hb4 hs1 ?_))
        intro v2 w2 own2 gr2 _
        have NC2 : Hid (NL w2 w.heap.size v2 (mrg la lb)) := by
          rw [← HE2.out, ← List.append_assoc]
          refine Lib.hid ?_
          unfold NL
          rw [List.length_append, List.map_append, HL.out.2.1, List.length_append]; exact own2
        have hW2 : Below w.heap.size w1 w2 := ⟨gr2.os, gr2.tape, gr2.output, gr2.size, fun g hg => gr2.block g (by omega) (fun e => by have := (NC1.out.own e.symm).1; omega)⟩
        have HW2 := Lib.hid (HW1.out.trans hW2)
        clear own2 gr2 hW2 NC1 NB1 HW1
        go_wp2
        go_ret
        exact ⟨_, rfl, NC2.out, HW2.out⟩
      · have hq0 : q = 0 := by omega
        subst hq0
        have hp0i : (0 : Int) < (p : Int) := by omega
        have hmr : mrg A B = A ++ B := by
          have h1 := HL.out.1
          have h2 := HL.out.2.1
          first
          | (have e : A = [] := List.eq_nil_of_length_eq_zero (by omega)
             simp [e, mrg_nil])
          | (have e : B = [] := List.eq_nil_of_length_eq_zero (by omega)
             simp [e, mrg_nil2])
        have hlA : (nI A).length = p * 1 := by have h1 := nI_len A; have h2 := HL.out.1; omega
        have hlB : (nI B).length = 0 * 1 := by have h1 := nI_len B; have h2 := HL.out.2.1; omega
        have hb1 : C.length + p ≤ maxLen := by unfold maxLen; have := HL.out.2.2; omega
        have hb2 : (C.length + p) * 8 ≤ 140737488355328 := by have := HL.out.2.2; omega
        have hb3 : (C ++ A).length + 0 ≤ maxLen := by unfold maxLen; rw [List.length_append]; have h1 := HL.out.2.2; have h2 := HL.out.1; omega
        have hb4 : ((C ++ A).length + 0) * 8 ≤ 140737488355328 := by rw [List.length_append]; have h1 := HL.out.2.2; have h2 := HL.out.1; omega
        have HE2 := Lib.hid (show C ++ (A ++ B) = mrg la lb by rw [← hmr]; exact HE.out)
        have hszr := HW.out.size
        clear hmr
        go_wp2_with (at_builtin; go_loud (refine wpList_append_lies _ rfl _ _ 29 rfl w.heap.size 3 i0 (.int .i64 0) 1 8 Try.underlying29 hi hz0 hz1 hz2 rfl (by decide) (.slice co c cc) C.length (nI C) rfl NC.out ⟨ga, oa', none⟩ p ac' (nI A) rfl hlA NA.out.src (nI_one A) hb1 hb2 hszr ?_))
        intro v1 w1 own1 gr1 _
        have NC1 : Hid (NL w1 w.heap.size v1 (C ++ A)) := by
          refine Lib.hid ?_
          unfold NL
          rw [List.length_append, List.map_append, HL.out.1]; exact own1
        have hW1 : Below w.heap.size wr w1 := ⟨gr1.os, gr1.tape, gr1.output, gr1.size, fun g hg => gr1.block g (by omega) (fun e => by have := (NC.out.own e.symm).1; omega)⟩
        have NB1 := Lib.hid (NB.out.of hW1)
        have HW1 := Lib.hid (HW.out.trans hW1)
        have hs1 := HW1.out.size
        clear own1 gr1 hW1 NC NA NB HW
        go_wp2_with (at_builtin; go_loud (refine wpList_append_lies _ rfl _ _ 29 rfl w.heap.size 3 i0 (.int .i64 0) 1 8 Try.underlying29 hi hz0 hz1 hz2 rfl (by decide) v1 (C ++ A).length (nI (C ++ A)) rfl NC1.out ⟨gb, ob', none⟩ 0 bc' (nI B) rfl hlB NB1.out.src (nI_one B) hb3 hb4 hs1 ?_))
        intro v2 w2 own2 gr2 _
        have NC2 : Hid (NL w2 w.heap.size v2 (mrg la lb)) := by
          rw [← HE2.out, ← List.append_assoc]
          refine Lib.hid ?_
          unfold NL
          rw [List.length_append, List.map_append, HL.out.2.1, List.length_append]; exact own2
        have hW2 : Below w.heap.size w1 w2 := ⟨gr2.os, gr2.tape, gr2.output, gr2.size, fun g hg => gr2.block g (by omega) (fun e => by have := (NC1.out.own e.symm).1; omega)⟩
        have HW2 := Lib.hid (HW1.out.trans hW2)
        clear own2 gr2 hW2 NC1 NB1 HW1
        go_wp2
        go_ret
        exact ⟨_, rfl, NC2.out, HW2.out⟩
end Go.Proofs.Ytdlpfiiakmhnlaa

namespace Go.Proofs.Ytdlpfiiakmhnlaa
open Go.RowKit
attribute [local go_sem] undef

theorem Merge_n (ga oa gb ob ac bc p q : Nat) (la lb : List Nat) (w : World) (ha : Nb w.heap.size w ga oa ac la) (hb_ : Nb w.heap.size w gb ob bc lb) (hp : la.length = p) (hq : lb.length = q) (hla : p ≤ 40000) (hlb : q ≤ 40000) :
    Calls Try.prog 99 #[.slice (some ⟨ga, oa, none⟩) p ac, .slice (some ⟨gb, ob, none⟩) q bc, cmpF] w fun e w' => ∃ v, e = .returned v ∧ NL w' w.heap.size v (mrg la lb) ∧ Below w.heap.size w w' := by
  subst hp
  subst hq
  exact Merge_is ga oa gb ob ac bc la lb w ha hb_ hla hlb
theorem srcNL {w : World} {base g r k : Nat} {M : List Nat} (h : NL w base (.slice (some ⟨g, 0, none⟩) r k) M) (j : Nat) (u : Value) (hj : (nI M)[j]? = some u) : w.cell? ((⟨g, 0, none⟩ : Addr).add j) = some u := by
  have hjl : j < M.length := by rw [← nI_len]; exact (List.getElem?_eq_some_iff.1 hj).1
  obtain ⟨ao, cap, e, _, _, h3⟩ := h.val
  injection e with e1 _ _
  obtain ⟨g', e4, _, _, hcell⟩ := h3 (by omega)
  rw [← e1] at e4
  injection e4 with e4
  injection e4 with e4 _ _
  subst e4
  have e2 : (⟨g, 0, none⟩ : Addr).add j = ⟨g, j, none⟩ := by unfold Addr.add; split <;> simp_all
  rw [e2]
  unfold nI at hj
  rw [List.getElem?_map, Option.map_eq_some_iff] at hj
  obtain ⟨x, hx, rfl⟩ := hj
  exact hcell j x hx
theorem Merge_v (ga oa gb ob ac bc p q r : Nat) (la lb : List Nat) (w w0 : World) (ha : Nb w0.heap.size w0 ga oa ac la) (hb_ : Nb w0.heap.size w0 gb ob bc lb) (hw : Below w0.heap.size w0 w) (hs : w.heap.size = w0.heap.size) (hp : la.length = p) (hq : lb.length = q) (hr : p + q = r) (h0 : 0 < r) (hla : p ≤ 40000) (hlb : q ≤ 40000) :
    Calls Try.prog 99 #[.slice (some ⟨ga, oa, none⟩) p ac, .slice (some ⟨gb, ob, none⟩) q bc, cmpF] w fun e w' => ∃ g3 k3, e = .returned (.slice (some ⟨g3, 0, none⟩) r k3) ∧ NL w' w0.heap.size (.slice (some ⟨g3, 0, none⟩) r k3) (mrg la lb) ∧ Below w.heap.size w w' := by
  refine (Merge_n ga oa gb ob ac bc p q la lb w (by rw [hs]; exact ha.of hw) (by rw [hs]; exact hb_.of hw) hp hq hla hlb).mono ?_
  rintro e w' ⟨v, rfl, h1, h2⟩
  have hl : (mrg la lb).length = r := by rw [mrg_len _ _ _ (Nat.le_refl _), hp, hq, hr]
  obtain ⟨ao, cap, e, _, _, h3⟩ := h1.val
  rw [hl] at h3 e
  obtain ⟨g3, hg, _⟩ := h3 h0
  subst hg
  subst e
  rw [hs] at h1
  exact ⟨g3, cap, rfl, h1, h2⟩
theorem CloneI_n (ao : Option Addr) (cap n : Nat) (L : List Nat) (w : World) (h : Ns w ao cap L) (hn : L.length = n) (hn2 : n ≤ 1000000) :
    Calls Try.prog 98 #[.slice ao n cap] w fun e w' => ∃ v, e = .returned v ∧ NL w' w.heap.size v L ∧ Below w.heap.size w w' := by
  subst hn
  exact CloneI_is ao cap L w h hn2
theorem cut_nb {B : Nat} {w : World} {base g cc n : Nat} {R : List Nat} (h : NL w base (.slice (some ⟨g, 0, none⟩) n cc) R) (hB : g < B) {a b o : Nat} (hab : a ≤ b) (hb : b ≤ R.length) (ho : o = a ∨ a = b) : Nb B w g o (cc - a) (cut R a b) := by
  obtain ⟨ao, cap, e, h1, h2, h3⟩ := h.val
  injection e with e1 e2 e3
  subst e3
  have hlt : g < w.heap.size := (h.own rfl).2
  refine ⟨hlt, hB, fun j x hx => ?_, by rw [cut_len hb]; omega, by omega⟩
  have hc := cut_at hx
  have hlen : (cut R a b).length = b - a := cut_len hb
  have hj : j < (cut R a b).length := (List.getElem?_eq_some_iff.1 hx).1
  obtain ⟨g', e4, _, _, hcell⟩ := h3 (by omega)
  rw [← e1] at e4
  injection e4 with e4
  injection e4 with e4 _ _
  subst e4
  rcases ho with rfl | rfl
  · exact hcell _ x hc
  · omega
set_option maxRecDepth 100000 in
set_option maxHeartbeats 8000000 in
theorem Sort_is (ao : Option Addr) (cap : Nat) (L : List Nat) (w : World) (h : Ns w ao cap L) (hn : L.length ≤ 40000) :
    Calls Try.prog 88 #[.slice ao L.length cap, cmpF] w fun e w' => ∃ v R, e = .returned v ∧ NL w' w.heap.size v R ∧ Asc R ∧ (∀ z, z ∈ R ↔ z ∈ L) ∧ R.length = L.length ∧ Below w.heap.size w w' := by
 have HP := Lib.hid h
 obtain ⟨i0, hi, hz0, hz1, hz2⟩ := info_parts info_int
 obtain ⟨n, hnn⟩ : ∃ n, L.length = n := ⟨_, rfl⟩
 have HN := Lib.hid hnn
 rw [hnn] at hn ⊢
 clear h hnn
 go_enter Try.func88, Try.ntmps88
 go_wp2_with fail
 refine (CloneI_n ao cap n L w HP.out HN.out (by omega)).mono ?_
 rintro e V ⟨v, rfl, nl, hb⟩
 obtain ⟨co, cc, e, _⟩ := nl.val
 rw [HN.out] at e
 subst e
 have NV := Lib.hid nl
 have BV := Lib.hid hb
 clear nl hb
 go_wp2_with fail
 go_loopg [5, 6] n (fun gk s5 s6 wr => ∃ (s : Nat) (co : Option Addr) (cc : Nat) (R : List Nat), s5 = .slice co n cc ∧ s6 = .int .i64 (s : Nat) ∧ 1 ≤ s ∧ s ≤ 80000 ∧ n - s ≤ gk ∧ Hid (R.length = n ∧ Pcs s R ∧ ∀ z, z ∈ R ↔ z ∈ L) ∧ Hid (NL wr w.heap.size (.slice co n cc) R) ∧ Hid (Below w.heap.size w wr))
 case atStart => exact ⟨1, co, cc, L, rfl, rfl, by omega, by omega, by omega, Lib.hid ⟨HN.out, pcs_one L, fun z => Iff.rfl⟩, NV, BV⟩
 case round =>
  clear NV BV
  obtain ⟨s, co, cc, R, rfl, rfl, hs1, hs2, hgk, HR, NR, HW⟩ := hrel
  by_cases hlt : s < n
  ·obtain ⟨co', cc', e, hcc, hcb, hptr⟩ := NR.out.val
   obtain ⟨g, hg, hgB, hgl, _⟩ := hptr (by rw [HR.out.1]; omega)
   injection e with e1 e2 e3
   subst e1
   subst e3
   subst hg
   rw [HR.out.1] at hcc
   clear hptr e2
   go_wp2_with fail
   obtain ⟨W1, hW1⟩ : ∃ W, W = wr := ⟨_, rfl⟩
   rw [← hW1] at NR HW hgl ⊢
   have hsz1 := HW.out.size
   go_loopg [7, 8] n (fun gk s7 s8 wr => ∃ (j a c : Nat) (po : Option Addr) (pc : Nat) (X : List Nat), s7 = .slice po c pc ∧ s8 = .int .i64 (a : Nat) ∧ a < n + 2 * s ∧ c = min a n ∧ n - a ≤ gk ∧ Hid (a = j * (2 * s)) ∧ Hid (X.length = c ∧ Pcs (2 * s) X ∧ ∀ z, z ∈ X ↔ z ∈ R.take c) ∧ Hid (NL wr W1.heap.size (.slice po c pc) X) ∧ Hid (Below W1.heap.size W1 wr))
   case atStart => exact ⟨0, 0, 0, none, 0, [], rfl, rfl, by omega, by omega, by omega, Lib.hid (by omega), Lib.hid ⟨rfl, fun k => by simp [Asc], fun z => by simp⟩, Lib.hid NL.none, by exact Lib.hid (by first | exact Below.refl _ _ | (rw [← hW1]; exact Below.refl _ _))⟩
   case round =>
    clear hW1
    obtain ⟨j, a, c, po, pc, X, rfl, rfl, ha2, hc, hgk2, HJ, HX, NX, HWr⟩ := hrel
    by_cases hat : a < n
    ·have hca : c = a := by omega
     subst hca
     have NRw := Lib.hid (NR.out.of HWr.out)
     have hca2 : ¬ cc = c := by omega
     clear hc
     rcases Nat.lt_or_ge n (c + s) with g1 | g1
     ·rcases Nat.lt_or_ge n cc with g3 | g3
      ·have k1 : ¬ ((c : Int) + (s : Int) ≤ (n : Int)) := by omega
       have k2 : ¬ ((c : Int) + 2 * (s : Int) ≤ (n : Int)) := by omega
       have k3 : ¬ cc = n := by omega
       go_wp2_with fail
       have hgw : g < wr.heap.size := (NRw.out.own rfl).2
       have hRl := HR.out.1
       have NA := Lib.hid (cut_nb NRw.out hgw (a := c) (b := n) (o := c) (by omega) (by rw [hRl]; omega) (.inl rfl))
       have NB : Hid (Nb wr.heap.size wr g n (cc - n) (cut R n n)) := by
        have := cut_nb NRw.out hgw (a := n) (b := n) (o := n) (by omega) (by rw [hRl]; omega) (.inl rfl)
        first | exact Lib.hid this | (rw [Nat.sub_self] at this; exact Lib.hid this)
       have hla : (cut R c n).length = n - c := cut_len (by rw [hRl]; omega)
       have hlb : (cut R n n).length = 0 := (cut_len (by rw [hRl]; omega)).trans (by omega)
       have hr : (n - c) + 0 = n - c := by omega
       have HLA := Lib.hid (And.intro hla (And.intro hlb hr))
       clear hla hlb hr hRl
       
       refine wp_region_up wr.heap.size 11 [(true, 0), (true, 1), (true, 2), (true, 3), (true, 4), (true, 5), (true, 6), (true, 7), (true, 8), (true, 9), (false, 10)] (by kernel_rfl) (by kernel_rfl) (fun _ _ d _ _ h => by cases d <;> exact h) ?_
       have hb : Below wr.heap.size wr wr.drew := (Below.refl _ _).drew
       iterate 10
        refine wpS_takeL rfl rfl ?_
        go_big_quiet_step (rfl)
        refine wpQuiet_nil ?_
       refine wpS_doL rfl ?_
       intro K hK
       go_wp2_with ((go_at_call 99; go_loud (refine (Merge_v g c g n (cc - c) (cc - n) (n - c) 0 (n - c) _ _ _ wr NA.out NB.out hb rfl HLA.out.1 HLA.out.2.1 HLA.out.2.2 (by omega) (by omega) (by omega)).mono ?_); rintro e w2 ⟨g3, k3_, rfl, nlM, hn⟩))
       replace hb := hb.trans (hn.mono hb.size)
       refine hK.out _ _ (up_iff.2 hb) ?_
       clear hK K
       clear hn
       refine wpS_nil ?_
       simp only [List.drop_succ_cons, List.drop_zero]
       have NX2 := Lib.hid (NX.out.of hb)
       have NM := Lib.hid nlM
       have HW2 := Lib.hid (HWr.out.trans (hb.mono HWr.out.size))
       have hs2 := HW2.out.size
       have hPP := pass_one hs1 HR.out.1 HR.out.2.1 HJ.out hat (mid := n) (en := n) (by omega) (by omega) HX.out.1 HX.out.2.1 HX.out.2.2
       have PP := Lib.hid hPP
       have hlM : (nI (mrg (cut R c n) (cut R n n))).length = (n - c) * 1 := by have h1 := nI_len (mrg (cut R c n) (cut R n n)); have h2 := PP.out.1; omega
       have hX1 := HX.out.1
       have hb1 : X.length + (n - c) ≤ maxLen := by unfold maxLen; omega
       have hb2 : (X.length + (n - c)) * 8 ≤ 140737488355328 := by omega
       clear hPP nlM hb NA NB HLA NX HWr hgw
       go_wp2_with (at_builtin; go_loud (refine wpList_append_lies _ rfl _ _ 29 rfl W1.heap.size 3 i0 (.int .i64 0) 1 8 Try.underlying29 hi hz0 hz1 hz2 rfl (by decide) (.slice po c pc) X.length (nI X) rfl NX2.out ⟨g3, 0, none⟩ (n - c) k3_ (nI (mrg (cut R c n) (cut R n n))) rfl hlM (srcNL NM.out) (nI_one _) hb1 hb2 hs2 ?_))
       intro v3 w3 own3 gr3 _
       have NX3 : NL w3 W1.heap.size v3 (X ++ mrg (cut R c n) (cut R n n)) := by
        unfold NL
        rw [List.length_append, List.map_append, PP.out.1, HX.out.1]; exact own3
       obtain ⟨po3, pc3, e3, _⟩ := NX3.val
       have hl3 : (X ++ mrg (cut R c n) (cut R n n)).length = n := by rw [List.length_append, PP.out.1, HX.out.1]; exact Nat.add_sub_of_le (by omega)
       rw [hl3] at e3
       subst e3
       have NX4 := Lib.hid NX3
       have hW3 : Below W1.heap.size w2 w3 := ⟨gr3.os, gr3.tape, gr3.output, gr3.size, fun g hg => gr3.block g (by omega) (fun e => by have := (NX2.out.own e.symm).1; omega)⟩
       have HW3 := Lib.hid (HW2.out.trans hW3)
       have HX3 := Lib.hid (And.intro hl3 PP.out.2)
       have HJ3 : Hid (c + 2 * s = (j + 1) * (2 * s)) := by rw [Nat.add_mul, Nat.one_mul, ← HJ.out]; exact Lib.hid rfl
       clear own3 gr3 NX3 hl3 hW3 NX2 HW2 PP NM hX1 hb1 hb2 hlM NRw
       go_wp2_with fail
       go_roundg (n - (c + 2 * s))
       case measure => omega
       case rel => exact ⟨j + 1, c + 2 * s, n, po3, pc3, _, rfl, by first | rfl | (rw [← hea]; rfl) | (norm_cast; done) | (congr 1; omega), by omega, by omega, Nat.le_refl _, HJ3, HX3, NX4, HW3⟩
      ·have g4 : n = cc := by omega
       subst g4
       have k1 : ¬ ((c : Int) + (s : Int) ≤ (n : Int)) := by omega
       have k2 : ¬ ((c : Int) + 2 * (s : Int) ≤ (n : Int)) := by omega
       go_wp2_with fail
       have hgw : g < wr.heap.size := (NRw.out.own rfl).2
       have hRl := HR.out.1
       have NA := Lib.hid (cut_nb NRw.out hgw (a := c) (b := n) (o := c) (by omega) (by rw [hRl]; omega) (.inl rfl))
       have NB : Hid (Nb wr.heap.size wr g 0 0 (cut R n n)) := by
        have := cut_nb NRw.out hgw (a := n) (b := n) (o := 0) (by omega) (by rw [hRl]; omega) (.inr rfl)
        first | exact Lib.hid this | (rw [Nat.sub_self] at this; exact Lib.hid this)
       have hla : (cut R c n).length = n - c := cut_len (by rw [hRl]; omega)
       have hlb : (cut R n n).length = 0 := (cut_len (by rw [hRl]; omega)).trans (by omega)
       have hr : (n - c) + 0 = n - c := by omega
       have HLA := Lib.hid (And.intro hla (And.intro hlb hr))
       clear hla hlb hr hRl
       
       refine wp_region_up wr.heap.size 11 [(true, 0), (true, 1), (true, 2), (true, 3), (true, 4), (true, 5), (true, 6), (true, 7), (true, 8), (true, 9), (false, 10)] (by kernel_rfl) (by kernel_rfl) (fun _ _ d _ _ h => by cases d <;> exact h) ?_
       have hb : Below wr.heap.size wr wr.drew := (Below.refl _ _).drew
       iterate 10
        refine wpS_takeL rfl rfl ?_
        go_big_quiet_step (rfl)
        refine wpQuiet_nil ?_
       refine wpS_doL rfl ?_
       intro K hK
       go_wp2_with ((go_at_call 99; go_loud (refine (Merge_v g c g 0 (n - c) 0 (n - c) 0 (n - c) _ _ _ wr NA.out NB.out hb rfl HLA.out.1 HLA.out.2.1 HLA.out.2.2 (by omega) (by omega) (by omega)).mono ?_); rintro e w2 ⟨g3, k3_, rfl, nlM, hn⟩))
       replace hb := hb.trans (hn.mono hb.size)
       refine hK.out _ _ (up_iff.2 hb) ?_
       clear hK K
       clear hn
       refine wpS_nil ?_
       simp only [List.drop_succ_cons, List.drop_zero]
       have NX2 := Lib.hid (NX.out.of hb)
       have NM := Lib.hid nlM
       have HW2 := Lib.hid (HWr.out.trans (hb.mono HWr.out.size))
       have hs2 := HW2.out.size
       have hPP := pass_one hs1 HR.out.1 HR.out.2.1 HJ.out hat (mid := n) (en := n) (by omega) (by omega) HX.out.1 HX.out.2.1 HX.out.2.2
       have PP := Lib.hid hPP
       have hlM : (nI (mrg (cut R c n) (cut R n n))).length = (n - c) * 1 := by have h1 := nI_len (mrg (cut R c n) (cut R n n)); have h2 := PP.out.1; omega
       have hX1 := HX.out.1
       have hb1 : X.length + (n - c) ≤ maxLen := by unfold maxLen; omega
       have hb2 : (X.length + (n - c)) * 8 ≤ 140737488355328 := by omega
       clear hPP nlM hb NA NB HLA NX HWr hgw
       go_wp2_with (at_builtin; go_loud (refine wpList_append_lies _ rfl _ _ 29 rfl W1.heap.size 3 i0 (.int .i64 0) 1 8 Try.underlying29 hi hz0 hz1 hz2 rfl (by decide) (.slice po c pc) X.length (nI X) rfl NX2.out ⟨g3, 0, none⟩ (n - c) k3_ (nI (mrg (cut R c n) (cut R n n))) rfl hlM (srcNL NM.out) (nI_one _) hb1 hb2 hs2 ?_))
       intro v3 w3 own3 gr3 _
       have NX3 : NL w3 W1.heap.size v3 (X ++ mrg (cut R c n) (cut R n n)) := by
        unfold NL
        rw [List.length_append, List.map_append, PP.out.1, HX.out.1]; exact own3
       obtain ⟨po3, pc3, e3, _⟩ := NX3.val
       have hl3 : (X ++ mrg (cut R c n) (cut R n n)).length = n := by rw [List.length_append, PP.out.1, HX.out.1]; exact Nat.add_sub_of_le (by omega)
       rw [hl3] at e3
       subst e3
       have NX4 := Lib.hid NX3
       have hW3 : Below W1.heap.size w2 w3 := ⟨gr3.os, gr3.tape, gr3.output, gr3.size, fun g hg => gr3.block g (by omega) (fun e => by have := (NX2.out.own e.symm).1; omega)⟩
       have HW3 := Lib.hid (HW2.out.trans hW3)
       have HX3 := Lib.hid (And.intro hl3 PP.out.2)
       have HJ3 : Hid (c + 2 * s = (j + 1) * (2 * s)) := by rw [Nat.add_mul, Nat.one_mul, ← HJ.out]; exact Lib.hid rfl
       clear own3 gr3 NX3 hl3 hW3 NX2 HW2 PP NM hX1 hb1 hb2 hlM NRw
       go_wp2_with fail
       go_roundg (n - (c + 2 * s))
       case measure => omega
       case rel => exact ⟨j + 1, c + 2 * s, n, po3, pc3, _, rfl, by first | rfl | (rw [← hea]; rfl) | (norm_cast; done) | (congr 1; omega), by omega, by omega, Nat.le_refl _, HJ3, HX3, NX4, HW3⟩
     ·rcases Nat.lt_or_ge n (c + 2 * s) with g2 | g2
      ·rcases (show (n < cc ∨ c + s < n) ∨ (n = cc ∧ c + s = n) by omega) with g3 | g3
       ·obtain ⟨mid, hmid⟩ : ∃ m, c + s = m := ⟨_, rfl⟩
        have hma : (c : Int) + (s : Int) = (mid : Int) := by omega
        have k0 : (mid : Int) ≤ (n : Int) := by omega
        have k1 : (c : Int) + (s : Int) ≤ (n : Int) := by omega
        have k2 : ¬ ((c : Int) + 2 * (s : Int) ≤ (n : Int)) := by omega
        have k3 : ¬ cc = mid := by omega
        go_wp2_with fail
        have hgw : g < wr.heap.size := (NRw.out.own rfl).2
        have hRl := HR.out.1
        have NA := Lib.hid (cut_nb NRw.out hgw (a := c) (b := mid) (o := c) (by omega) (by rw [hRl]; omega) (.inl rfl))
        have NB : Hid (Nb wr.heap.size wr g mid (cc - mid) (cut R mid n)) := by
         have := cut_nb NRw.out hgw (a := mid) (b := n) (o := mid) (by omega) (by rw [hRl]; omega) (.inl rfl)
         first | exact Lib.hid this | (rw [Nat.sub_self] at this; exact Lib.hid this)
        have hla : (cut R c mid).length = mid - c := cut_len (by rw [hRl]; omega)
        have hlb : (cut R mid n).length = (n - mid) := (cut_len (by rw [hRl]; omega)).trans (by omega)
        have hr : (mid - c) + (n - mid) = n - c := by omega
        have HLA := Lib.hid (And.intro hla (And.intro hlb hr))
        clear hla hlb hr hRl
        
        refine wp_region_up wr.heap.size 11 [(true, 0), (true, 1), (true, 2), (true, 3), (true, 4), (true, 5), (true, 6), (true, 7), (true, 8), (true, 9), (false, 10)] (by kernel_rfl) (by kernel_rfl) (fun _ _ d _ _ h => by cases d <;> exact h) ?_
        have hb : Below wr.heap.size wr wr.drew := (Below.refl _ _).drew
        iterate 10
         refine wpS_takeL rfl rfl ?_
         go_big_quiet_step (rfl)
         refine wpQuiet_nil ?_
        refine wpS_doL rfl ?_
        intro K hK
        go_wp2_with ((go_at_call 99; go_loud (refine (Merge_v g c g mid (cc - c) (cc - mid) (mid - c) (n - mid) (n - c) _ _ _ wr NA.out NB.out hb rfl HLA.out.1 HLA.out.2.1 HLA.out.2.2 (by omega) (by omega) (by omega)).mono ?_); rintro e w2 ⟨g3, k3_, rfl, nlM, hn⟩))
        replace hb := hb.trans (hn.mono hb.size)
        refine hK.out _ _ (up_iff.2 hb) ?_
        clear hK K
        clear hn
        refine wpS_nil ?_
        simp only [List.drop_succ_cons, List.drop_zero]
        have NX2 := Lib.hid (NX.out.of hb)
        have NM := Lib.hid nlM
        have HW2 := Lib.hid (HWr.out.trans (hb.mono HWr.out.size))
        have hs2 := HW2.out.size
        have hPP := pass_one hs1 HR.out.1 HR.out.2.1 HJ.out hat (mid := mid) (en := n) (by omega) (by omega) HX.out.1 HX.out.2.1 HX.out.2.2
        have PP := Lib.hid hPP
        have hlM : (nI (mrg (cut R c mid) (cut R mid n))).length = (n - c) * 1 := by have h1 := nI_len (mrg (cut R c mid) (cut R mid n)); have h2 := PP.out.1; omega
        have hX1 := HX.out.1
        have hb1 : X.length + (n - c) ≤ maxLen := by unfold maxLen; omega
        have hb2 : (X.length + (n - c)) * 8 ≤ 140737488355328 := by omega
        clear hPP nlM hb NA NB HLA NX HWr hgw
        go_wp2_with (at_builtin; go_loud (refine wpList_append_lies _ rfl _ _ 29 rfl W1.heap.size 3 i0 (.int .i64 0) 1 8 Try.underlying29 hi hz0 hz1 hz2 rfl (by decide) (.slice po c pc) X.length (nI X) rfl NX2.out ⟨g3, 0, none⟩ (n - c) k3_ (nI (mrg (cut R c mid) (cut R mid n))) rfl hlM (srcNL NM.out) (nI_one _) hb1 hb2 hs2 ?_))
        intro v3 w3 own3 gr3 _
        have NX3 : NL w3 W1.heap.size v3 (X ++ mrg (cut R c mid) (cut R mid n)) := by
         unfold NL
         rw [List.length_append, List.map_append, PP.out.1, HX.out.1]; exact own3
        obtain ⟨po3, pc3, e3, _⟩ := NX3.val
        have hl3 : (X ++ mrg (cut R c mid) (cut R mid n)).length = n := by rw [List.length_append, PP.out.1, HX.out.1]; exact Nat.add_sub_of_le (by omega)
        rw [hl3] at e3
        subst e3
        have NX4 := Lib.hid NX3
        have hW3 : Below W1.heap.size w2 w3 := ⟨gr3.os, gr3.tape, gr3.output, gr3.size, fun g hg => gr3.block g (by omega) (fun e => by have := (NX2.out.own e.symm).1; omega)⟩
        have HW3 := Lib.hid (HW2.out.trans hW3)
        have HX3 := Lib.hid (And.intro hl3 PP.out.2)
        have HJ3 : Hid (c + 2 * s = (j + 1) * (2 * s)) := by rw [Nat.add_mul, Nat.one_mul, ← HJ.out]; exact Lib.hid rfl
        clear own3 gr3 NX3 hl3 hW3 NX2 HW2 PP NM hX1 hb1 hb2 hlM NRw
        go_wp2_with fail
        go_roundg (n - (c + 2 * s))
        case measure => omega
        case rel => exact ⟨j + 1, c + 2 * s, n, po3, pc3, _, rfl, by first | rfl | (rw [← hea]; rfl) | (norm_cast; done) | (congr 1; omega), by omega, by omega, Nat.le_refl _, HJ3, HX3, NX4, HW3⟩
       ·obtain ⟨g4, g5⟩ := g3
        subst g4
        have hma : (c : Int) + (s : Int) = (n : Int) := by omega
        have k1 : (c : Int) + (s : Int) ≤ (n : Int) := by omega
        have k2 : ¬ ((c : Int) + 2 * (s : Int) ≤ (n : Int)) := by omega
        go_wp2_with fail
        have hgw : g < wr.heap.size := (NRw.out.own rfl).2
        have hRl := HR.out.1
        have NA := Lib.hid (cut_nb NRw.out hgw (a := c) (b := n) (o := c) (by omega) (by rw [hRl]; omega) (.inl rfl))
        have NB : Hid (Nb wr.heap.size wr g 0 0 (cut R n n)) := by
         have := cut_nb NRw.out hgw (a := n) (b := n) (o := 0) (by omega) (by rw [hRl]; omega) (.inr rfl)
         first | exact Lib.hid this | (rw [Nat.sub_self] at this; exact Lib.hid this)
        have hla : (cut R c n).length = n - c := cut_len (by rw [hRl]; omega)
        have hlb : (cut R n n).length = 0 := (cut_len (by rw [hRl]; omega)).trans (by omega)
        have hr : (n - c) + 0 = n - c := by omega
        have HLA := Lib.hid (And.intro hla (And.intro hlb hr))
        clear hla hlb hr hRl
        
        refine wp_region_up wr.heap.size 11 [(true, 0), (true, 1), (true, 2), (true, 3), (true, 4), (true, 5), (true, 6), (true, 7), (true, 8), (true, 9), (false, 10)] (by kernel_rfl) (by kernel_rfl) (fun _ _ d _ _ h => by cases d <;> exact h) ?_
        have hb : Below wr.heap.size wr wr.drew := (Below.refl _ _).drew
        iterate 10
         refine wpS_takeL rfl rfl ?_
         go_big_quiet_step (rfl)
         refine wpQuiet_nil ?_
        refine wpS_doL rfl ?_
        intro K hK
        go_wp2_with ((go_at_call 99; go_loud (refine (Merge_v g c g 0 (n - c) 0 (n - c) 0 (n - c) _ _ _ wr NA.out NB.out hb rfl HLA.out.1 HLA.out.2.1 HLA.out.2.2 (by omega) (by omega) (by omega)).mono ?_); rintro e w2 ⟨g3, k3_, rfl, nlM, hn⟩))
        replace hb := hb.trans (hn.mono hb.size)
        refine hK.out _ _ (up_iff.2 hb) ?_
        clear hK K
        clear hn
        refine wpS_nil ?_
        simp only [List.drop_succ_cons, List.drop_zero]
        have NX2 := Lib.hid (NX.out.of hb)
        have NM := Lib.hid nlM
        have HW2 := Lib.hid (HWr.out.trans (hb.mono HWr.out.size))
        have hs2 := HW2.out.size
        have hPP := pass_one hs1 HR.out.1 HR.out.2.1 HJ.out hat (mid := n) (en := n) (by omega) (by omega) HX.out.1 HX.out.2.1 HX.out.2.2
        have PP := Lib.hid hPP
        have hlM : (nI (mrg (cut R c n) (cut R n n))).length = (n - c) * 1 := by have h1 := nI_len (mrg (cut R c n) (cut R n n)); have h2 := PP.out.1; omega
        have hX1 := HX.out.1
        have hb1 : X.length + (n - c) ≤ maxLen := by unfold maxLen; omega
        have hb2 : (X.length + (n - c)) * 8 ≤ 140737488355328 := by omega
        clear hPP nlM hb NA NB HLA NX HWr hgw
        go_wp2_with (at_builtin; go_loud (refine wpList_append_lies _ rfl _ _ 29 rfl W1.heap.size 3 i0 (.int .i64 0) 1 8 Try.underlying29 hi hz0 hz1 hz2 rfl (by decide) (.slice po c pc) X.length (nI X) rfl NX2.out ⟨g3, 0, none⟩ (n - c) k3_ (nI (mrg (cut R c n) (cut R n n))) rfl hlM (srcNL NM.out) (nI_one _) hb1 hb2 hs2 ?_))
        intro v3 w3 own3 gr3 _
        have NX3 : NL w3 W1.heap.size v3 (X ++ mrg (cut R c n) (cut R n n)) := by
         unfold NL
         rw [List.length_append, List.map_append, PP.out.1, HX.out.1]; exact own3
        obtain ⟨po3, pc3, e3, _⟩ := NX3.val
        have hl3 : (X ++ mrg (cut R c n) (cut R n n)).length = n := by rw [List.length_append, PP.out.1, HX.out.1]; exact Nat.add_sub_of_le (by omega)
        rw [hl3] at e3
        subst e3
        have NX4 := Lib.hid NX3
        have hW3 : Below W1.heap.size w2 w3 := ⟨gr3.os, gr3.tape, gr3.output, gr3.size, fun g hg => gr3.block g (by omega) (fun e => by have := (NX2.out.own e.symm).1; omega)⟩
        have HW3 := Lib.hid (HW2.out.trans hW3)
        have HX3 := Lib.hid (And.intro hl3 PP.out.2)
        have HJ3 : Hid (c + 2 * s = (j + 1) * (2 * s)) := by rw [Nat.add_mul, Nat.one_mul, ← HJ.out]; exact Lib.hid rfl
        clear own3 gr3 NX3 hl3 hW3 NX2 HW2 PP NM hX1 hb1 hb2 hlM NRw
        go_wp2_with fail
        go_roundg (n - (c + 2 * s))
        case measure => omega
        case rel => exact ⟨j + 1, c + 2 * s, n, po3, pc3, _, rfl, by first | rfl | (rw [← hea]; rfl) | (norm_cast; done) | (congr 1; omega), by omega, by omega, Nat.le_refl _, HJ3, HX3, NX4, HW3⟩
      ·obtain ⟨mid, hmid⟩ : ∃ m, c + s = m := ⟨_, rfl⟩
       have hma : (c : Int) + (s : Int) = (mid : Int) := by omega
       have k0 : (mid : Int) ≤ (n : Int) := by omega
       obtain ⟨en, hen⟩ : ∃ m, c + 2 * s = m := ⟨_, rfl⟩
       have hea : (c : Int) + 2 * (s : Int) = (en : Int) := by omega
       have k1 : (c : Int) + (s : Int) ≤ (n : Int) := by omega
       have k2 : (c : Int) + 2 * (s : Int) ≤ (n : Int) := by omega
       have k4 : (en : Int) ≤ (n : Int) := by omega
       have k3 : ¬ cc = mid := by omega
       go_wp2_with fail
       have hgw : g < wr.heap.size := (NRw.out.own rfl).2
       have hRl := HR.out.1
       have NA := Lib.hid (cut_nb NRw.out hgw (a := c) (b := mid) (o := c) (by omega) (by rw [hRl]; omega) (.inl rfl))
       have NB : Hid (Nb wr.heap.size wr g mid (cc - mid) (cut R mid en)) := by
        have := cut_nb NRw.out hgw (a := mid) (b := en) (o := mid) (by omega) (by rw [hRl]; omega) (.inl rfl)
        first | exact Lib.hid this | (rw [Nat.sub_self] at this; exact Lib.hid this)
       have hla : (cut R c mid).length = mid - c := cut_len (by rw [hRl]; omega)
       have hlb : (cut R mid en).length = (en - mid) := (cut_len (by rw [hRl]; omega)).trans (by omega)
       have hr : (mid - c) + (en - mid) = en - c := by omega
       have HLA := Lib.hid (And.intro hla (And.intro hlb hr))
       clear hla hlb hr hRl
       
       refine wp_region_up wr.heap.size 11 [(true, 0), (true, 1), (true, 2), (true, 3), (true, 4), (true, 5), (true, 6), (true, 7), (true, 8), (true, 9), (false, 10)] (by kernel_rfl) (by kernel_rfl) (fun _ _ d _ _ h => by cases d <;> exact h) ?_
       have hb : Below wr.heap.size wr wr.drew := (Below.refl _ _).drew
       iterate 10
        refine wpS_takeL rfl rfl ?_
        go_big_quiet_step (rfl)
        refine wpQuiet_nil ?_
       refine wpS_doL rfl ?_
       intro K hK
       go_wp2_with ((go_at_call 99; go_loud (refine (Merge_v g c g mid (cc - c) (cc - mid) (mid - c) (en - mid) (en - c) _ _ _ wr NA.out NB.out hb rfl HLA.out.1 HLA.out.2.1 HLA.out.2.2 (by omega) (by omega) (by omega)).mono ?_); rintro e w2 ⟨g3, k3_, rfl, nlM, hn⟩))
       replace hb := hb.trans (hn.mono hb.size)
       refine hK.out _ _ (up_iff.2 hb) ?_
       clear hK K
       clear hn
       refine wpS_nil ?_
       simp only [List.drop_succ_cons, List.drop_zero]
       have NX2 := Lib.hid (NX.out.of hb)
       have NM := Lib.hid nlM
       have HW2 := Lib.hid (HWr.out.trans (hb.mono HWr.out.size))
       have hs2 := HW2.out.size
       have hPP := pass_one hs1 HR.out.1 HR.out.2.1 HJ.out hat (mid := mid) (en := en) (by omega) (by omega) HX.out.1 HX.out.2.1 HX.out.2.2
       have PP := Lib.hid hPP
       have hlM : (nI (mrg (cut R c mid) (cut R mid en))).length = (en - c) * 1 := by have h1 := nI_len (mrg (cut R c mid) (cut R mid en)); have h2 := PP.out.1; omega
       have hX1 := HX.out.1
       have hb1 : X.length + (en - c) ≤ maxLen := by unfold maxLen; omega
       have hb2 : (X.length + (en - c)) * 8 ≤ 140737488355328 := by omega
       clear hPP nlM hb NA NB HLA NX HWr hgw
       go_wp2_with (at_builtin; go_loud (refine wpList_append_lies _ rfl _ _ 29 rfl W1.heap.size 3 i0 (.int .i64 0) 1 8 Try.underlying29 hi hz0 hz1 hz2 rfl (by decide) (.slice po c pc) X.length (nI X) rfl NX2.out ⟨g3, 0, none⟩ (en - c) k3_ (nI (mrg (cut R c mid) (cut R mid en))) rfl hlM (srcNL NM.out) (nI_one _) hb1 hb2 hs2 ?_))
       intro v3 w3 own3 gr3 _
       have NX3 : NL w3 W1.heap.size v3 (X ++ mrg (cut R c mid) (cut R mid en)) := by
        unfold NL
        rw [List.length_append, List.map_append, PP.out.1, HX.out.1]; exact own3
       obtain ⟨po3, pc3, e3, _⟩ := NX3.val
       have hl3 : (X ++ mrg (cut R c mid) (cut R mid en)).length = en := by rw [List.length_append, PP.out.1, HX.out.1]; exact Nat.add_sub_of_le (by omega)
       rw [hl3] at e3
       subst e3
       have NX4 := Lib.hid NX3
       have hW3 : Below W1.heap.size w2 w3 := ⟨gr3.os, gr3.tape, gr3.output, gr3.size, fun g hg => gr3.block g (by omega) (fun e => by have := (NX2.out.own e.symm).1; omega)⟩
       have HW3 := Lib.hid (HW2.out.trans hW3)
       have HX3 := Lib.hid (And.intro hl3 PP.out.2)
       have HJ3 : Hid (c + 2 * s = (j + 1) * (2 * s)) := by rw [Nat.add_mul, Nat.one_mul, ← HJ.out]; exact Lib.hid rfl
       clear own3 gr3 NX3 hl3 hW3 NX2 HW2 PP NM hX1 hb1 hb2 hlM NRw
       go_wp2_with fail
       go_roundg (n - (c + 2 * s))
       case measure => omega
       case rel => exact ⟨j + 1, c + 2 * s, en, po3, pc3, _, rfl, by first | rfl | (rw [← hea]; rfl) | (norm_cast; done) | (congr 1; omega), by omega, by omega, Nat.le_refl _, HJ3, HX3, NX4, HW3⟩
    ·have hcn : c = n := by omega
     clear hc
     subst hcn
     have HR2 : Hid (X.length = c ∧ Pcs (s * 2) X ∧ ∀ z, z ∈ X ↔ z ∈ L) := by
      refine Lib.hid ⟨HX.out.1, by rw [Nat.mul_comm]; exact HX.out.2.1, fun z => ?_⟩
      rw [HX.out.2.2, List.take_of_length_le (by rw [HR.out.1]; exact Nat.le_refl _)]
      exact HR.out.2.2 z
     have NX2 := Lib.hid (NX.out.low2 hsz1)
     have HW2 := Lib.hid (HW.out.trans (HWr.out.mono hsz1))
     clear HX NX HWr HW
     go_wp2_with fail
     go_roundg (c - s * 2)
     case measure => omega
     case rel => exact ⟨s * 2, po, pc, X, rfl, by first | rfl | norm_cast, by omega, by omega, Nat.le_refl _, HR2, NX2, HW2⟩
  ·have hR := pcs_end HR.out.2.1 (by rw [HR.out.1]; omega)
   have HAA := Lib.hid hR
   clear hR
   go_wp2
   go_ret
   exact ⟨_, R, rfl, NR.out, HAA.out, HR.out.2.2, HR.out.1, HW.out⟩
end Go.Proofs.Ytdlpfiiakmhnlaa

namespace Go.Proofs.Ytdlpfiiakmhnlaa
open Go.RowKit Go.Shelf

/-- the iterator g (captured: lb) tells encs 0, encs 1, .. up to N, as far as it is asked; it turns nothing below B; a round keeps what lies at or above B; it asks Kp between two rounds -/
def TellsV (P : Program) (gf : Nat) (lb : Array Value) (N : Nat) (E : Nat → Value → World → Prop) (B : Nat) (Kp : World → Prop) : Prop :=
  ∀ (m lid : Nat) (I : (Nat → Prop) → Nat → World → Prop) (Ix : Nat → World → Prop), (∀ G k W, I G k W → Kp W) → (∀ G k W, I G k W → ∀ g, G g → B ≤ g ∧ g < W.heap.size) → (∀ G k W W', I G k W → BelowX B G W W' → I G k W') → (∀ k W W', Ix k W → Below B W W' → Ix k W') →
    (∀ G k v W, k < N → I G k W → E k v W → YieldAt Fence.wide m P lid #[v] W fun e W' => ((e = .returned (.bool true) ∧ ∃ G', (∀ g, G' g → G g ∨ W.heap.size ≤ g) ∧ I G' (k + 1) W') ∨ (e = .returned (.bool false) ∧ Ix (k + 1) W')) ∧ AboveX B G W W') →
    ∀ W, B ≤ W.heap.size → I (fun _ => False) 0 W → CallsIn Fence.wide (m + 1) P gf (#[.func (.yield lid) #[] #[]] ++ lb) W fun e W' => (∃ v, e = .returned v) ∧ ((∃ G, I G N W') ∨ ∃ k, k ≤ N ∧ Ix k W')
set_option maxHeartbeats 1000000 in
theorem wpIn_rangeV {P : Program} {g : Operand} {ps : Array Tmp} {assign body : Code} {Q : Exit → Act → World → Prop} {a : Act} {w : World} {m : Nat} {gf : Nat} {lb : Array Value} {N : Nat} {E : Nat → Value → World → Prop} {Kp : World → Prop}
    (hg : a.eval g = .func (.func gf) #[] lb) (eg : ∀ args w, (callFunc gf args).run P w = .ok (.enter gf args) w)
    (hT : TellsV P gf lb N E (w.heap.size + 2) Kp) (hps : ps.size = 1)
    (J : (Nat → Prop) → Nat → World → Prop) (Jx : Code → Nat → World → Prop) (hG : ∀ G k W, J G k W → ∀ g, G g → w.heap.size + 2 ≤ g ∧ g < W.heap.size) (hst : ∀ G k W W', J G k W → BelowX w.heap.size G W W' → J G k W') (hxst : ∀ c k W W', Jx c k W → Below w.heap.size W W' → Jx c k W')
    (hKp : ∀ G k W, J G k W → Kp W) (h0 : J (fun _ => False) 0 w)
    (hround : ∀ (lid D k : Nat) (v : Value) (G : Nat → Prop) (W : World), k < N → J G k W → E k v W → lid = w.heap.size + 1 → D = w.heap.size → lid < W.heap.size → D < W.heap.size →
      assign.wpIn (Fence.wide.inRound lid) m P (Exit.then (fun a₁ w₁ => (Fix2 lid D W w₁ ∧ AboveX (w.heap.size + 2) G W w₁) ∧ ∀ w₂, OutL [lid] w₁ w₂ → body.wpIn (Fence.wide.inRound lid) m P (rPostX (w.heap.size + 2) lid D w₂ J Jx G k) a₁ w₂) (fun _ _ _ => False))
        { tmps := (ps.zip #[v]).foldl (fun t (p, v) => t.setIfInBounds p v) a.tmps, defers := [] } W)
    (hdone : ∀ D G W, D = w.heap.size → J G N W → W.heap[D]? = some (.deferred (some [])) → Q .normal { a with defers := { target := .collected D, args := #[] } :: a.defers } W)
    (hstop : ∀ D c k W, D = w.heap.size → Jx c k W → W.heap[D]? = some (.deferred (some [])) → c.wpIn Fence.wide (m + 2) P Q { a with defers := { target := .collected D, args := #[] } :: a.defers } W) :
    (Code.rangeFunc g ps assign body).wpIn Fence.wide (m + 2) P Q a w := by
  refine wpIn_rangeFunc ?_
  intro fn hfn
  obtain ⟨rec, hrec⟩ : ∃ rec : LoopState → Option Code → Loop, rec = fun st pe => { state := st, pending := pe, fn, tmps := a.tmps, params := ps, assign, body, defers := w.heap.size } := ⟨_, rfl⟩
  obtain ⟨W1, hW1⟩ : ∃ W1, (w.alloc (.deferred (some []))).alloc (.loop (rec .ready none)) = W1 := ⟨_, rfl⟩
  have hL1 : W1.heap[w.heap.size + 1]? = some (.loop (rec .ready none)) := by
    rw [← hW1]; have := World.alloc_heap_new (w.alloc (.deferred (some []))) (.loop (rec .ready none)); rwa [World.size_alloc] at this
  have hK1 : W1.heap[w.heap.size]? = some (.deferred (some [])) := by
    rw [← hW1]; exact (Below.heap_alloc _ _ _ (by simp)).trans (World.alloc_heap_new w _)
  have hb1 : Below w.heap.size w W1 := by rw [← hW1]; exact below_a2 _ _ _
  have hsz : W1.heap.size = w.heap.size + 2 := by rw [← hW1]; simp
  refine ⟨w.heap.size + 1, [{ target := .collected w.heap.size, args := #[] }], W1, { target := .fn (.func gf) lb, args := #[.func (.yield (w.heap.size + 1)) #[] #[]] }, W1, gf,
    #[.func (.yield (w.heap.size + 1)) #[] #[]] ++ lb, W1, ?_, ?_, ?_, ?_, fun h => absurd h (by decide), ?_⟩
  · rw [← hW1, hrec]; exact run_enterLoop_outer _ _ _ _ _
  · simp only [resolve, hg]
    simp [go_sem]
  · intro f' hf'; trivial
  · simp [invoke, go_sem, eg]
  · refine (hT m (w.heap.size + 1)
      (fun G k W => J G k W ∧ W.heap[w.heap.size + 1]? = some (.loop (rec .ready none)) ∧ W.heap[w.heap.size]? = some (.deferred (some [])))
      (fun k W => ∃ c, Jx c k W ∧ W.heap[w.heap.size + 1]? = some (.loop (rec .done (some c))) ∧ W.heap[w.heap.size]? = some (.deferred (some [])))
      (fun G k W h => hKp G k W h.1) (fun G k W h => hG G k W h.1) (fun G k W W' h hb => ⟨hst G k W W' h.1 (hb.mono (by omega)), (hb.1.block _ (by omega)).trans h.2.1, (hb.1.block _ (by omega)).trans h.2.2⟩)
      (fun k W W' h hb => by obtain ⟨c, h1, h2, h3⟩ := h; exact ⟨c, hxst c k W W' h1 (hb.mono (by omega)), (hb.block _ (by omega)).trans h2, (hb.block _ (by omega)).trans h3⟩)
      ?_ W1 (by omega) ⟨hst _ 0 _ _ h0 ⟨hb1, fun g hg => hg.elim⟩, hL1, hK1⟩).mono ?_
    · rintro G k v W hk ⟨hi, hl, hd⟩ hE
      have hlt : w.heap.size + 1 < W.heap.size := (Array.getElem?_eq_some_iff.1 hl).1
      have hy := run_yield (P := P) (args := #[v]) hl (by rw [hrec]; exact hps.symm)
      rw [hrec] at hy
      refine ⟨fn, _, assign, body, hy, roundIn_of_wpIn trivial (wpIn_mono (hround _ _ k v G W hk hi hE rfl rfl hlt (by omega)) ?_)⟩
      rintro e a1 w1 he
      cases e with
      | normal =>
        obtain ⟨⟨hf1, hab1⟩, hbody⟩ := he
        have hl1 : w1.heap[w.heap.size + 1]? = some (.loop (rec .ready none)) := hf1.1.trans hl
        have hd1 : w1.heap[w.heap.size]? = some (.deferred (some [])) := hf1.2.trans hd
        have hlt1 : w.heap.size + 1 < w1.heap.size := (Array.getElem?_eq_some_iff.1 hl1).1
        refine ⟨_, run_beginRound hl1 (by rw [hrec]), wpIn_mono (hbody _ (putObj_out _ _ _)) ?_⟩
        have hl2 : (w1.putObj (w.heap.size + 1) (.loop { rec .ready none with state := .busy })).heap[w.heap.size + 1]? = some (.loop { rec .ready none with state := .busy }) := World.putObj_heap_same hlt1
        have hd2 : (w1.putObj (w.heap.size + 1) (.loop { rec .ready none with state := .busy })).heap[w.heap.size]? = some (.deferred (some [])) := (World.putObj_heap_other (by omega)).trans hd1
        have fin : ∀ (jump : Option Code) (W3 : World), Fix2 (w.heap.size + 1) w.heap.size (w1.putObj (w.heap.size + 1) (.loop { rec .ready none with state := .busy })) W3 →
            (Instr.endRound (w.heap.size + 1) jump).run P W3 = .ok (.bool jump.isNone) (W3.putObj (w.heap.size + 1) (.loop (rec (if jump.isNone then .ready else .done) jump))) ∧
            (W3.putObj (w.heap.size + 1) (.loop (rec (if jump.isNone then .ready else .done) jump))).heap[w.heap.size + 1]? = some (.loop (rec (if jump.isNone then .ready else .done) jump)) ∧
            (W3.putObj (w.heap.size + 1) (.loop (rec (if jump.isNone then .ready else .done) jump))).heap[w.heap.size]? = some (.deferred (some [])) := fun jump W3 hk3 => by
          have hl3 := hk3.1.trans hl2
          have := run_endRound (P := P) jump hl3
          rw [hrec] at this ⊢
          exact ⟨this, World.putObj_heap_same (Array.getElem?_eq_some_iff.1 hl3).1, (World.putObj_heap_other (by omega)).trans (hk3.2.trans hd2)⟩
        have pb : ∀ (W3 : World) (o : Obj), w.heap.size ≤ W3.heap.size → Below w.heap.size W3 (W3.putObj (w.heap.size + 1) o) := fun W3 o h => (putObj_out W3 _ o).below h (by simp)
        have sz3 : ∀ W3 : World, Fix2 (w.heap.size + 1) w.heap.size (w1.putObj (w.heap.size + 1) (.loop { rec .ready none with state := .busy })) W3 → w.heap.size ≤ W3.heap.size := fun W3 h => by
          have := (Array.getElem?_eq_some_iff.1 (h.1.trans hl2)).1; omega
        rintro e a3 W3 hp
        have abv : ∀ o : Obj, AboveX (w.heap.size + 2) G (w1.putObj (w.heap.size + 1) (.loop { rec .ready none with state := .busy })) W3 → AboveX (w.heap.size + 2) G W (W3.putObj (w.heap.size + 1) o) := fun o h => ((hab1.trans (.ofAbove (.putObj _ (by omega) _))).trans h).trans (.ofAbove (.putObj _ (by omega) _))
        cases e with
        | normal =>
          obtain ⟨⟨hf3, G', hG', hJ3⟩, hab⟩ := hp
          obtain ⟨hr, hl4, hk4⟩ := fin none W3 hf3
          have hgg := hG _ _ _ hJ3
          refine ⟨_, _, hr, .inl ⟨rfl, G', fun g hg => ?_, hst _ _ _ _ hJ3 ⟨pb _ _ (sz3 _ hf3), fun g hg _ => World.putObj_heap_other (by have := hgg g hg; omega)⟩, hl4, hk4⟩, abv _ hab⟩
          rcases hG' g hg with h | h
          · exact .inl h
          · refine .inr (Nat.le_trans hab1.size ?_)
            simpa using h
        | ret =>
          obtain ⟨hp, hab⟩ := hp
          obtain ⟨hr, hl4, hk4⟩ := fin (some .ret) W3 hp.1
          exact ⟨_, _, hr, .inr ⟨rfl, .ret, hxst _ _ _ _ hp.2 (pb _ _ (sz3 _ hp.1)), hl4, hk4⟩, abv _ hab⟩
        | exit id =>
          obtain ⟨hp, hab⟩ := hp
          obtain ⟨hr, hl4, hk4⟩ := fin (some (.exit id)) W3 hp.1
          exact ⟨_, _, hr, .inr ⟨rfl, .exit id, hxst _ _ _ _ hp.2 (pb _ _ (sz3 _ hp.1)), hl4, hk4⟩, abv _ hab⟩
        | goto t =>
          obtain ⟨hp, hab⟩ := hp
          obtain ⟨hr, hl4, hk4⟩ := fin (some (.goto t)) W3 hp.1
          exact ⟨_, _, hr, .inr ⟨rfl, .goto t, hxst _ _ _ _ hp.2 (pb _ _ (sz3 _ hp.1)), hl4, hk4⟩, abv _ hab⟩
        | panic ch => exact hp.elim
        | outgrown => exact hp.elim
      | exit id => exact he.elim
      | goto t => exact he.elim
      | ret => exact he.elim
      | panic c => exact he.elim
      | outgrown => exact he.elim
    · rintro e W2 ⟨⟨v, rfl⟩, (⟨G, hi, hl, hd⟩ | ⟨k, _, c, hi, hl, hd⟩)⟩
      · have hlt : w.heap.size + 1 < W2.heap.size := (Array.getElem?_eq_some_iff.1 hl).1
        exact ⟨none, _, by have := run_endLoop (P := P) hl (by rw [hrec]; simp); rw [hrec] at this; exact this, hdone _ _ _ rfl (hst _ _ _ _ hi ⟨(putObj_out _ _ _).below (by omega) (by simp), fun g hg _ => World.putObj_heap_other (by have := hG _ _ _ hi g hg; omega)⟩) ((World.putObj_heap_other (by omega)).trans hd)⟩
      · have hlt : w.heap.size + 1 < W2.heap.size := (Array.getElem?_eq_some_iff.1 hl).1
        exact ⟨some c, _, by have := run_endLoop (P := P) hl (by rw [hrec]; simp); rw [hrec] at this; exact this, hstop _ c k _ rfl (hxst _ _ _ _ hi ((putObj_out _ _ _).below (by omega) (by simp))) ((World.putObj_heap_other (by omega)).trans hd)⟩
end Go.Proofs.Ytdlpfiiakmhnlaa

namespace Go.Proofs.Ytdlpfiiakmhnlaa
open Go.RowKit Go.Shelf
attribute [local go_sem] Oper.semAt_some undef

theorem Same_is (ob : Nat) (x y : Int) (w : World) (hb : Blk w ob #[cmpF] 120) : Calls Try.prog 89 #[.int .i64 x, .int .i64 y, ptr ob 0] w fun e w' => e = .returned (.bool (x == y)) ∧ Below w.heap.size w w' := by
  have c0 := hb.cell 0
  simp only [List.getElem?_toArray, List.getElem?_cons_zero] at c0
  obtain ⟨r, hr⟩ : ∃ r, cmpI x y = r := ⟨_, rfl⟩
  have HR := Lib.hid hr
  have he : (r == 0) = (x == y) := by
    rw [← hr]
    unfold cmpI
    by_cases h1 : x < y
    · have : ¬ x = y := by omega
      simp [h1, this]
    · by_cases h2 : y < x
      · have : ¬ x = y := by omega
        simp [h1, h2, this]
      · have : x = y := by omega
        simp [this]
  clear hr
  go_enter Try.func89, Try.ntmps89
  go_wp2_with fail
  refine (CmpI_is x y r HR.out w).mono ?_
  rintro e w2 ⟨rfl, h⟩
  have HH := Lib.hid h
  have HE := Lib.hid he
  clear h he
  go_wp2
  go_ret
  exact ⟨by rw [← HE.out]; rfl, HH.out⟩
abbrev smF (ob : Nat) : Value := .func (.func 89) #[] #[ptr ob 0]
theorem Runs_is (ao : Option Addr) (n c ob : Nat) (w : World) : Calls Try.prog 87 #[.slice ao n c, smF ob] w fun e w' => e = .returned (.func (.func 97) #[] #[ptr w.heap.size 0, ptr (w.heap.size + 1) 0]) ∧ Blk w' w.heap.size #[.slice ao n c] 29 ∧ Blk w' (w.heap.size + 1) #[smF ob] 118 ∧ Below w.heap.size w w' := by
  go_enter Try.func87, Try.ntmps87
  go_wp2
  go_ret
  exact ⟨rfl, (Blk.new _ _ _).alloc _, Blk.new1 _ _ _ _, below_a2 _ _ _⟩
/-- what the iterator tells: fresh slices that begin with one of each run -/
def rnE (B : Nat) (L : List Nat) (k : Nat) (v : Value) (W : World) : Prop := ∃ M, NL W B v M ∧ M[0]? = (dd L)[k]? ∧ k < (dd L).length
theorem Ns.cut {w : World} {g o cc : Nat} {L : List Nat} (h : Ns w (some ⟨g, o, none⟩) cc L) {f i : Nat} (hf : f < i) (hi : i ≤ L.length) : Ns w (some ⟨g, o + f, none⟩) (cc - f) (cut L f i) := by
  have hc := h.capl
  have hcb := h.capb
  have hl := cut_len (a := f) hi
  refine ⟨fun _ => ?_, by omega, by omega⟩
  obtain ⟨g', o', e, hg, hcell⟩ := h.ptr (by omega)
  injection e with e
  injection e with e1 e2 _
  subst e1
  subst e2
  refine ⟨g, o + f, rfl, hg, fun j x hx => ?_⟩
  rw [Nat.add_assoc]
  exact hcell _ x (cut_at hx)
structure RnK (b1 b2 ob n cc : Nat) (ao : Option Addr) (L : List Nat) (W : World) : Prop where
  l : Blk W b1 #[.slice ao n cc] 29
  s : Blk W b2 #[smF ob] 118
  o : Blk W ob #[cmpF] 120
  ns : Ns W ao cc L
theorem RnK.of {b1 b2 ob n cc : Nat} {ao : Option Addr} {L : List Nat} {W W' : World} (h : RnK b1 b2 ob n cc ao L W) (hb : Below W.heap.size W W') : RnK b1 b2 ob n cc ao L W' := ⟨h.l.of hb, h.s.of hb, h.o.of hb, h.ns.of hb⟩
set_option maxRecDepth 100000 in
set_option maxHeartbeats 4000000 in
theorem Runs1_any (m lid b1 b2 ob B n cc : Nat) (ao : Option Addr) (L : List Nat) (hL : L.length = n) (hn4 : n ≤ 40000) (I : (Nat → Prop) → Nat → World → Prop) (Ix : Nat → World → Prop)
    (hm : ∀ G k W, I G k W → RnK b1 b2 ob n cc ao L W) (hst : ∀ G k W W', I G k W → BelowX B G W W' → I G k W')
    (hY : ∀ G k v W, k < (dd L).length → I G k W → rnE B L k v W → YieldAt Fence.wide m Try.prog lid #[v] W fun e W' => ((e = .returned (.bool true) ∧ ∃ G', (∀ g, G' g → G g ∨ W.heap.size ≤ g) ∧ I G' (k + 1) W') ∨ (e = .returned (.bool false) ∧ Ix (k + 1) W')) ∧ AboveX B G W W')
    (W : World) (hB : B ≤ W.heap.size) (h0 : I (fun _ => False) 0 W) :
    CallsIn Fence.wide (m + 1) Try.prog 97 #[.func (.yield lid) #[] #[], ptr b1 0, ptr b2 0] W fun e W' => (∃ v, e = .returned v) ∧ ((∃ G, I G (dd L).length W') ∨ ∃ k, k ≤ (dd L).length ∧ Ix k W') := by
 refine callsIn_of_wp Try.func97 rfl trivial ?_ rfl
 simp only [Try.ntmps97, List.size_toArray, List.length_cons, List.length_nil, Nat.reduceAdd, Nat.reduceSub, Array.replicate_succ, Array.replicate_zero, List.push_toArray, List.append_toArray, List.nil_append, List.cons_append]
 have HH := Lib.hid (And.intro hm (And.intro hst hY))
 have H0 := Lib.hid h0
 have HL := Lib.hid hL
 obtain ⟨N, hN⟩ : ∃ N, (dd L).length = N := ⟨_, rfl⟩
 have HNN := Lib.hid hN
 clear hm hst hY h0 hL hN
 gi_wp2_with fail
 gi_loopg [4, 5] (n + 1) (fun gk s4 s5 wr => ∃ f i k : Nat, s4 = .int .i64 (f : Nat) ∧ s5 = .int .i64 (i : Nat) ∧ 1 ≤ i ∧ i ≤ n + 1 ∧ n + 1 - i ≤ gk ∧ Hid ((i ≤ n → RunAt L f i k) ∧ (i = n + 1 → k = (dd L).length)) ∧ Hid (∃ G, I G k wr) ∧ B ≤ wr.heap.size)
 case atStart =>
  refine ⟨0, 1, 0, rfl, rfl, by omega, by omega, by omega, Lib.hid ⟨fun h => run_0 (by rw [HL.out]; omega), fun h => ?_⟩, Lib.hid ⟨_, H0.out⟩, hB⟩
  have : n = 0 := by omega
  rw [List.eq_nil_of_length_eq_zero (HL.out.trans this)]; rfl
 case round =>
  clear H0 hB
  obtain ⟨f, i, k, rfl, rfl, hi1, hi2, hgk, HRUN, HI, hB⟩ := hrel
  obtain ⟨G, hI⟩ := HI.out
  have HIG := Lib.hid hI
  have KK := HH.out.1 _ _ _ hI
  have HKK := Lib.hid KK
  have r1 := KK.l.cell 0
  have r2 := KK.s.cell 0
  have l1 := KK.l.lt
  have l2 := KK.s.lt
  have cc1 := KK.ns.capl
  have cc2 := KK.ns.capb
  rw [HL.out] at cc1
  simp only [List.getElem?_toArray, List.getElem?_cons_zero] at r1 r2
  clear hI KK HI
  by_cases hin : i ≤ n
  ·have RUN := Lib.hid (HRUN.out.1 hin)
   obtain ⟨D_, x_, _, _, _, hxf, hfi⟩ := RUN.out
   clear hxf HRUN
   obtain ⟨g, o, hao, hg, hcell⟩ := HKK.out.ns.ptr (by rw [HL.out]; omega)
   subst hao
   by_cases hlt : i < n
   ·obtain ⟨x, hx⟩ : ∃ x, L[i - 1]? = some x := ⟨_, List.getElem?_eq_getElem (show i - 1 < L.length by rw [HL.out]; omega)⟩
    obtain ⟨y, hy⟩ : ∃ y, L[i]? = some y := ⟨_, List.getElem?_eq_getElem (show i < L.length by rw [HL.out]; omega)⟩
    have q1 := hcell _ x hx
    have q2 := hcell _ y hy
    have HXY := Lib.hid (And.intro hx hy)
    obtain ⟨j, hj⟩ : ∃ j, i = j + 1 := ⟨i - 1, by omega⟩
    subst hj
    rw [show j + 1 - 1 = j by omega] at q1
    have hij : ((j + 1 : Nat) : Int) - 1 = (j : Int) := by omega
    have hgt1 : ((j + 1 : Nat) : Int) < (n : Int) := by omega
    have hgt2 : (j : Int) + 1 < (n : Int) := by omega
    clear hx hy hcell
    gi_wp2_with fail
    refine wpIn_wide.2 ?_
    refine wp_region_up wr.heap.size 15 [(true, 0), (true, 1), (false, 2), (true, 3), (true, 4), (true, 5), (true, 6), (true, 7), (true, 8), (true, 9), (true, 10), (true, 11), (true, 12), (true, 13), (true, 14)] (by kernel_rfl) (by kernel_rfl) (fun _ _ d _ _ h => by cases d <;> exact h) ?_
    have hb : Below wr.heap.size wr wr.drew := (Below.refl _ _).drew
    iterate 2
     refine wpS_takeL rfl rfl ?_
     go_big_quiet_step (rfl)
     refine wpQuiet_nil ?_
    refine wpS_doL rfl ?_
    intro K hK
    go_wp2_with ((go_at_call 89; go_loud (refine (Same_is ob (x : Nat) (y : Nat) _ (HKK.out.o.of hb)).mono ?_); rintro e w2 ⟨rfl, hn⟩))
    try replace hb := hb.trans (hn.mono hb.size)
    refine hK.out _ _ (up_iff.2 hb) ?_
    clear hK K
    try clear hn
    iterate 12
     refine wpS_takeL rfl rfl ?_
     go_big_quiet_step (rfl)
     refine wpQuiet_nil ?_
    refine wpS_nil ?_
    simp only [List.drop_succ_cons, List.drop_zero]
    go_wp2_with fail
    refine (Same_is ob (x : Nat) (y : Nat) _ (HKK.out.o.of hb)).mono ?_
    rintro e V2 ⟨rfl, hn2⟩
    have hb2 := hb.trans (hn2.mono hb.size)
    have HI2 := Lib.hid (HH.out.2.1 _ k wr V2 HIG.out (.all hb2 hB))
    have HKK2 := Lib.hid (HKK.out.of hb2)
    have hB2 : B ≤ V2.heap.size := Nat.le_trans hB hb2.size
    clear hb hn2 hb2 HIG HKK r1 r2 l1 l2 q1 q2 hg hB
    have l1 := HKK2.out.l.lt
    by_cases hxy : x = y
    ·have he : ((x : Int) == (y : Int)) = true := by rw [hxy]; simp
     have HR2 : Hid ((j + 1 + 1 ≤ n → RunAt L f (j + 1 + 1) k) ∧ (j + 1 + 1 = n + 1 → k = (dd L).length)) := Lib.hid ⟨fun _ => run_same RUN.out (by omega) HXY.out.1 (by rw [hxy]; exact HXY.out.2), fun h => absurd h (by omega)⟩
     have HI3 : Hid (∃ G, I G k V2) := Lib.hid ⟨_, HI2.out⟩
     clear RUN HI2 HKK2 l1
     go_wp2_with fail
     gi_wp2_with fail
     gi_roundg (n + 1 - (j + 1 + 1))
     case measure => omega
     case rel => exact ⟨f, j + 1 + 1, k, rfl, by first | rfl | norm_cast, by omega, by omega, Nat.le_refl _, HR2, HI3, hB2⟩
    ·have he : ((x : Int) == (y : Int)) = false := by simp; omega
     go_wp2_with fail
     obtain ⟨htell, hkN⟩ := run_tell RUN.out (by omega) (.inr ⟨x, y, HXY.out.1, HXY.out.2, hxy⟩)
     have NSC := (HKK2.out.ns.cut (f := f) (i := j + 1) hfi (by rw [HL.out]; omega))
     have r3 := HKK2.out.l.cell 0
     simp only [List.getElem?_toArray, List.getElem?_cons_zero] at r3
     have hccf : ¬ cc = f := by omega
     have b1f : (f : Int) ≤ ((j + 1 : Nat) : Int) := by omega
     have b2f : ((j + 1 : Nat) : Int) ≤ (cc : Int) := by omega
     have hclen : (cut L f (j + 1)).length = j + 1 - f := cut_len (by rw [HL.out]; omega)
     gi_wp2_with fail
     refine ⟨trivial, callsIn_wide.2 ?_⟩
     refine (CloneI_n _ _ (j + 1 - f) _ V2 NSC hclen (by omega)).mono ?_
     rintro e V3 ⟨v3, rfl, nl3, hb3⟩
     have hI3 := HH.out.2.1 _ k V2 V3 HI2.out (.all hb3 hB2)
     have hB3 : B ≤ V3.heap.size := Nat.le_trans hB2 hb3.size
     have hfl : (cut L f (j + 1))[0]? = (dd L)[k]? := by
      rw [htell]
      unfold cut
      rw [List.getElem?_take_of_lt (by omega), List.getElem?_drop, Nat.add_zero]
     have hE : rnE B L k v3 V3 := ⟨_, nl3.low2 hB2, hfl, hkN⟩
     obtain ⟨fn, tmps, assign, body, hy, hR⟩ := HH.out.2.2 _ k v3 _ hkN hI3 hE
     obtain ⟨va, vc, hv3, _⟩ := nl3.val
     subst hv3
     have HKN := Lib.hid hkN
     have HB3 := Lib.hid hB3
     clear htell NSC r3 nl3 hb3 hI3 hE HI2 HKK2 hfl hkN hclen hB3
     gi_wp2
     refine hR.mono ?_
     rintro e V4 ⟨(⟨rfl, G4, _, hI4⟩ | ⟨rfl, hx4⟩), hab⟩
     ·have HI4 : Hid (∃ G, I G (k + 1) V4) := Lib.hid ⟨_, hI4⟩
      have hB4 : B ≤ V4.heap.size := Nat.le_trans HB3.out hab.size
      have HR4 : Hid ((j + 1 + 1 ≤ n → RunAt L (j + 1) (j + 1 + 1) (k + 1)) ∧ (j + 1 + 1 = n + 1 → k + 1 = (dd L).length)) := Lib.hid ⟨fun _ => run_new RUN.out (by omega) HXY.out.1 HXY.out.2 hxy, fun h => absurd h (by omega)⟩
      clear hI4 hab hy hR RUN HB3
      gi_wp2_with fail
      gi_roundg (n + 1 - (j + 1 + 1))
      case measure => omega
      case rel => exact ⟨j + 1, j + 1 + 1, k + 1, rfl, by first | rfl | norm_cast, by omega, by omega, Nat.le_refl _, HR4, HI4, hB4⟩
     ·have HX := Lib.hid hx4
      clear hx4 hab hy hR
      gi_wp2
      refine bodyPost_ret (results_none rfl _ _ _) rfl ?_
      exact ⟨⟨_, rfl⟩, .inr ⟨k + 1, HKN.out, HX.out⟩⟩
   ·have hie : i = n := by omega
    have hnl : ¬ (i : Int) < (n : Int) := by omega
    have hi4 : (i : Int) ≤ 40000 := by omega
    have HIE := Lib.hid hie
    clear hie
    clear hcell
    gi_wp2_with fail
    refine wpIn_wide.2 ?_
    refine wp_region_up wr.heap.size 15 [(true, 0), (true, 1), (false, 2), (true, 3), (true, 4), (true, 5), (true, 6), (true, 7), (true, 8), (true, 9), (true, 10), (true, 11), (true, 12), (true, 13), (true, 14)] (by kernel_rfl) (by kernel_rfl) (fun _ _ d _ _ h => by cases d <;> exact h) ?_
    have hb : Below wr.heap.size wr wr.drew := (Below.refl _ _).drew
    iterate 2
     refine wpS_takeL rfl rfl ?_
     go_big_quiet_step (rfl)
     refine wpQuiet_nil ?_
    refine wpS_doL rfl ?_
    intro K hK
    go_wp2_with (fail)
    try replace hb := hb.trans (hn.mono hb.size)
    refine hK.out _ _ (up_iff.2 hb) ?_
    clear hK K
    try clear hn
    iterate 12
     refine wpS_takeL rfl rfl ?_
     go_big_quiet_step (rfl)
     refine wpQuiet_nil ?_
    refine wpS_nil ?_
    simp only [List.drop_succ_cons, List.drop_zero]

    go_wp2_with fail
    refine nameIn ?_
    intro V2 hV2
    have hb2 : Below wr.heap.size wr V2 := by rw [hV2]; exact hb
    have HI2 := Lib.hid (HH.out.2.1 _ k wr V2 HIG.out (.all hb2 hB))
    have HKK2 := Lib.hid (HKK.out.of hb2)
    have hB2 : B ≤ V2.heap.size := Nat.le_trans hB hb2.size
    clear hb hV2 hb2 HIG HKK r1 r2 l1 l2 hg hB
    have l1 := HKK2.out.l.lt
    obtain ⟨htell, hkN⟩ := run_tell RUN.out (by omega) (.inl (by rw [HL.out]; exact HIE.out))
    have NSC := (HKK2.out.ns.cut (f := f) (i := i) hfi (by rw [HL.out]; omega))
    have r3 := HKK2.out.l.cell 0
    simp only [List.getElem?_toArray, List.getElem?_cons_zero] at r3
    have hccf : ¬ cc = f := by omega
    have b1f : (f : Int) ≤ ((i : Nat) : Int) := by omega
    have b2f : ((i : Nat) : Int) ≤ (cc : Int) := by omega
    have hclen : (cut L f (i)).length = i - f := cut_len (by rw [HL.out]; omega)
    gi_wp2_with fail
    refine ⟨trivial, callsIn_wide.2 ?_⟩
    refine (CloneI_n _ _ (i - f) _ V2 NSC hclen (by omega)).mono ?_
    rintro e V3 ⟨v3, rfl, nl3, hb3⟩
    have hI3 := HH.out.2.1 _ k V2 V3 HI2.out (.all hb3 hB2)
    have hB3 : B ≤ V3.heap.size := Nat.le_trans hB2 hb3.size
    have hfl : (cut L f (i))[0]? = (dd L)[k]? := by
     rw [htell]
     unfold cut
     rw [List.getElem?_take_of_lt (by omega), List.getElem?_drop, Nat.add_zero]
    have hE : rnE B L k v3 V3 := ⟨_, nl3.low2 hB2, hfl, hkN⟩
    obtain ⟨fn, tmps, assign, body, hy, hR⟩ := HH.out.2.2 _ k v3 _ hkN hI3 hE
    obtain ⟨va, vc, hv3, _⟩ := nl3.val
    subst hv3
    have HKN := Lib.hid hkN
    have HB3 := Lib.hid hB3
    clear htell NSC r3 nl3 hb3 hI3 hE HI2 HKK2 hfl hkN hclen hB3
    gi_wp2
    refine hR.mono ?_
    rintro e V4 ⟨(⟨rfl, G4, _, hI4⟩ | ⟨rfl, hx4⟩), hab⟩
    ·have HI4 : Hid (∃ G, I G (k + 1) V4) := Lib.hid ⟨_, hI4⟩
     have hB4 : B ≤ V4.heap.size := Nat.le_trans HB3.out hab.size
     have HR4 : Hid ((i + 1 ≤ n → RunAt L (i) (i + 1) (k + 1)) ∧ (i + 1 = n + 1 → k + 1 = (dd L).length)) := Lib.hid ⟨fun h => absurd h (by omega), fun _ => run_end (by rw [HL.out, ← HIE.out]; exact RUN.out)⟩
     clear hI4 hab hy hR RUN HB3
     gi_wp2_with fail
     gi_roundg (n + 1 - (i + 1))
     case measure => omega
     case rel => exact ⟨i, i + 1, k + 1, rfl, by first | rfl | norm_cast, by omega, by omega, Nat.le_refl _, HR4, HI4, hB4⟩
    ·have HX := Lib.hid hx4
     clear hx4 hab hy hR
     gi_wp2
     refine bodyPost_ret (results_none rfl _ _ _) rfl ?_
     exact ⟨⟨_, rfl⟩, .inr ⟨k + 1, HKN.out, HX.out⟩⟩
  ·have hie : i = n + 1 := by omega
   have HF := Lib.hid (show ∃ G, I G (dd L).length wr by rw [← HRUN.out.2 hie]; exact ⟨G, HIG.out⟩)
   clear HIG
   gi_wp2
   go_end0
   exact ⟨⟨_, rfl⟩, .inl HF.out⟩
theorem Runs1_tells (b1 b2 ob n cc : Nat) (ao : Option Addr) (L : List Nat) (hL : L.length = n) (hn : n ≤ 40000) (B : Nat) :
    TellsV Try.prog 97 #[ptr b1 0, ptr b2 0] (dd L).length (rnE B L) B (RnK b1 b2 ob n cc ao L) :=
  fun m lid I Ix hK _ hst _ hY W hB h0 => Runs1_any m lid b1 b2 ob B n cc ao L hL hn I Ix hK hst hY W hB h0
end Go.Proofs.Ytdlpfiiakmhnlaa

namespace Go.Proofs.Ytdlpfiiakmhnlaa
open Go.RowKit Go.Shelf
section
variable {P : Program} {ops : Array Oper} {Q : Exit → Act → World → Prop} {md : Region.Mode} {m : Nat} {lid : Nat}

theorem upon_in {o : Oper} {a : Act} {next : Act → World → Prop} {r : Result Next} (h : o.upon P a next Q r) : o.uponIn (Fence.wide.inRound lid) m P a next Q r := by
  cases r with
  | ok n w' =>
    cases n <;> first
      | exact h
      | exact ⟨fun h => absurd (show false = true from h) (by decide), CallsIn.inRound lid (callsIn_wide.2 (show Calls P _ _ _ _ from h))⟩
      | exact ⟨fun h => absurd (show false = true from h) (by decide), fun c cs _ => let ⟨v, w'', r, s⟩ := (show Rows P _ _ _ _ from h) c cs; ⟨v, w'', r, stepsIn_wide.2 s⟩⟩
      | exact h.elim
  | halt x w' => cases x <;> exact h
def noDefer (ops : Array Oper) : Bool := ops.all fun o => match o.op with | .defer _ => false | _ => true
theorem noDefer_at {i : Nat} {o : Oper} (h : noDefer ops = true) (ho : ops[i]? = some o) : ∀ c, o.op ≠ .defer c := by
  intro c hc
  unfold noDefer at h
  rw [Array.all_eq_true] at h
  obtain ⟨hi, e⟩ := Array.getElem?_eq_some_iff.1 ho
  have := h i hi
  rw [e, hc] at this
  cases this
theorem wpOp_in {i : Nat} {K : Act → World → Prop} {a : Act} {w : World} (hd : noDefer ops = true) (hq : ∀ a w, ¬ Q .outgrown a w) (h : wpOp P ops Q i K a w) : wpOpIn (Fence.wide.inRound lid) m P ops Q i K a w := by
  unfold wpOp at h
  unfold wpOpIn
  cases ho : ops[i]? with
  | none => rw [ho] at h; exact h
  | some o =>
    rw [ho] at h
    simp only at h ⊢
    split
    · rename_i hw
      rw [if_pos hw] at h
      rcases h with h | ⟨_, a0, w0, hq0⟩
      · refine ⟨fun _ _ => trivial, ?_⟩
        rw [show (Fence.wide.inRound lid).round = some lid from rfl, Oper.semAt_some lid _ o (noDefer_at hd ho)]
        exact upon_in h
      · exact absurd hq0 (hq a0 w0)
    · rename_i hw
      rw [if_neg hw] at h
      exact ⟨fun _ _ => trivial, h⟩
theorem wpAny_in (hd : noDefer ops = true) (hq : ∀ a w, ¬ Q .outgrown a w) : ∀ (fuel : Nat) (listed : Array Bool) (a : Act) (w : World), wpAny P md ops Q fuel listed a w → wpAnyIn (Fence.wide.inRound lid) m P md ops Q fuel listed a w
  | 0, _, _, _, h => h
  | fuel + 1, _, _, _, h => ⟨h.1, fun i hi => wpOpIn_mono (fun a' w' h' => wpAny_in hd hq fuel _ a' w' h') (wpOp_in hd hq (h.2 i hi))⟩

theorem wpIn_region_sched {id : Nat} {a : Act} {w : World} {l : List Oper} (n : Nat) (σ : List (Bool × Nat)) (C : World → Prop) (hm : P.follows .mixedOrders = true)
    (hB : (Region.noSelect l.toArray && headB .any l.toArray n && decide (σ.length = n) && decide (n ≤ l.length) && schedB .any l.toArray n σ (Array.replicate l.length false)) = true)
    (hd : noDefer l.toArray = true) (hq : ∀ a w, ¬ Q .outgrown a w)
    (hQ : ∀ c a d v w, Q (.panic c) (Act.put a d v) w → Q (.panic c) a w) (hC : C { w with drawn := w.drawn + 1 })
    (h : wpS P l.toArray C Q (fun a' w' => wpList P l.toArray Q (l.drop n) a' w') σ a { w with drawn := w.drawn + 1 }) : (Code.region id l.toArray true).wpIn (Fence.wide.inRound lid) m P Q a w := by
  simp only [Bool.and_eq_true, decide_eq_true_eq] at hB
  obtain ⟨⟨⟨⟨hsel, hh⟩, hlen⟩, hn⟩, hs⟩ := hB
  have hdl : (l.drop n).length = l.toArray.size - n := by simp
  have hrep : (Array.replicate l.length false) = Array.replicate l.toArray.size false := by simp
  rw [hrep] at hs
  have inv0 : HeadInv .any l.toArray n (Array.replicate l.toArray.size false) :=
    ⟨by simp, fun j oj _ hl => (by rw [getD_replicate_false] at hl; cases hl), fun t _ ht => getD_in (by simpa using ht) (getD_replicate_false _ _)⟩
  have H := wpAnyHL_of_sched (P := P) (C := C) hsel hh hQ σ _ a _ inv0 hs hC h
  refine wpIn_region_any hm (wpAny_in hd hq _ _ _ _ ?_)
  have := wpAny_of_headH (g := l.toArray.size - n) (fun listed a' w' hL => by
    have := wpAny_of_seq (md := .any) (Q' := Q) (l.drop n) n listed a' w' (fun j => by simp [List.getElem?_drop]) (by rw [hdl]; exact hL.1) hL.2
    rwa [hdl] at this) _ _ _ _ H
  have e : σ.length + (l.toArray.size - n) = l.toArray.size := by simp; omega
  rw [e] at this
  exact this
theorem wpIn_region_up {id : Nat} {a : Act} {w : World} {l : List Oper} (B n : Nat) (σ : List (Bool × Nat)) (hm : P.follows .mixedOrders = true)
    (hB : (Region.noSelect l.toArray && headB .any l.toArray n && decide (σ.length = n) && decide (n ≤ l.length) && schedB .any l.toArray n σ (Array.replicate l.length false)) = true)
    (hd : noDefer l.toArray = true) (hq : ∀ a w, ¬ Q .outgrown a w)
    (hQ : ∀ c a d v w, Q (.panic c) (Act.put a d v) w → Q (.panic c) a w)
    (h : wpS P l.toArray (fun w' => ∃ u : UpTo B w, w' = u.w) Q (fun a' w' => wpList P l.toArray Q (l.drop n) a' w') σ a w.drew) : (Code.region id l.toArray true).wpIn (Fence.wide.inRound lid) m P Q a w :=
  wpIn_region_sched n σ _ hm hB hd hq hQ (up_iff.2 (Below.refl B w).drew) h
end
end Go.Proofs.Ytdlpfiiakmhnlaa

namespace Go.Proofs.Ytdlpfiiakmhnlaa
open Go.RowKit Go.Shelf
attribute [local go_sem] Oper.semAt_some undef

theorem drewB {w : World} {b : Nat} {c : Array Value} {t : TypeId} (h : Blk w b c t) : Blk w.drew b c t := h
theorem Sort_n (ao : Option Addr) (cap n : Nat) (L : List Nat) (w : World) (h : Ns w ao cap L) (hl : L.length = n) (hn : n ≤ 40000) :
    Calls Try.prog 88 #[.slice ao n cap, cmpF] w fun e w' => ∃ v R, e = .returned v ∧ NL w' w.heap.size v R ∧ Asc R ∧ (∀ z, z ∈ R ↔ z ∈ L) ∧ R.length = n ∧ Below w.heap.size w w' := by
  subst hl
  exact Sort_is ao cap L w h hn
set_option maxRecDepth 100000 in
set_option maxHeartbeats 4000000 in
theorem Once_is (ao : Option Addr) (cap n : Nat) (L : List Nat) (w : World) (h : Ns w ao cap L) (hl : L.length = n) (hn4 : n ≤ 40000) :
    Calls Try.prog 65 #[.slice ao n cap, cmpF] w fun e w' => ∃ v R, e = .returned v ∧ NL w' w.heap.size v R ∧ R.Pairwise (· < ·) ∧ (∀ z, z ∈ R ↔ z ∈ L) ∧ Below w.heap.size w w' := by
 have HP := Lib.hid h
 have HLN := Lib.hid hl
 obtain ⟨i0, hi, hz0, hz1, hz2⟩ := info_parts info_int
 clear h hl
 refine (callsIn_wide (n := 3)).1 ?_
 refine callsIn_of_wp_marks Try.func65 rfl trivial ?_ rfl
 simp only [Try.ntmps65, List.size_toArray, List.length_cons, List.length_nil, Nat.reduceAdd, Nat.reduceSub, Array.replicate_succ, Array.replicate_zero, List.push_toArray, List.append_toArray, List.nil_append, List.cons_append]
 gi_wp2_with fail
 refine ⟨trivial, callsIn_wide.2 ?_⟩
 refine calls_w ?_
 intro V hV
 have kB : Hid (Blk V w.heap.size #[cmpF] 120) := by rw [hV]; exact Lib.hid ((Blk.new w _ _).alloc _)
 have kO : Hid (Blk V (w.heap.size + 1) #[.slice none 0 0] 29) := by rw [hV]; exact Lib.hid (Blk.new1 w _ _ _)
 have bV : Hid (Below w.heap.size w V) := by rw [hV]; exact Lib.hid (below_a2 _ _ _)
 have hsV : V.heap.size = w.heap.size + 2 := by rw [hV]; simp
 obtain ⟨ob, eob⟩ : ∃ b, w.heap.size = b := ⟨_, rfl⟩
 obtain ⟨out, eout⟩ : ∃ b, w.heap.size + 1 = b := ⟨_, rfl⟩
 rw [eout] at kO ⊢
 rw [eob] at kB ⊢
 have o1 : ob < out := by omega
 have o2 : w.heap.size ≤ ob := by omega
 have o3 : out < V.heap.size := by omega
 clear hV eob eout
 refine (Sort_n ao cap n L V (HP.out.of bV.out) HLN.out hn4).mono ?_
 rintro e V2 ⟨v, S, rfl, nl, asc, mem, len, hb⟩
 obtain ⟨so, sc, e, hsc1, hsc2, _⟩ := nl.val
 rw [len] at e hsc1
 subst e
 have NS := Lib.hid nl
 have ASC := Lib.hid asc
 have MEM := Lib.hid mem
 have LEN := Lib.hid len
 have kB2 := Lib.hid (kB.out.of hb)
 have kO2 := Lib.hid (kO.out.of hb)
 have b2 := Lib.hid (bV.out.trans (hb.mono bV.out.size))
 have hs2 := hb.size
 clear nl asc mem len hb kB kO bV
 gi_wp2_with fail
 refine ⟨trivial, callsIn_wide.2 ?_⟩
 refine (Runs_is so n sc ob V2).mono ?_
 rintro e V3 ⟨rfl, k1, k2, hb⟩
 have K1 := Lib.hid k1
 have K2 := Lib.hid k2
 have kB3 := Lib.hid (kB2.out.of hb)
 have kO3 := Lib.hid (kO2.out.of hb)
 have NS3 := Lib.hid (NS.out.of hb)
 have b3 := Lib.hid (b2.out.trans (hb.mono b2.out.size))
 have hs3 := k2.lt
 obtain ⟨rb, erb⟩ : ∃ b, V2.heap.size = b := ⟨_, rfl⟩
 obtain ⟨rs, ers⟩ : ∃ b, V2.heap.size + 1 = b := ⟨_, rfl⟩
 rw [ers] at K2 ⊢
 rw [erb] at K1 ⊢
 have o4 : out < rb := by omega
 have o5 : rb < rs := by omega
 have o6 : rs < V3.heap.size := by omega
 clear hb k1 k2 kB2 kO2 b2 erb ers hs3 NS
 gi_wp2_with fail
 obtain ⟨N, hN⟩ : ∃ N, (dd S).length = N := ⟨_, rfl⟩
 have HNN := Lib.hid hN
 have hN4 : N ≤ 40000 := by have := dd_len S; rw [hN, LEN.out] at this; omega
 have hT := Runs1_tells rb rs ob n sc so S LEN.out hn4 (V3.heap.size + 2)
 rw [hN] at hT
 clear hN
 have stF : ∀ W W', Fr V3 W (fun b => b = out) → Below V3.heap.size W W' → Blk W out #[.slice none 0 0] 29 → True := fun _ _ _ _ _ => trivial
 refine wpIn_rangeV (m := 1) (gf := 97) (lb := #[ptr rb 0, ptr rs 0]) (N := N) (E := rnE (V3.heap.size + 2) S) (Kp := RnK rb rs ob n sc so S) rfl (fun args w => by go_simp) hT rfl
  (fun G k W => ∃ v, Blk W out #[v] 29 ∧ NL W (V3.heap.size + 2) v ((dd S).take k) ∧ Fr V3 W (fun b => b = out) ∧ ∀ g, G g ↔ v.ownBlock = some g)
  (fun _ _ _ => False) ?hg ?stable (fun _ _ _ _ h _ => h.elim) ?keeps ?start ?round ?done (fun _ _ _ _ _ h _ => h.elim)
 case hg =>
  rintro G k W ⟨v, j1, j2, j3, j4⟩ g hg
  exact j2.own ((j4 g).1 hg)
 case stable =>
  rintro G k W W' ⟨v, j1, j2, j3, j4⟩ ⟨hbl, hbg⟩
  exact ⟨v, j1.below hbl (by omega), j2.keep fun g hg => hbg g ((j4 g).2 hg) (j2.own hg).2, j3.trans (S' := fun b => V3.heap.size ≤ b) ⟨hbl.os, hbl.tape, hbl.output, hbl.size, fun k _ hk => hbl.block k (by omega)⟩ (fun _ h => .inr h), j4⟩
 case keeps =>
  rintro G k W ⟨v, j1, j2, j3, j4⟩
  refine ⟨j3.blk K1.out (by omega), j3.blk K2.out (by omega), j3.blk kB3.out (by omega), ?_⟩
  have hk := NS3.out.keep fun g hg => j3.block g (NS3.out.own hg).2 (by have := (NS3.out.own hg).1; omega)
  obtain ⟨ao', c', e, hns⟩ := Ns.ofNL hk
  injection e with e1 e2 e3
  rw [e1, e3]; exact hns
 case start => exact ⟨_, kO3.out, NL.none, ⟨rfl, rfl, rfl, Nat.le_refl _, fun _ _ _ => rfl⟩, fun g => ⟨fun h => h.elim, fun h => by cases h⟩⟩
 case round =>
  rintro l2 D2 k ve G W2 hk ⟨v, j1, j2, j3, j4⟩ hE g1 g2 g3 g4
  obtain ⟨M, hnm, hm0, hkN⟩ := hE
  obtain ⟨x, hx⟩ : ∃ x, (dd S)[k]? = some x := ⟨_, List.getElem?_eq_getElem hkN⟩
  rw [hx] at hm0
  have hM0 : 0 < M.length := (List.getElem?_eq_some_iff.1 hm0).1
  obtain ⟨mo, mc, e, hmc1, hmc2, hmp⟩ := hnm.val
  obtain ⟨mg, rfl, hmB, hmg, hmcell⟩ := hmp hM0
  subst e
  have q0 := hmcell 0 x hm0
  obtain ⟨ml, hml⟩ : ∃ l, M.length = l := ⟨_, rfl⟩
  rw [hml] at hM0 hmc1 ⊢
  have JJ := Lib.hid (And.intro j1 (And.intro j2 (And.intro j3 j4)))
  have HX := Lib.hid hx
  have Q0 := Lib.hid q0
  clear j1 j2 j3 j4 hx hnm hm0 hkN hmp hmcell q0 hml hT
  gi_wp2_with fail
  refine ⟨⟨Fix2.of (OutL.refl [] _) g3 g4 (by simp) (by simp), AboveX.refl _ _ _⟩, ?_⟩
  intro W3 hW3
  obtain ⟨j1, j2, j3, j4⟩ := JJ.out
  have hs3w := hW3.size
  have kOw : Blk W3 out #[v] 29 := j1.outl hW3 (by simp; omega)
  have nlw : NL W3 (V3.heap.size + 2) v ((dd S).take k) := j2.keep fun g hg => hW3.block g (j2.own hg).2 (by have := (j2.own hg).1; simp; omega)
  have q0 : W3.cell? ⟨mg, 0, none⟩ = some (.int .i64 (x : Nat)) := (World.cell?_of_block (w := W2) (a := ⟨mg, 0, none⟩) (hW3.block mg hmg (by simp; omega))).trans Q0.out
  have hmw : mg < W3.heap.size := by omega
  have FF := Lib.hid (j3.trans (S' := fun b => V3.heap.size ≤ b) ⟨hW3.os, hW3.tape, hW3.output, hW3.size, fun g hg hn => hW3.block g hg (by simp; omega)⟩ (fun _ h => .inr h))
  have KOW := Lib.hid kOw
  have NLW := Lib.hid nlw
  have J4 := Lib.hid j4
  have x0 := kOw.cell 0
  have f0 := kOw.free 0
  have l0 := kOw.lt
  simp only [List.getElem?_toArray, List.getElem?_cons_zero] at x0
  have hlk : ((dd S).take k).length = k := by rw [List.length_take, HNN.out]; omega
  have hszb : V3.heap.size + 2 ≤ W3.heap.size := by omega
  obtain ⟨vo, vc, hv, _⟩ := nlw.val
  rw [hlk] at hv
  subst hv
  clear j1 j2 j3 j4 kOw nlw JJ Q0
  gi_wp2_with fail
  refine wpIn_region_up W3.heap.size 5 [(true, 0), (true, 1), (true, 2), (true, 3), (false, 4)] (by kernel_rfl) (by kernel_rfl) (by kernel_rfl) (fun _ _ h => h) (fun _ _ d _ _ h => by cases d <;> exact h) ?_
  have hb : Below W3.heap.size W3 W3.drew := (Below.refl _ _).drew
  iterate 4
   refine wpS_takeL rfl rfl ?_
   go_big_quiet_step (rfl)
   refine wpQuiet_nil ?_
  refine wpS_doL rfl ?_
  intro K hK
  go_wp2_with (fail)
  replace hb : Below W3.heap.size W3 (W3.alloc (.cells #[.int .i64 (x : Nat)] 3)).drew := (below_a1 W3 _).drew ; have hn : Below (W3.alloc (.cells #[.int .i64 (x : Nat)] 3)).drew.heap.size (W3.alloc (.cells #[.int .i64 (x : Nat)] 3)).drew (W3.alloc (.cells #[.int .i64 (x : Nat)] 3)).drew := Below.refl _ _
  replace hb := hb.trans (hn.mono hb.size)
  refine hK.out _ _ (up_iff.2 hb) ?_
  clear hK K
  clear hn
  refine wpS_nil ?_
  simp only [List.drop_succ_cons, List.drop_zero]
  obtain ⟨Wb, hWb⟩ : ∃ W, (W3.alloc (.cells #[.int .i64 (x : Nat)] 3)).drew = W := ⟨_, rfl⟩
  have kx : Blk Wb W3.heap.size #[.int .i64 (x : Nat)] 3 := by rw [← hWb]; exact drewB (Blk.new W3 _ _)
  rw [hWb] at hb ⊢
  have hsb : Wb.heap.size = W3.heap.size + 1 := by rw [← hWb]; simp
  have HB := Lib.hid hb
  have nlb := NLW.out.of hb
  have hown : Wb.ownsRow (V3.heap.size + 2) 3 1 (.slice vo k vc) k (nI ((dd S).take k)) := by
   have h1 : Wb.ownsRow (V3.heap.size + 2) 3 1 (.slice vo k vc) ((dd S).take k).length (nI ((dd S).take k)) := nlb
   rw [hlk] at h1; exact h1
  clear hWb hb nlb
  refine wpList_append_own_at _ rfl _ _ 29 rfl (V3.heap.size + 2) 3 i0 (.int .i64 0) 1 8 Try.underlying29 hi hz0 hz1 hz2 rfl (by decide) (.slice vo k vc) k (nI ((dd S).take k)) rfl hown ⟨W3.heap.size, 0, none⟩ 1 1 [.int .i64 (x : Nat)] rfl rfl (int_src kx) (int_one _) (by unfold maxLen; omega) (by omega) (by omega) ?_
  intro v1 w1 own1 gr1 _ hat
  obtain ⟨aa, ll, cc, hv1⟩ : ∃ aa ll cc, v1 = .slice aa ll cc := by rcases own1.2 with ⟨e, _⟩ | ⟨g, cap, cur, e, _⟩ <;> exact ⟨_, _, _, e⟩
  subst hv1
  have hown2 : ∀ g, (Value.slice vo k vc).ownBlock = some g → V3.heap.size + 2 ≤ g := fun g hg => (World.ownsRow.lt hown g hg).1
  have hW1 : ∀ g, g < W3.heap.size → (Value.slice vo k vc).ownBlock ≠ some g → w1.heap[g]? = W3.heap[g]? := fun g h1 h2 => (gr1.block g (by omega) (fun e => h2 e.symm)).trans (HB.out.block g h1)
  have hWf : ∀ g, g ≠ out → (w1.setCell ⟨out, 0, none⟩ (.slice aa ll cc)).heap[g]? = w1.heap[g]? := fun g h => Below.heap_setCell w1 ⟨out, 0, none⟩ (.slice aa ll cc) g h
  have hss : W3.heap.size ≤ w1.heap.size := by have := gr1.size; omega
  have hsf : (w1.setCell ⟨out, 0, none⟩ (.slice aa ll cc)).heap.size = w1.heap.size := by simp [World.setCell]
  have nO : ∀ g, g < V3.heap.size + 2 → (Value.slice vo k vc).ownBlock ≠ some g := fun g h e => by have := hown2 g e; omega
  have KO1 : Blk w1 out #[.slice vo k vc] 29 := (hW1 out l0 (nO _ (by omega))).trans KOW.out
  have x1 := KO1.cell 0
  have f1 := KO1.free 0
  have l1 := KO1.lt
  simp only [List.getElem?_toArray, List.getElem?_cons_zero] at x1
  have GG : Hid ((Fix2 l2 D2 W3 (w1.setCell ⟨out, 0, none⟩ (.slice aa ll cc)) ∧ ∃ G' : Nat → Prop, (∀ g, G' g → G g ∨ W3.heap.size ≤ g) ∧ ∃ v, Blk (w1.setCell ⟨out, 0, none⟩ (.slice aa ll cc)) out #[v] 29 ∧ NL (w1.setCell ⟨out, 0, none⟩ (.slice aa ll cc)) (V3.heap.size + 2) v ((dd S).take (k + 1)) ∧ Fr V3 (w1.setCell ⟨out, 0, none⟩ (.slice aa ll cc)) (fun b => b = out) ∧ ∀ g, G' g ↔ v.ownBlock = some g) ∧ AboveX (V3.heap.size + 2) G W3 (w1.setCell ⟨out, 0, none⟩ (.slice aa ll cc))) := by
   have fx : ∀ g, g < W3.heap.size → (Value.slice vo k vc).ownBlock ≠ some g → g ≠ out → (w1.setCell ⟨out, 0, none⟩ (.slice aa ll cc)).heap[g]? = W3.heap[g]? := fun g h1 h2 h3 => (hWf g h3).trans (hW1 g h1 h2)
   refine Lib.hid ⟨⟨⟨fx l2 (by omega) (nO _ (by omega)) (by omega), fx D2 (by omega) (nO _ (by omega)) (by omega)⟩, fun g => (Value.slice aa ll cc).ownBlock = some g, fun g hg => ?_, .slice aa ll cc, KO1.put 0 (.slice aa ll cc), ?_, ?_, fun g => Iff.rfl⟩, ?_⟩
   ·rcases hat with e | e
    ·exact .inl ((J4.out g).2 (by rw [← e]; exact hg))
    ·rw [e] at hg; injection hg with hg; exact .inr (by omega)
   ·have h1 : NL w1 (V3.heap.size + 2) (.slice aa ll cc) ((dd S).take (k + 1)) := by
     have e : (dd S).take (k + 1) = (dd S).take k ++ [x] := by rw [List.take_add_one, HX.out]; rfl
     unfold NL
     rw [e, List.length_append, List.map_append, hlk]; exact own1
    exact h1.keep fun g hg => hWf g (by have := (h1.own hg).1; omega)
   ·exact FF.out.trans (S' := fun b => b = out ∨ V3.heap.size ≤ b) ⟨gr1.os.trans HB.out.os, gr1.tape.trans HB.out.tape, gr1.output.trans HB.out.output, by omega, fun g hg hn => fx g hg (fun e => hn (.inr (by have := hown2 g e; omega))) (fun e => hn (.inl e))⟩ (fun _ h => h)
   ·exact ⟨by omega, fun g h1 h2 h3 => fx g h2 (fun e => h3 ((J4.out g).2 e)) (by omega)⟩
  clear own1 gr1 hat hown hW1 hWf KO1 x0 f0 q0
  go_wp2
  exact GG.out
 case done =>
  rintro Dd G V5 g1 ⟨v, j1, j2, j3, j4⟩ hD
  have c0 := j1.cell 0
  simp only [List.getElem?_toArray, List.getElem?_cons_zero] at c0
  rw [← HNN.out, List.take_length] at j2
  have l0 := j1.lt
  have JJ := Lib.hid (And.intro j2 (b3.out.trans (j3.below (B := w.heap.size) b3.out.size (fun k h => by omega))))
  have hsz5 := j3.size
  clear j1 j2 j3 j4
  gi_wp2
  refine ⟨by simp, .inl ⟨_, _, rfl, run_takeDeferred hD, ?_⟩⟩
  simp only [LeavesInM, LeavesIn]
  refine ⟨v, by simp [results, Try.results65, go_sem], v, dd S, rfl, ?_, dd_up S ASC.out, fun z => (dd_mem S z).trans (MEM.out z), ?_⟩
  ·exact (JJ.out.1.keep fun g hg => World.putObj_heap_other (by have := (JJ.out.1.own hg).1; omega)).low2 (by omega)
  ·exact JJ.out.2.trans ((putObj_out V5 Dd _).below (by omega) (by simp; omega))
end Go.Proofs.Ytdlpfiiakmhnlaa

namespace Go.Proofs.Ytdlpfiiakmhnlaa
open Go.RowKit Go.Shelf
attribute [local go_sem] Oper.semAt_some undef

theorem Edges_is (t : Nat) (w : World) :
    Calls Try.prog 28 #[ptr t 0] w fun e w' => e = .returned (.func (.func 64) #[] #[ptr w.heap.size 0]) ∧ Blk w' w.heap.size #[ptr t 0] 25 ∧ Below w.heap.size w w' := by
  go_enter Try.func28, Try.ntmps28
  go_wp2
  go_ret
  exact ⟨rfl, Blk.new _ _ _, below_a1 _ _⟩
theorem Once_n (ao : Option Addr) (cap n N : Nat) (Lr : List (Nat × Nat)) (w : World) (h : Ns w ao cap (ends Lr)) (hl : (ends Lr).length = n) (hn4 : n ≤ 40000) (hd : ∀ z, z ∈ ends Lr → z < N) :
    Calls Try.prog 65 #[.slice ao n cap, cmpF] w fun e w' => ∃ v, e = .returned v ∧ NL w' w.heap.size v (onc N Lr) ∧ Below w.heap.size w w' := by
  refine (Once_is ao cap n (ends Lr) w h hl hn4).mono ?_
  rintro e w' ⟨v, R, he, h1, h2, h3, h4⟩
  rw [onc_eq h2 h3 hd] at h1
  exact ⟨v, he, h1, h4⟩
theorem yield_wide {m m' l : Nat} {P : Program} {args : Array Value} {W : World} {R : Ending → World → Prop} (h : YieldAt Fence.wide m P l args W R) : YieldAt Fence.wide m' P l args W R := by
  obtain ⟨fn, tmps, assign, body, hy, hR⟩ := h
  exact ⟨fn, tmps, assign, body, hy, hR.1, fun c cs _ => hR.2 c cs (fun d h => by cases h)⟩
set_option maxRecDepth 100000 in
set_option maxHeartbeats 4000000 in
theorem Edges1_any (m lid bs t B : Nat) (D : SD) (N : Nat) (X Y : Nat → Int) (O : Nat → List (Nat × Nat)) (n : Int) (L : List (Nat × Nat)) (hL : preE N O N = L) (I : (Nat → Prop) → Nat → World → Prop) (Ix : Nat → World → Prop)
    (hm : ∀ G k W, I G k W → Blk W bs #[ptr t 0] 25 ∧ SM W t D N X Y O n) (hG : ∀ G k W, I G k W → ∀ g, G g → B ≤ g ∧ g < W.heap.size) (hst : ∀ G k W W', I G k W → BelowX B G W W' → I G k W') (hxst : ∀ k W W', Ix k W → Below B W W' → Ix k W')
    (hY : ∀ G k W, k < L.length → I G k W → YieldAt Fence.wide m Try.prog lid (edE L k) W fun e W' => ((e = .returned (.bool true) ∧ ∃ G', (∀ g, G' g → G g ∨ W.heap.size ≤ g) ∧ I G' (k + 1) W') ∨ (e = .returned (.bool false) ∧ Ix (k + 1) W')) ∧ AboveX B G W W')
    (W : World) (hB : B ≤ W.heap.size) (h0 : I (fun _ => False) 0 W) :
    CallsIn Fence.wide (m + 1) Try.prog 64 #[.func (.yield lid) #[] #[], ptr bs 0] W fun e W' => (∃ v, e = .returned v) ∧ ((∃ G, I G L.length W') ∨ ∃ k, k ≤ L.length ∧ Ix k W') := by
 refine callsIn_wide.2 ((callsIn_wide (n := 3)).1 ?_)
 refine callsIn_of_wp_marks Try.func64 rfl trivial ?_ rfl
 simp only [Try.ntmps64, List.size_toArray, List.length_cons, List.length_nil, Nat.reduceAdd, Nat.reduceSub, Array.replicate_succ, Array.replicate_zero, List.push_toArray, List.append_toArray, List.nil_append, List.cons_append]
 obtain ⟨ks, hM⟩ := hm _ 0 W h0
 have b0 := ks.cell 0
 simp only [List.getElem?_toArray, List.getElem?_cons_zero] at b0
 obtain ⟨c0, _, _⟩ := hM.c
 have hsm := hM.small
 have hcl := hM.pts.capl
 have hcb := hM.pts.capb
 have H0 := Lib.hid h0
 have HL := Lib.hid hL
 have HH := Lib.hid (And.intro hm (And.intro hst (And.intro hxst (And.intro hY hG))))
 clear hm hG hst hxst hY h0 hL ks hM
 gi_wp2_with fail
 obtain ⟨y, hy⟩ : ∃ y, W.heap.size = y := ⟨_, rfl⟩
 rw [hy] at hB
 have hyW : y ≤ W.heap.size := by omega
 clear hy b0 c0 hcl hcb
 refine wpIn_loop_ghost_k (fun gk act wr => ∃ (u2 u3 u4 u5 u6 u7 u8 u15 u16 u17 u18 u19 u20 u21 u22 u23 u24 u25 u26 u27 u28 u29 u30 u31 u32 u33 u34 u35 u36 u37 u38 u39 u40 u41 u42 u43 u44 u45 : Value) (ds : List Deferred) (a : Nat) (G0 : Nat → Prop), (a ≤ N ∧ N - a ≤ gk ∧ Hid (I G0 (posE N O a 0) wr ∧ ∀ d, d ∈ ds → ∀ r, d.target = .collected r → ¬ G0 r) ∧ y ≤ wr.heap.size ∧ Hid (Marks y wr ds)) ∧ act = { tmps := #[.func (.yield lid) #[] #[], ptr bs 0, u2, u3, u4, u5, u6, u7, u8, ptr t 0, ptr t 0, .pointer (some ⟨t, 0, none⟩), .slice D.po N D.pc, .int .i64 (N : Nat), .int .i64 (a : Nat), u15, u16, u17, u18, u19, u20, u21, u22, u23, u24, u25, u26, u27, u28, u29, u30, u31, u32, u33, u34, u35, u36, u37, u38, u39, u40, u41, u42, u43, u44, u45], defers := ds }) N ⟨_, _, _, _, _, _, _, _, _, _, _, _, _, _, _, _, _, _, _, _, _, _, _, _, _, _, _, _, _, _, _, _, _, _, _, _, _, _, [], 0, _, ⟨Nat.zero_le _, Nat.le_refl _, Lib.hid ⟨H0.out, fun d hd => by cases hd⟩, hyW, Lib.hid trivial⟩, rfl⟩ ?_
 intro gk act wr hinv J K hJ hK
 obtain ⟨u2, u3, u4, u5, u6, u7, u8, u15, u16, u17, u18, u19, u20, u21, u22, u23, u24, u25, u26, u27, u28, u29, u30, u31, u32, u33, u34, u35, u36, u37, u38, u39, u40, u41, u42, u43, u44, u45, ds, a, G0, ⟨ha, hga, HI, hyw, HM⟩, rfl⟩ := hinv
 clear H0 hyW
 by_cases haN : a < N
 ·obtain ⟨ks, hM⟩ := HH.out.1 _ _ wr HI.out.1
  have HG0 := Lib.hid (HH.out.2.2.2.2 _ _ _ HI.out.1)
  have SM0 := Lib.hid hM
  have KS0 := Lib.hid ks
  have b0 := ks.cell 0
  simp only [List.getElem?_toArray, List.getElem?_cons_zero] at b0
  have lbw := ks.lt
  clear ks hM
  gi_wp2_with fail
  refine ⟨trivial, callsIn_wide.2 ?_⟩
  refine calls_w ?_
  intro V1 hV1
  have kE : Hid (Blk V1 wr.heap.size #[.slice none 0 0] 29) := by rw [hV1]; exact Lib.hid (Blk.new wr _ _)
  have hb1 : Below wr.heap.size wr V1 := by rw [hV1]; exact below_a1 _ _
  have hs1 : V1.heap.size = wr.heap.size + 1 := by rw [hV1]; simp
  obtain ⟨eb, eeb⟩ : ∃ b, wr.heap.size = b := ⟨_, rfl⟩
  rw [eeb] at kE ⊢
  clear hV1 b0
  refine (Around_is t a V1).mono ?_
  rintro e V2 ⟨rfl, kcs, kca, hb2⟩
  have hs2 := kca.lt
  have kE2 := Lib.hid (kE.out.of hb2)
  have hb02 := hb1.trans (hb2.mono hb1.size)
  have B02 := Lib.hid hb02
  obtain ⟨cs, ecs⟩ : ∃ b, V1.heap.size = b := ⟨_, rfl⟩
  obtain ⟨ca, eca⟩ : ∃ b, V1.heap.size + 1 = b := ⟨_, rfl⟩
  rw [eca] at kca ⊢
  rw [ecs] at kcs ⊢
  have o1 : eb < cs := by omega
  have o2 : cs < ca := by omega
  have o3 : ca < V2.heap.size := by omega
  have o4 : y ≤ eb := by omega
  have o5 : B ≤ eb := by omega
  have KC := Lib.hid (And.intro kcs kca)
  clear kcs kca hb1 hb2 hb02 kE ecs eca hs1
  gi_wp2_with fail
  obtain ⟨len, hlen⟩ : ∃ l, (O a).length = l := ⟨_, rfl⟩
  have HLEN := Lib.hid hlen
  have hlen4 : len ≤ 4096 := by
   have h1 := sort_len (SM0.out.sort a haN) fun x hx => (SM0.out.dom a haN x hx).1
   omega
  have hrow : rowO N O (a : Int) = O a := by unfold rowO; rw [if_pos (by omega)]; rfl
  have hT := Around1_tells cs ca t D N X Y O n a (O a) hrow (V2.heap.size + 2)
  rw [hlen] at hT
  obtain ⟨i0, hi, hz0, hz1, hz2⟩ := info_parts info_int
  clear hlen hrow
  refine wpIn_rangeX (m := 1) (gf := 67) (lb := #[ptr cs 0, ptr ca 0]) (N := len) (encs := arE (O a)) (Kp := fun W => Blk W cs #[ptr t 0] 25 ∧ Blk W ca #[.int .i64 (a : Nat)] 3 ∧ SM W t D N X Y O n) rfl (fun args w => by go_simp) hT (fun _ => rfl)
   (fun G k W => ∃ v, Blk W eb #[v] 29 ∧ NL W (V2.heap.size + 2) v (ends ((O a).take k)) ∧ Fr V2 W (fun b => b = eb) ∧ ∀ g, G g ↔ v.ownBlock = some g)
   (fun _ _ _ => False) ?hg ?stable (fun _ _ _ _ h _ => h.elim) ?keeps ?start ?round ?done (fun _ _ _ _ _ h _ => h.elim)
  case hg =>
   rintro G k W ⟨v, j1, j2, j3, j4⟩ g hg
   exact j2.own ((j4 g).1 hg)
  case stable =>
   rintro G k W W' ⟨v, j1, j2, j3, j4⟩ ⟨hbl, hbg⟩
   exact ⟨v, j1.below hbl (by omega), j2.keep fun g hg => hbg g ((j4 g).2 hg) (j2.own hg).2, j3.trans (S' := fun b => V2.heap.size ≤ b) ⟨hbl.os, hbl.tape, hbl.output, hbl.size, fun k _ hk => hbl.block k (by omega)⟩ (fun _ h => .inr h), j4⟩
  case keeps =>
   rintro G k W ⟨v, j1, j2, j3, j4⟩
   refine ⟨j3.blk KC.out.1 (by omega), j3.blk KC.out.2 (by omega), SM0.out.of (B02.out.trans ⟨j3.os, j3.tape, j3.output, by have := j3.size; have := B02.out.size; omega, fun k hk => ?_⟩)⟩
   exact j3.block k (by have := B02.out.size; omega) (by omega)
  case start => exact ⟨_, kE2.out, NL.none, ⟨rfl, rfl, rfl, Nat.le_refl _, fun _ _ _ => rfl⟩, fun g => ⟨fun h => h.elim, fun h => by cases h⟩⟩
  case round =>
   rintro l2 D2 k G W2 hk ⟨v, j1, j2, j3, j4⟩ g1 g2 g3 g4
   obtain ⟨⟨xb, xc⟩, hx⟩ : ∃ x, (O a)[k]? = some x := ⟨_, List.getElem?_eq_getElem (show k < (O a).length by rw [HLEN.out]; exact hk)⟩
   have hE : arE (O a) k = #[.int .i64 (xb : Nat), .int .i64 (xc : Nat)] := by unfold arE; rw [List.getD_eq_getElem?_getD, hx]; rfl
   rw [hE]
   have HX := Lib.hid hx
   have JJ := Lib.hid (And.intro j1 (And.intro j2 (And.intro j3 j4)))
   clear j1 j2 j3 j4 hx hE hT
   gi_wp2_with fail
   refine ⟨⟨Fix2.of (OutL.refl [] _) g3 g4 (by simp) (by simp), AboveX.refl _ _ _⟩, ?_⟩
   intro W3 hW3
   obtain ⟨j1, j2, j3, j4⟩ := JJ.out
   have hs3w := hW3.size
   have kOw : Blk W3 eb #[v] 29 := j1.outl hW3 (by simp; omega)
   have nlw : NL W3 (V2.heap.size + 2) v (ends ((O a).take k)) := j2.keep fun g hg => hW3.block g (j2.own hg).2 (by have := (j2.own hg).1; simp; omega)
   have FF := Lib.hid (j3.trans (S' := fun b => V2.heap.size ≤ b) ⟨hW3.os, hW3.tape, hW3.output, hW3.size, fun g hg hn => hW3.block g hg (by simp; omega)⟩ (fun _ h => .inr h))
   have KOW := Lib.hid kOw
   have J4 := Lib.hid j4
   have x0 := kOw.cell 0
   have f0 := kOw.free 0
   have l0 := kOw.lt
   simp only [List.getElem?_toArray, List.getElem?_cons_zero] at x0
   have hlk : (ends ((O a).take k)).length = 2 * k := by rw [ends_len, List.length_take, HLEN.out]; omega
   have hszb : V2.heap.size + 2 ≤ W3.heap.size := by omega
   have hown : W3.ownsRow (V2.heap.size + 2) 3 1 v (2 * k) (nI (ends ((O a).take k))) := by
    have h1 : W3.ownsRow (V2.heap.size + 2) 3 1 v (ends ((O a).take k)).length (nI (ends ((O a).take k))) := nlw
    rw [hlk] at h1; exact h1
   have hownA := own_belowT hown (below_a1 W3 (.cells #[.int .i64 (xb : Nat), .int .i64 (xc : Nat)] 3))
   have hn2 : ∀ j u, [Value.int .i64 (xb : Nat), .int .i64 (xc : Nat)][j]? = some u → (W3.alloc (.cells #[.int .i64 (xb : Nat), .int .i64 (xc : Nat)] 3)).cell? ((⟨W3.heap.size, 0, none⟩ : Addr).add j) = some u := by
    intro j u hj
    match j, hj with
    | 0, hj => simp at hj; subst hj; exact (Blk.new W3 _ _).cell 0
    | 1, hj => simp at hj; subst hj; exact (Blk.new W3 _ _).cell 1
    | j + 2, hj => simp at hj
   have ho1 : ∀ u ∈ [Value.int .i64 (xb : Nat), .int .i64 (xc : Nat)], u.oneCell' = true := by intro u hu; simp at hu; rcases hu with rfl | rfl <;> rfl
   have hb63 : 2 * k + 2 ≤ maxLen := by unfold maxLen; omega
   have hb64 : (2 * k + 2) * 8 ≤ 140737488355328 := by omega
   have hbs : V2.heap.size + 2 ≤ (W3.alloc (.cells #[.int .i64 (xb : Nat), .int .i64 (xc : Nat)] 3)).heap.size := by simp; omega
   clear j1 j2 j3 j4 kOw nlw JJ hown
   gi_wp2_with (gi_at_builtin; go_loud (refine wpListIn_append_own_at _ rfl _ _ 29 rfl (V2.heap.size + 2) 3 i0 (.int .i64 0) 1 8 Try.underlying29 hi hz0 hz1 hz2 rfl (by decide) v (2 * k) (nI (ends ((O a).take k))) rfl hownA ⟨W3.heap.size, 0, none⟩ 2 2 [.int .i64 (xb : Nat), .int .i64 (xc : Nat)] rfl rfl hn2 ho1 hb63 hb64 hbs ?_))
   intro v1 w1 own1 gr1 _ hat
   obtain ⟨aa, ll, cc, hv1⟩ : ∃ aa ll cc, v1 = .slice aa ll cc := by rcases own1.2 with ⟨e, _⟩ | ⟨g, cap, cur, e, _⟩ <;> exact ⟨_, _, _, e⟩
   subst hv1
   have hsa : (W3.alloc (.cells #[.int .i64 (xb : Nat), .int .i64 (xc : Nat)] 3)).heap.size = W3.heap.size + 1 := by simp
   have hown2 : ∀ g, v.ownBlock = some g → V2.heap.size + 2 ≤ g := fun g hg => (World.ownsRow.lt hownA g hg).1
   have hW1 : ∀ g, g < W3.heap.size → v.ownBlock ≠ some g → w1.heap[g]? = W3.heap[g]? := fun g h1 h2 => (gr1.block g (by omega) (fun e => h2 e.symm)).trans ((below_a1 W3 _).block g h1)
   have hWf : ∀ g, g ≠ eb → (w1.setCell ⟨eb, 0, none⟩ (.slice aa ll cc)).heap[g]? = w1.heap[g]? := fun g h => Below.heap_setCell w1 ⟨eb, 0, none⟩ (.slice aa ll cc) g h
   have hss : W3.heap.size ≤ w1.heap.size := by have := gr1.size; omega
   have hsf : (w1.setCell ⟨eb, 0, none⟩ (.slice aa ll cc)).heap.size = w1.heap.size := by simp [World.setCell]
   have nO : ∀ g, g < V2.heap.size + 2 → v.ownBlock ≠ some g := fun g h e => by have := hown2 g e; omega
   have KO1 : Blk w1 eb #[v] 29 := (hW1 eb l0 (nO _ (by omega))).trans KOW.out
   have x1 := KO1.cell 0
   have f1 := KO1.free 0
   have l1 := KO1.lt
   simp only [List.getElem?_toArray, List.getElem?_cons_zero] at x1
   have GG : Hid ((Fix2 l2 D2 W3 (w1.setCell ⟨eb, 0, none⟩ (.slice aa ll cc)) ∧ ∃ G' : Nat → Prop, (∀ g, G' g → G g ∨ W3.heap.size ≤ g) ∧ ∃ v, Blk (w1.setCell ⟨eb, 0, none⟩ (.slice aa ll cc)) eb #[v] 29 ∧ NL (w1.setCell ⟨eb, 0, none⟩ (.slice aa ll cc)) (V2.heap.size + 2) v (ends ((O a).take (k + 1))) ∧ Fr V2 (w1.setCell ⟨eb, 0, none⟩ (.slice aa ll cc)) (fun b => b = eb) ∧ ∀ g, G' g ↔ v.ownBlock = some g) ∧ AboveX (V2.heap.size + 2) G W3 (w1.setCell ⟨eb, 0, none⟩ (.slice aa ll cc))) := by
    have fx : ∀ g, g < W3.heap.size → v.ownBlock ≠ some g → g ≠ eb → (w1.setCell ⟨eb, 0, none⟩ (.slice aa ll cc)).heap[g]? = W3.heap[g]? := fun g h1 h2 h3 => (hWf g h3).trans (hW1 g h1 h2)
    refine Lib.hid ⟨⟨⟨fx l2 (by omega) (nO _ (by omega)) (by omega), fx D2 (by omega) (nO _ (by omega)) (by omega)⟩, fun g => (Value.slice aa ll cc).ownBlock = some g, fun g hg => ?_, .slice aa ll cc, KO1.put 0 (.slice aa ll cc), ?_, ?_, fun g => Iff.rfl⟩, ?_⟩
    ·rcases hat with e | e
     ·exact .inl ((J4.out g).2 (by rw [← e]; exact hg))
     ·rw [e] at hg; injection hg with hg; exact .inr (by omega)
    ·have h1 : NL w1 (V2.heap.size + 2) (.slice aa ll cc) (ends ((O a).take (k + 1))) := by
      have e : ends ((O a).take (k + 1)) = ends ((O a).take k) ++ [xb, xc] := by rw [take_succ' HX.out, ends_app]; rfl
      unfold NL
      rw [e, List.length_append, List.map_append, hlk]; exact own1
     exact h1.keep fun g hg => hWf g (by have := (h1.own hg).1; omega)
    ·exact FF.out.trans (S' := fun b => b = eb ∨ V2.heap.size ≤ b) ⟨gr1.os, gr1.tape, gr1.output, by omega, fun g hg hn => fx g hg (fun e => hn (.inr (by have := hown2 g e; omega))) (fun e => hn (.inl e))⟩ (fun _ h => h)
    ·exact ⟨by omega, fun g h1 h2 h3 => fx g h2 (fun e => h3 ((J4.out g).2 e)) (by omega)⟩
   clear own1 gr1 hat hownA hW1 hWf KO1 x0 f0 hsa hn2 ho1 hb63 hb64 hbs
   gi_wp2
   exact GG.out
  case done =>
   rintro Dd G V5 g1 ⟨v, j1, j2, j3, j4⟩ hD
   rw [← HLEN.out, List.take_length] at j2
   have hDl := (Array.getElem?_eq_some_iff.1 hD).1
   have hb5 : Below wr.heap.size wr V5 := ⟨j3.os.trans B02.out.os, j3.tape.trans B02.out.tape, j3.output.trans B02.out.output, Nat.le_trans B02.out.size j3.size, fun g hg => (j3.block g (by have := B02.out.size; omega) (by omega)).trans (B02.out.block g hg)⟩
   have w5 : V2.heap.size ≤ V5.heap.size := j3.size
   have w2 := B02.out.size
   have I5 : Hid (I G0 (posE N O a 0) V5) := Lib.hid (HH.out.2.1 _ _ wr V5 HI.out.1 (.all hb5 (by omega)))
   have MK5 : Hid (Marks y V5 ({ target := .collected Dd, args := #[] } :: ds)) := Lib.hid ⟨⟨Dd, rfl, by omega, hD, fun d hd r hr => by have := HM.out.lt d hd r hr; omega⟩, HM.out.keep fun r _ h2 => hb5.block r h2⟩
   have NG5 : Hid (∀ d, d ∈ ({ target := .collected Dd, args := #[] } :: ds : List Deferred) → ∀ r, d.target = .collected r → ¬ G0 r) := Lib.hid fun d hd r hr h => by
    rcases List.mem_cons.1 hd with rfl | hd
    ·injection hr with hr
     have := HG0.out r h
     omega
    ·exact HI.out.2 d hd r hr h
   have SM5 : Hid (SM V5 t D N X Y O n) := Lib.hid (SM0.out.of hb5)
   obtain ⟨ao, cap, rfl, hns⟩ := Ns.ofNL j2
   have j0 := j1.cell 0
   have j9 := j1.lt
   simp only [List.getElem?_toArray, List.getElem?_cons_zero] at j0
   have HNS := Lib.hid hns
   obtain ⟨dds, hdds⟩ : ∃ x, ({ target := .collected Dd, args := #[] } :: ds : List Deferred) = x := ⟨_, rfl⟩
   rw [hdds] at MK5 NG5 ⊢
   obtain ⟨ne, hne⟩ : ∃ x, (ends (O a)).length = x := ⟨_, rfl⟩
   have HNE := Lib.hid hne
   rw [hne] at j0 j1
   have hne4 : ne ≤ 8192 := by rw [← hne, ends_len]; have := HLEN.out; omega
   clear j2 j3 j4 hns hD hT hb5 hdds hne HM HI KC KS0 B02
   gi_wp2_with fail
   refine ⟨trivial, callsIn_wide.2 ?_⟩
   refine (Once_n ao cap ne N (O a) V5 HNS.out HNE.out (by omega) ?_).mono ?_
   ·intro z hz
    unfold ends at hz
    obtain ⟨x, hx, hz⟩ := List.mem_flatMap.1 hz
    have hd := SM0.out.dom a haN x hx
    rcases List.mem_cons.1 hz with rfl | hz
    ·exact hd.1
    ·rcases List.mem_cons.1 hz with rfl | hz
     ·exact hd.2
     ·cases hz
   rintro e V6 ⟨v6, rfl, nl6, hb6⟩
   have w6 := hb6.size
   have I6 : Hid (I G0 (posE N O a 0) V6) := Lib.hid (HH.out.2.1 _ _ V5 V6 I5.out (.all hb6 (by omega)))
   have MK6 : Hid (Marks y V6 dds) := Lib.hid (MK5.out.keep fun r _ h2 => hb6.block r h2)
   have MKL := Lib.hid MK5.out.lt
   obtain ⟨ao6, cap6, rfl, hns6⟩ := Ns.ofNL nl6
   have lM : (onc N (O a)).length ≤ 4096 := by
    have h1 : (onc N (O a)).length ≤ (List.range N).length := List.length_filter_le _ _
    rw [List.length_range] at h1; omega
   have hcap6 := hns6.capl
   have hcap6b := hns6.capb
   have NO6 : Hid (∀ g, (Value.slice ao6 (onc N (O a)).length cap6).ownBlock = some g → ¬ G0 g) := Lib.hid fun g hg h => by
    have h1 := (nl6.own hg).1
    have h2 := HG0.out g h
    omega
   have NL6 := Lib.hid nl6
   obtain ⟨EL, hel⟩ : ∃ l, onc N (O a) = l := ⟨_, rfl⟩
   have HEL := Lib.hid hel
   rw [hel] at NL6 NO6 lM hcap6 ⊢
   obtain ⟨M, hM6⟩ : ∃ M, EL.length = M := ⟨_, rfl⟩
   have HML := Lib.hid hM6
   rw [hM6] at NL6 NO6 lM hcap6 ⊢
   have b5 : B ≤ V5.heap.size := by omega
   have y5 : y ≤ V5.heap.size := by omega
   clear hns6 nl6 hel hM6 hb6 I5 MK5 j0 j1 SM5 HNS
   gi_wp2_with fail
   refine wpIn_loop_ghost_k (fun gj act wi => ∃ (p8 p31 p32 p33 p34 p35 p36 p37 p38 p39 p40 p41 p42 p43 p44 : Value) (j : Nat) (G1 : Nat → Prop), (j ≤ M ∧ M - j ≤ gj ∧ Hid (I G1 (posE N O a j) wi) ∧ Hid (∀ d, d ∈ dds → ∀ r, d.target = .collected r → ¬ G1 r) ∧ Hid (NL wi V5.heap.size (.slice ao6 M cap6) EL) ∧ Hid (∀ g, (Value.slice ao6 M cap6).ownBlock = some g → ¬ G1 g) ∧ V5.heap.size ≤ wi.heap.size ∧ Hid (Marks y wi dds)) ∧ act = { tmps := #[.func (.yield lid) #[] #[], ptr bs 0, u2, .int .i64 (a : Nat), .pointer (some ⟨eb, 0, none⟩), u5, u6, u7, p8, ptr t 0, ptr t 0, .pointer (some ⟨t, 0, none⟩), .slice D.po N D.pc, .int .i64 (N : Nat), .int .i64 (a : Nat), .bool true, .int .i64 (a : Nat), ptr t 0, .int .i64 (a : Nat), .func (.func 67) #[] #[ptr cs 0, ptr ca 0], u20, u21, u22, u23, u24, u25, u26, .slice ao ne cap, .slice ao6 M cap6, .int .i64 (M : Nat), .int .i64 (j : Nat), p31, p32, p33, p34, p35, p36, p37, p38, p39, p40, p41, p42, p43, p44, u45], defers := dds }) M ⟨_, _, _, _, _, _, _, _, _, _, _, _, _, _, _, 0, _, ⟨Nat.zero_le _, Nat.le_refl _, I6, NG5, NL6, NO6, w6, MK6⟩, rfl⟩ ?_
   intro gj act wi hinv J2 K2 hJ2 hK2
   obtain ⟨p8, p31, p32, p33, p34, p35, p36, p37, p38, p39, p40, p41, p42, p43, p44, j, G1, ⟨hj, hgj, HI1, HN1, NL1, NO1, hwi, MK1⟩, rfl⟩ := hinv
   clear I6 NL6 NO6 MK6
   by_cases hjM : j < M
   ·have HG1 := Lib.hid (HH.out.2.2.2.2 _ _ _ HI1.out)
    obtain ⟨ao', c', e, hns⟩ := Ns.ofNL NL1.out
    injection e with e1 e2 e3
    rw [← e1] at hns
    obtain ⟨g, o, rfl, hg, hcell⟩ := hns.ptr (by have := HML.out; omega)
    obtain ⟨x, hx⟩ : ∃ x, EL[j]? = some x := ⟨_, List.getElem?_eq_getElem (show j < EL.length by rw [HML.out]; exact hjM)⟩
    have x0 := hcell j x hx
    have HX := Lib.hid hx
    clear hns hcell hx e1 e2 e3 c' ao'
    by_cases hc : a < x
    ·have c1 : (a : Int) < (x : Int) := by omega
     obtain ⟨hpos, hat⟩ := posE_yes haN (show (onc N (O a))[j]? = some x by rw [HEL.out]; exact HX.out) hc
     have hlt := (List.getElem?_eq_some_iff.1 hat).1
     rw [HL.out] at hat hlt
     have hval : edE L (posE N O a j) = #[.int .i64 (a : Nat), .int .i64 (x : Nat)] := by unfold edE; rw [List.getD_eq_getElem?_getD, hat]; rfl
     obtain ⟨fn, tmps, assign, body, hy, hR2⟩ := yield_wide (m' := 2) (HH.out.2.2.2.1 _ _ wi hlt HI1.out)
     rw [hval] at hy
     have HP := Lib.hid (And.intro hpos hlt)
     clear hpos hat hlt hval
     gi_wp2
     refine hR2.mono ?_
     rintro e W5 ⟨(⟨rfl, G5, hG5, hI5⟩ | ⟨rfl, hx5⟩), hab⟩
     ·have sz5 := hab.size
      have hnew : Hid (I G5 (posE N O a (j + 1)) W5) := Lib.hid (by rw [HP.out.1]; exact hI5)
      have hN : Hid (∀ d, d ∈ dds → ∀ r, d.target = .collected r → ¬ G5 r) := Lib.hid fun d hd r hr h => by
       rcases hG5 r h with h1 | h1
       ·exact HN1.out d hd r hr h1
       ·have := MKL.out d hd r hr; omega
      have hNl : Hid (NL W5 V5.heap.size (.slice (some ⟨g, o, none⟩) M cap6) EL) := Lib.hid (NL1.out.keep fun k hk => hab.block k (by have := (NL1.out.own hk).1; omega) (NL1.out.own hk).2 (NO1.out k hk))
      have hNo : Hid (∀ k, (Value.slice (some ⟨g, o, none⟩) M cap6).ownBlock = some k → ¬ G5 k) := Lib.hid fun k hk h => by
       rcases hG5 k h with h1 | h1
       ·exact NO1.out k hk h1
       ·have := (NL1.out.own hk).2; omega
      have hmk : Hid (Marks y W5 dds) := Lib.hid (MK1.out.keepD fun d hd r hr h1 h2 => hab.block r (by omega) h2 (HN1.out d hd r hr))
      clear hI5 hG5 hab hy hR2 x0
      gi_wp2
      rw [show ((j : Int) + 1) = ((j + 1 : Nat) : Int) by norm_cast]
      exact ⟨M - (j + 1), by omega, hJ2 _ _ _ ⟨_, _, _, _, _, _, _, _, _, _, _, _, _, _, _, j + 1, _, ⟨hjM, Nat.le_refl _, hnew, hN, hNl, hNo, by omega, hmk⟩, rfl⟩⟩
     ·have sz5 := hab.size
      have hmk : Hid (Marks y W5 dds) := Lib.hid (MK1.out.keepD fun d hd r hr h1 h2 => hab.block r (by omega) h2 (HN1.out d hd r hr))
      have HX5 := Lib.hid hx5
      clear hx5 hab hy hR2 x0
      gi_wp2
      refine leaves_marks (B := B) hB (fun _ => False) _ W5 (by omega) hmk.out (fun _ _ _ _ h => h) fun w' hb => ?_
      exact ⟨_, results_none rfl _ _ _, ⟨_, rfl⟩, .inr ⟨_, HP.out.2, HH.out.2.2.1 _ W5 w' HX5.out hb.1⟩⟩
    ·have c1 : ¬ (a : Int) < (x : Int) := by omega
     have hpos := posE_no (show (onc N (O a))[j]? = some x by rw [HEL.out]; exact HX.out) hc
     have hnew : Hid (I G1 (posE N O a (j + 1)) wi) := by rw [hpos]; exact HI1
     clear hpos
     gi_wp2
     rw [show ((j : Int) + 1) = ((j + 1 : Nat) : Int) by norm_cast]
     exact ⟨M - (j + 1), by omega, hJ2 _ _ _ ⟨_, _, _, _, _, _, _, _, _, _, _, _, _, _, _, j + 1, _, ⟨hjM, Nat.le_refl _, hnew, HN1, NL1, NO1, hwi, MK1⟩, rfl⟩⟩
   ·have hjM2 : j = M := by omega
    have e0 : posE N O (a + 1) 0 = posE N O a j := by rw [posE_0, ← posE_all, HEL.out, HML.out, hjM2]
    have hnew : Hid (I G1 (posE N O (a + 1) 0) wi ∧ ∀ d, d ∈ dds → ∀ r, d.target = .collected r → ¬ G1 r) := Lib.hid ⟨by rw [e0]; exact HI1.out, HN1.out⟩
    clear e0
    gi_wp2
    rw [show ((a : Int) + 1) = ((a + 1 : Nat) : Int) by norm_cast]
    exact ⟨N - (a + 1), by omega, hJ _ _ _ ⟨_, _, _, _, _, _, _, _, _, _, _, _, _, _, _, _, _, _, _, _, _, _, _, _, _, _, _, _, _, _, _, _, _, _, _, _, _, _, _, a + 1, _, ⟨haN, Nat.le_refl _, hnew, by omega, MK1⟩, rfl⟩⟩
 ·have haN2 : a = N := by omega
  have e0 : posE N O a 0 = L.length := by rw [posE_0, haN2, HL.out]
  have HF := Lib.hid (show I G0 L.length wr by rw [← e0]; exact HI.out.1)
  clear e0
  have HNG := Lib.hid HI.out.2
  clear HI
  gi_wp2
  refine leaves_marks (B := B) hB G0 ds wr (by omega) HM.out HNG.out fun w' hb => ?_
  exact ⟨_, results_none rfl _ _ _, ⟨_, rfl⟩, .inl ⟨_, HH.out.2.1 _ _ wr w' HF.out hb⟩⟩
theorem Edges1_tells (bs t : Nat) (D : SD) (N : Nat) (X Y : Nat → Int) (O : Nat → List (Nat × Nat)) (n : Int) (L : List (Nat × Nat)) (hL : preE N O N = L) (B : Nat) :
    TellsX Try.prog 64 #[ptr bs 0] L.length (edE L) B (fun W => Blk W bs #[ptr t 0] 25 ∧ SM W t D N X Y O n) :=
  fun m lid I Ix hK hG hst hxst hY W hB h0 => Edges1_any m lid bs t B D N X Y O n L hL I Ix hK hG hst hxst hY W hB h0
end Go.Proofs.Ytdlpfiiakmhnlaa

namespace Go.Proofs.Ytdlpfiiakmhnlaa
open Go.RowKit Go.Shelf

/-- a post that a panic never meets -/
def noP (Q : Exit → Act → World → Prop) : Exit → Act → World → Prop
  | .panic _, _, _ => False
  | e, a, w => Q e a w
theorem wp_noP {P : Program} {c : Code} {Q : Exit → Act → World → Prop} {a : Act} {w : World} (h : c.wp P (noP Q) a w) : c.wp P Q a w := wp_mono h fun e a w hq => by
  cases e with
  | panic c => exact False.elim hq
  | _ => exact hq
@[go_sem] theorem noP_normal (Q : Exit → Act → World → Prop) (a : Act) (w : World) : noP Q .normal a w = Q .normal a w := rfl
end Go.Proofs.Ytdlpfiiakmhnlaa

