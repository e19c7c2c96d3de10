/- The statement TriPlaysSaid: for every input the law returns true, and its arguments read as before. Conditions: none. -/
import Derived.Test.YtdlpfiiakmhnlaaSPl5
import Derived.KernelRfl
import Derived.StillTail
import Derived.OrdersHeld
import Derived.Deep.Quiet
import Derived.Below
import Derived.WalkKit
import Derived.Test.YtdlpfiiakmhnlaaProg
import Derived.WalkSpells
import Derived.StillTactics
import Derived.Laws.Pointers
import Derived.Deep.RegionHeld3
import Derived.RowKit3
import Derived.Deep.QuietTactic
import Derived.BigQuiet
import Derived.BigRegion
import Derived.Lib.Hide
import Derived.WalkSmall
import Derived.Laws.BitsAllLaws
import Derived.IntWalk
import Derived.Deep.OwnRows
import Derived.Deep.LoopGhost
import Derived.Shelf.Bits.Mul64
import Derived.Test.YtdlpfiiakmhnlaaRows
import Derived.ProofKit
import Derived.OpenShut
import Derived.ShutString
import Derived.ChangeOld
import Derived.Lib.SmallJoins
import Derived.Laws.IdiomArrays
import Derived.Laws.CopyOwn
import Derived.Laws.AppendOwn
import Derived.Deep.DeepAppendRoom
import Derived.Lib.AppendZerosOnto
import Derived.Lib.Overlaps
import Derived.Deep.RegionLaw
import Derived.Shelf.RegionOpenPlain
import Derived.Deep.RegionWith
import Derived.Sort.LoopGhostIn
import Derived.RangeFuncNested
import Derived.RangeFuncBound
import Derived.RangeFuncCalls
import Derived.RangeFuncLeaves
import Derived.OwnWalk
import Derived.OwnWalkIn
import Derived.TacticsInMore
import Derived.LoopNIn
import Derived.LoopIn
import Derived.Deep.DeepFit
import Derived.Deep.DeepCutAuto
import Derived.Shelf.Abstract
import Derived.Shelf.RegionOpen
import Derived.Maps.OwnIn
import Derived.WalkMore
import Derived.Maps.AppendAt
import Derived.Deep.SlicePairs
namespace Go.Proofs.Ytdlpfiiakmhnlaa
open Go.RowKit

def DK (O : Nat → List (Nat × Nat)) (a b c : Nat) : Nat → Nat → List (Nat × Nat)
  | 0 => O
  | 1 => del1 O a b
  | 2 => del1 (del1 O a b) b c
  | _ => delT O a b c
set_option maxRecDepth 100000 in
set_option maxHeartbeats 4000000 in
theorem Del_yes (t : Nat) (D : SD) (N : Nat) (X Y : Nat → Int) (O : Nat → List (Nat × Nat)) (n : Int) (a b c : Nat) (w : World) (h : SM w t D N X Y O n) (na : a < N) (nb : b < N) (nc : c < N) (hab : a ≠ b) (hbc : b ≠ c) (hac : a ≠ c)
    (hT : HasT O (a, b, c)) (hn : 0 ≤ n ∧ n < 1000000000) :
    Calls Try.prog 33 #[ptr t 0, tI a b c] w fun e w' => e = .returned (.int .i64 0) ∧ ∃ D', SM w' t D' N X Y (delT O a b c) (n - 1) ∧ Fr w w' (D.has t N) ∧ (∀ g, D'.has t N g → D.has t N g ∨ w.heap.size ≤ g) ∧ D'.po = D.po := by
  have HM := Lib.hid h
  obtain ⟨f1, f2, f3⟩ := hT
  simp only at f1 f2 f3
  have hlf : leftO N O (a : Nat) (b : Nat) = some c := (leftO_of na).trans f1
  have HA0 : Hid (lookH (DK O a b c 0 a) b = some c) := f1
  have HA1 : Hid (lookH (DK O a b c 1 b) c = some a) := by
    refine Lib.hid ?_
    show lookH (del1 O a b b) c = some a
    rw [look_del1, if_neg (by omega)]; exact f2
  have HA2 : Hid (lookH (DK O a b c 2 c) a = some b) := by
    refine Lib.hid ?_
    show lookH (del1 (del1 O a b) b c c) a = some b
    rw [look_del1, if_neg (by omega), look_del1, if_neg (by omega)]; exact f3
  have HLF := Lib.hid hlf
  clear h f1 f2 f3 hlf
  go_enter Try.func33, Try.ntmps33
  go_wp2_with fail
  refine calls_w ?_
  intro V hV
  have hb0 : Below w.heap.size w V := by rw [hV]; exact below_a1 _ _
  have KB : Hid (Blk V w.heap.size #[.int .i64 (a : Nat), .int .i64 (b : Nat), .int .i64 (c : Nat)] 36) := by rw [hV]; exact Lib.hid (Blk.new w _ _)
  clear hV
  refine (Left_is t D N X Y O n a b V (HM.out.of hb0) _ HLF.out).mono ?_
  rintro e V2 ⟨rfl, hb2⟩
  have kb := KB.out.of hb2
  have hb1 := hb0.trans (hb2.mono hb0.size)
  have k0 := kb.cell 0
  have k1 := kb.cell 1
  have k2 := kb.cell 2
  have lk := kb.lt
  have HB1 := Lib.hid hb1
  clear hb0 hb2 hb1 KB kb
  go_wp2_with fail
  refine (sides_is a b c _).mono ?_
  rintro e W1 ⟨rfl, hn1⟩
  have hb1 := HB1.out.trans (hn1.mono HB1.out.size)
  have HM1 := Lib.hid (HM.out.of hb1)
  clear hn1 k0 k1 k2 lk HB1 HLF
  go_wp2_with fail
  go_loopg [30] 3 (fun gk s10 wr => ∃ (k : Nat) (Dk : SD), s10 = .int .i64 k ∧ k ≤ 3 ∧ 3 - k ≤ gk ∧ Hid (SM wr t Dk N X Y (DK O a b c k) n) ∧ Hid (Fr w wr (D.has t N)) ∧ Hid (∀ g, Dk.has t N g → D.has t N g ∨ w.heap.size ≤ g) ∧ Dk.po = D.po)
  case atStart => exact ⟨0, D, rfl, by omega, by omega, HM1, Lib.hid (Fr.ofBelow hb1), Lib.hid fun g hg => .inl hg, rfl⟩
  case round =>
    clear HM1 hb1 HM
    obtain ⟨k, Dk, rfl, hk, hg, HM, HF, HH, hpo⟩ := hrel
    rcases (show k = 0 ∨ k = 1 ∨ k = 2 ∨ k = 3 by omega) with rfl | rfl | rfl | rfl
    · have hix : ∀ w, Sem.run Try.prog (Instr.index 96 (sI a b c) (.int .i64 0)) w = .ok (tI a b c) w := fun w => side_at a b c 0 (by omega) w
      go_wp2_with fail
      refine name_world ?_
      intro W2 hW2
      have kt : Blk W2 wr.heap.size #[.int .i64 (a : Nat), .int .i64 (b : Nat), .int .i64 (c : Nat)] 36 := by rw [hW2]; exact Blk.new wr _ _
      have hbw : Below wr.heap.size wr W2 := by rw [hW2]; exact below_a1 wr _
      clear hW2
      have HM2 := Lib.hid (HM.out.of hbw)
      have HF2 := Lib.hid (HF.out.trans (Fr.ofBelow (S := fun _ => False) hbw) (fun b hb => hb.elim))
      have KT := Lib.hid kt
      have hsz2 : wr.heap.size ≤ W2.heap.size := hbw.size
      clear hbw kt HM HF
      obtain ⟨c0, c1, c2⟩ := HM2.out.c
      obtain ⟨v, hv⟩ : ∃ v, Dk.V a = v := ⟨_, rfl⟩
      have cr := HM2.out.row na
      have hrow := HM2.out.rows a na
      rw [hv] at cr hrow
      obtain ⟨ob, hob⟩ : ∃ ob, Dk.ob = ob := ⟨_, rfl⟩
      rw [hob] at cr c1
      have HROW := Lib.hid hrow
      have HSR := Lib.hid (HM2.out.sort a na)
      have hln := HM2.out.len a na
      have hsm := HM2.out.small
      have k0 := KT.out.cell 0
      have k1 := KT.out.cell 1
      have k2 := KT.out.cell 2
      have lt := HM2.out.lt (b := t) (.inl rfl)
      have lo : ob < W2.heap.size := by rw [← hob]; exact HM2.out.lt (.inr (.inl rfl))
      have lk := KT.out.lt
      have HV := Lib.hid (And.intro hv hob)
      clear hrow hv hob
      refine wp_region_up W2.heap.size 16 [(true, 0), (true, 1), (true, 2), (true, 3), (true, 4), (true, 5), (true, 6), (true, 7), (true, 8), (true, 9), (true, 10), (false, 11), (true, 12), (true, 13), (true, 14), (true, 15)] (by kernel_rfl) (by kernel_rfl) (fun _ _ d _ _ h => by cases d <;> exact h) ?_
      have hb : Below W2.heap.size W2 W2.drew := (Below.refl _ _).drew
      iterate 11
        first | refine wpS_takeL rfl rfl ?_ | refine wpS_takeN rfl ⟨_, rfl⟩ ?_
        go_big_quiet_step (rfl)
        refine wpQuiet_nil ?_
      refine wpS_doL rfl ?_
      intro K hK
      go_wp2_with ((go_at_call 52; (refine (Find_h 0 v ((DK O a b c 0) a) b 0 _ (HROW.out.of hb) HSR.out hln).mono ?_); rintro e w2 ⟨i, ok, rfl, hn, hi, hj, hok⟩))
      replace hb := hb.trans (hn.mono hb.size)
      refine hK.out _ _ (up_iff.2 hb) ?_
      clear hK K
      clear hn
      iterate 4
        first | refine wpS_takeL rfl rfl ?_ | refine wpS_takeN rfl ⟨_, rfl⟩ ?_
        go_big_quiet_step (rfl)
        refine wpQuiet_nil ?_
      refine wpS_nil ?_
      simp only [List.drop_succ_cons, List.drop_zero]
      have hmem := (look_mem HSR.out).2 HA0.out
      obtain ⟨jj, hjj⟩ := List.mem_iff_getElem?.1 hmem
      have hji : jj = i := by
        rcases Nat.lt_or_ge jj i with h | h
        · have := (hj jj _ hjj).1 h
          have h2 : (b : Int) < (b : Int) := this
          omega
        · rcases Nat.lt_or_ge i jj with h2 | h2
          · have h3 : i < ((DK O a b c 0) a).length := by have := (List.getElem?_eq_some_iff.1 hjj).1; omega
            have h4 := (hj i _ (List.getElem?_eq_getElem h3)).2 (Nat.le_refl _)
            have h5 := HSR.out i jj _ _ h2 (List.getElem?_eq_getElem h3) hjj
            have h6 : ((DK O a b c 0) a)[i].1 < b := h5
            omega
          · omega
      have hok2 : ok = true := hok.2 ⟨_, by rw [← hji]; exact hjj, rfl⟩
      rw [hji] at hjj
      have hil := (List.getElem?_eq_some_iff.1 hjj).1
      have HJ := Lib.hid hjj
      subst hok2
      clear hmem hji
      have HM4 := Lib.hid (HM2.out.of hb)
      have HF4 := Lib.hid (HF2.out.trans (Fr.ofBelow (S := fun _ => False) hb) (fun b hb => hb.elim))
      have HROW4 := Lib.hid (HROW.out.of hb)
      have KT4 := Lib.hid (KT.out.of hb)
      have hsz4 := Nat.le_trans hsz2 hb.size
      clear hb HM2 HF2 HROW KT c0 c1 c2 cr k0 k1 k2 lt lo lk hsz2 hj hok
      obtain ⟨c0, c1, c2⟩ := HM4.out.c
      have cr := HM4.out.row na
      rw [HV.out.2] at c1 cr
      rw [HV.out.1] at cr
      have k0 := KT4.out.cell 0
      have k1 := KT4.out.cell 1
      have k2 := KT4.out.cell 2
      have lt := HM4.out.lt (b := t) (.inl rfl)
      have lo : ob < w2.heap.size := by rw [← HV.out.2]; exact HM4.out.lt (.inr (.inl rfl))
      have lk := KT4.out.lt
      go_wp2_with fail
      obtain ⟨RL, hRL⟩ : ∃ RL, v.ownBlock.toList = RL := ⟨_, rfl⟩
      have hown : ∀ g, v.ownBlock = some g → g ≠ t ∧ g ≠ ob ∧ g ≠ wr.heap.size ∧ g < w2.heap.size := by
        intro g hgg
        obtain ⟨e1, e2, e3⟩ := HM4.out.rowne na (by rw [HV.out.1]; exact hgg)
        refine ⟨e1, by rw [← HV.out.2]; exact e2, fun e => ?_, e3⟩
        subst e
        exact absurd (HROW4.out.typ hgg KT4.out) (by decide)
      have nt : t ∉ RL := by rw [← hRL]; intro h; exact (hown t (by simpa using h)).1 rfl
      have no : ob ∉ RL := by rw [← hRL]; intro h; exact (hown ob (by simpa using h)).2.1 rfl
      have nk : wr.heap.size ∉ RL := by rw [← hRL]; intro h; exact (hown _ (by simpa using h)).2.2.1 rfl
      have HRL := Lib.hid hRL
      have HOWN := Lib.hid hown
      clear hRL hown
      have hic : (((DK O a b c 0) a).length : Int) ≤ 4096 := by
        have := sort_len HSR.out fun x hx => (HM4.out.dom a na x hx).1
        omega
      have hi1 : (i : Int) ≤ 4096 := by omega
      have hi2 : i ≤ 4096 := by omega
      have HIL := Lib.hid hil
      clear hic hjj hil
      refine wp_region_upl RL 18 [(true, 0), (true, 1), (true, 2), (true, 3), (true, 4), (true, 5), (true, 6), (true, 7), (true, 8), (true, 9), (true, 10), (true, 11), (true, 12), (true, 13), (true, 14), (true, 15), (true, 16), (false, 17)] (by kernel_rfl) (by kernel_rfl) (fun _ _ d _ _ h => by cases d <;> exact h) ?_
      have hb : OutL RL w2 w2.drew := (OutL.refl _ _).drew
      iterate 17
        first | refine wpS_takeL rfl rfl ?_ | refine wpS_takeN rfl ⟨_, rfl⟩ ?_
        go_big_quiet_step (rfl)
        refine wpQuiet_nil ?_
      refine wpS_doL rfl ?_
      intro K hK
      go_wp2_with fail
      refine (Delete_h 0 v ((DK O a b c 0) a) i w2.drew HROW4.out.drew HIL.out hln).mono ?_
      rintro e W5 ⟨v', rfl, hr5, hg5, hl5⟩
      obtain ⟨ao', cap', hv', _, _, _⟩ := hr5.val
      obtain ⟨nn, hnn⟩ : ∃ nn, (List.take i ((DK O a b c 0) a) ++ List.drop (i + 1) ((DK O a b c 0) a)).length = nn := ⟨_, rfl⟩
      rw [hnn] at hv'
      subst hv'
      clear hnn
      have hbo5 : OutL RL w2 W5 := hb.trans ⟨hg5.os, hg5.tape, hg5.output, hg5.size, fun k hk hc => hg5.block k hk fun e => hc (by rw [← HRL.out, ← e]; simp)⟩
      go_wp2_with fail
      refine hK.out _ _ (upl hbo5) ?_
      clear hK K
      have hfc : w2.cell? ⟨ob, a, none⟩ = some v := cr
      have cr5 : W5.cell? ⟨ob, a, none⟩ = some v := (World.cell?_of_block (a := ⟨ob, a, none⟩) (hbo5.block ob lo no)).trans hfc
      have fr5 : W5.frozen? ⟨ob, a, none⟩ = false := (World.frozen?_of_block (a := ⟨ob, a, none⟩) (hbo5.block ob lo no)).trans (by rw [← HV.out.2]; exact HM4.out.outf a)
      have hin := SM.set HM4.out na (v' := .slice ao' nn cap') (L' := delH b ((DK O a b c 0) a)) (w1 := W5) (by rw [← delH_at HSR.out HJ.out]; exact hr5) (by rw [HV.out.1]; exact ⟨hg5.os, hg5.tape, hg5.output, hg5.size, hg5.block⟩) (by rw [HV.out.1]; exact hl5) rfl (fun u hu => HM4.out.dom a na u (delH_sub hu)) (delH_sort HSR.out)
      rw [HV.out.2] at hin
      have HIN := Lib.hid hin
      have HFX := HF4
      clear hin hb hr5 hg5 hl5 hbo5 hfc c0 c1 c2 cr k0 k1 k2 lt lo lk nt no nk HJ HSR HM4 HROW4 HOWN HRL KT4 hi hln HIL hi1 hi2
      refine wpS_nil ?_
      simp only [List.drop_succ_cons, List.drop_zero]
      go_wp2_with fail
      go_roundg (2 - 0)
      case measure => omega
      case rel =>
        obtain ⟨D', h1, h2, h3, h4⟩ := HIN.out
        refine ⟨0 + 1, D', by rfl, by omega, by omega, Lib.hid h1, Lib.hid (HFX.out.trans h2 (fun b hb => ?_)), Lib.hid (fun g hgg => ?_), h4.trans hpo⟩
        · exact HH.out b hb
        · rcases h3 g hgg with h5 | h5
          · exact HH.out g h5
          · exact .inr (Nat.le_trans HFX.out.size h5)
    · have hix : ∀ w, Sem.run Try.prog (Instr.index 96 (sI a b c) (.int .i64 1)) w = .ok (tI b c a) w := fun w => side_at a b c 1 (by omega) w
      go_wp2_with fail
      refine name_world ?_
      intro W2 hW2
      have kt : Blk W2 wr.heap.size #[.int .i64 (b : Nat), .int .i64 (c : Nat), .int .i64 (a : Nat)] 36 := by rw [hW2]; exact Blk.new wr _ _
      have hbw : Below wr.heap.size wr W2 := by rw [hW2]; exact below_a1 wr _
      clear hW2
      have HM2 := Lib.hid (HM.out.of hbw)
      have HF2 := Lib.hid (HF.out.trans (Fr.ofBelow (S := fun _ => False) hbw) (fun b hb => hb.elim))
      have KT := Lib.hid kt
      have hsz2 : wr.heap.size ≤ W2.heap.size := hbw.size
      clear hbw kt HM HF
      obtain ⟨c0, c1, c2⟩ := HM2.out.c
      obtain ⟨v, hv⟩ : ∃ v, Dk.V b = v := ⟨_, rfl⟩
      have cr := HM2.out.row nb
      have hrow := HM2.out.rows b nb
      rw [hv] at cr hrow
      obtain ⟨ob, hob⟩ : ∃ ob, Dk.ob = ob := ⟨_, rfl⟩
      rw [hob] at cr c1
      have HROW := Lib.hid hrow
      have HSR := Lib.hid (HM2.out.sort b nb)
      have hln := HM2.out.len b nb
      have hsm := HM2.out.small
      have k0 := KT.out.cell 0
      have k1 := KT.out.cell 1
      have k2 := KT.out.cell 2
      have lt := HM2.out.lt (b := t) (.inl rfl)
      have lo : ob < W2.heap.size := by rw [← hob]; exact HM2.out.lt (.inr (.inl rfl))
      have lk := KT.out.lt
      have HV := Lib.hid (And.intro hv hob)
      clear hrow hv hob
      refine wp_region_up W2.heap.size 16 [(true, 0), (true, 1), (true, 2), (true, 3), (true, 4), (true, 5), (true, 6), (true, 7), (true, 8), (true, 9), (true, 10), (false, 11), (true, 12), (true, 13), (true, 14), (true, 15)] (by kernel_rfl) (by kernel_rfl) (fun _ _ d _ _ h => by cases d <;> exact h) ?_
      have hb : Below W2.heap.size W2 W2.drew := (Below.refl _ _).drew
      iterate 11
        first | refine wpS_takeL rfl rfl ?_ | refine wpS_takeN rfl ⟨_, rfl⟩ ?_
        go_big_quiet_step (rfl)
        refine wpQuiet_nil ?_
      refine wpS_doL rfl ?_
      intro K hK
      go_wp2_with ((go_at_call 52; (refine (Find_h 0 v ((DK O a b c 1) b) c 0 _ (HROW.out.of hb) HSR.out hln).mono ?_); rintro e w2 ⟨i, ok, rfl, hn, hi, hj, hok⟩))
      replace hb := hb.trans (hn.mono hb.size)
      refine hK.out _ _ (up_iff.2 hb) ?_
      clear hK K
      clear hn
      iterate 4
        first | refine wpS_takeL rfl rfl ?_ | refine wpS_takeN rfl ⟨_, rfl⟩ ?_
        go_big_quiet_step (rfl)
        refine wpQuiet_nil ?_
      refine wpS_nil ?_
      simp only [List.drop_succ_cons, List.drop_zero]
      have hmem := (look_mem HSR.out).2 HA1.out
      obtain ⟨jj, hjj⟩ := List.mem_iff_getElem?.1 hmem
      have hji : jj = i := by
        rcases Nat.lt_or_ge jj i with h | h
        · have := (hj jj _ hjj).1 h
          have h2 : (c : Int) < (c : Int) := this
          omega
        · rcases Nat.lt_or_ge i jj with h2 | h2
          · have h3 : i < ((DK O a b c 1) b).length := by have := (List.getElem?_eq_some_iff.1 hjj).1; omega
            have h4 := (hj i _ (List.getElem?_eq_getElem h3)).2 (Nat.le_refl _)
            have h5 := HSR.out i jj _ _ h2 (List.getElem?_eq_getElem h3) hjj
            have h6 : ((DK O a b c 1) b)[i].1 < c := h5
            omega
          · omega
      have hok2 : ok = true := hok.2 ⟨_, by rw [← hji]; exact hjj, rfl⟩
      rw [hji] at hjj
      have hil := (List.getElem?_eq_some_iff.1 hjj).1
      have HJ := Lib.hid hjj
      subst hok2
      clear hmem hji
      have HM4 := Lib.hid (HM2.out.of hb)
      have HF4 := Lib.hid (HF2.out.trans (Fr.ofBelow (S := fun _ => False) hb) (fun b hb => hb.elim))
      have HROW4 := Lib.hid (HROW.out.of hb)
      have KT4 := Lib.hid (KT.out.of hb)
      have hsz4 := Nat.le_trans hsz2 hb.size
      clear hb HM2 HF2 HROW KT c0 c1 c2 cr k0 k1 k2 lt lo lk hsz2 hj hok
      obtain ⟨c0, c1, c2⟩ := HM4.out.c
      have cr := HM4.out.row nb
      rw [HV.out.2] at c1 cr
      rw [HV.out.1] at cr
      have k0 := KT4.out.cell 0
      have k1 := KT4.out.cell 1
      have k2 := KT4.out.cell 2
      have lt := HM4.out.lt (b := t) (.inl rfl)
      have lo : ob < w2.heap.size := by rw [← HV.out.2]; exact HM4.out.lt (.inr (.inl rfl))
      have lk := KT4.out.lt
      go_wp2_with fail
      obtain ⟨RL, hRL⟩ : ∃ RL, v.ownBlock.toList = RL := ⟨_, rfl⟩
      have hown : ∀ g, v.ownBlock = some g → g ≠ t ∧ g ≠ ob ∧ g ≠ wr.heap.size ∧ g < w2.heap.size := by
        intro g hgg
        obtain ⟨e1, e2, e3⟩ := HM4.out.rowne nb (by rw [HV.out.1]; exact hgg)
        refine ⟨e1, by rw [← HV.out.2]; exact e2, fun e => ?_, e3⟩
        subst e
        exact absurd (HROW4.out.typ hgg KT4.out) (by decide)
      have nt : t ∉ RL := by rw [← hRL]; intro h; exact (hown t (by simpa using h)).1 rfl
      have no : ob ∉ RL := by rw [← hRL]; intro h; exact (hown ob (by simpa using h)).2.1 rfl
      have nk : wr.heap.size ∉ RL := by rw [← hRL]; intro h; exact (hown _ (by simpa using h)).2.2.1 rfl
      have HRL := Lib.hid hRL
      have HOWN := Lib.hid hown
      clear hRL hown
      have hic : (((DK O a b c 1) b).length : Int) ≤ 4096 := by
        have := sort_len HSR.out fun x hx => (HM4.out.dom b nb x hx).1
        omega
      have hi1 : (i : Int) ≤ 4096 := by omega
      have hi2 : i ≤ 4096 := by omega
      have HIL := Lib.hid hil
      clear hic hjj hil
      refine wp_region_upl RL 18 [(true, 0), (true, 1), (true, 2), (true, 3), (true, 4), (true, 5), (true, 6), (true, 7), (true, 8), (true, 9), (true, 10), (true, 11), (true, 12), (true, 13), (true, 14), (true, 15), (true, 16), (false, 17)] (by kernel_rfl) (by kernel_rfl) (fun _ _ d _ _ h => by cases d <;> exact h) ?_
      have hb : OutL RL w2 w2.drew := (OutL.refl _ _).drew
      iterate 17
        first | refine wpS_takeL rfl rfl ?_ | refine wpS_takeN rfl ⟨_, rfl⟩ ?_
        go_big_quiet_step (rfl)
        refine wpQuiet_nil ?_
      refine wpS_doL rfl ?_
      intro K hK
      go_wp2_with fail
      refine (Delete_h 0 v ((DK O a b c 1) b) i w2.drew HROW4.out.drew HIL.out hln).mono ?_
      rintro e W5 ⟨v', rfl, hr5, hg5, hl5⟩
      obtain ⟨ao', cap', hv', _, _, _⟩ := hr5.val
      obtain ⟨nn, hnn⟩ : ∃ nn, (List.take i ((DK O a b c 1) b) ++ List.drop (i + 1) ((DK O a b c 1) b)).length = nn := ⟨_, rfl⟩
      rw [hnn] at hv'
      subst hv'
      clear hnn
      have hbo5 : OutL RL w2 W5 := hb.trans ⟨hg5.os, hg5.tape, hg5.output, hg5.size, fun k hk hc => hg5.block k hk fun e => hc (by rw [← HRL.out, ← e]; simp)⟩
      go_wp2_with fail
      refine hK.out _ _ (upl hbo5) ?_
      clear hK K
      have hfc : w2.cell? ⟨ob, b, none⟩ = some v := cr
      have cr5 : W5.cell? ⟨ob, b, none⟩ = some v := (World.cell?_of_block (a := ⟨ob, b, none⟩) (hbo5.block ob lo no)).trans hfc
      have fr5 : W5.frozen? ⟨ob, b, none⟩ = false := (World.frozen?_of_block (a := ⟨ob, b, none⟩) (hbo5.block ob lo no)).trans (by rw [← HV.out.2]; exact HM4.out.outf b)
      have hin := SM.set HM4.out nb (v' := .slice ao' nn cap') (L' := delH c ((DK O a b c 1) b)) (w1 := W5) (by rw [← delH_at HSR.out HJ.out]; exact hr5) (by rw [HV.out.1]; exact ⟨hg5.os, hg5.tape, hg5.output, hg5.size, hg5.block⟩) (by rw [HV.out.1]; exact hl5) rfl (fun u hu => HM4.out.dom b nb u (delH_sub hu)) (delH_sort HSR.out)
      rw [HV.out.2] at hin
      have HIN := Lib.hid hin
      have HFX := HF4
      clear hin hb hr5 hg5 hl5 hbo5 hfc c0 c1 c2 cr k0 k1 k2 lt lo lk nt no nk HJ HSR HM4 HROW4 HOWN HRL KT4 hi hln HIL hi1 hi2
      refine wpS_nil ?_
      simp only [List.drop_succ_cons, List.drop_zero]
      go_wp2_with fail
      go_roundg (2 - 1)
      case measure => omega
      case rel =>
        obtain ⟨D', h1, h2, h3, h4⟩ := HIN.out
        refine ⟨1 + 1, D', by rfl, by omega, by omega, Lib.hid h1, Lib.hid (HFX.out.trans h2 (fun b hb => ?_)), Lib.hid (fun g hgg => ?_), h4.trans hpo⟩
        · exact HH.out b hb
        · rcases h3 g hgg with h5 | h5
          · exact HH.out g h5
          · exact .inr (Nat.le_trans HFX.out.size h5)
    · have hix : ∀ w, Sem.run Try.prog (Instr.index 96 (sI a b c) (.int .i64 2)) w = .ok (tI c a b) w := fun w => side_at a b c 2 (by omega) w
      go_wp2_with fail
      refine name_world ?_
      intro W2 hW2
      have kt : Blk W2 wr.heap.size #[.int .i64 (c : Nat), .int .i64 (a : Nat), .int .i64 (b : Nat)] 36 := by rw [hW2]; exact Blk.new wr _ _
      have hbw : Below wr.heap.size wr W2 := by rw [hW2]; exact below_a1 wr _
      clear hW2
      have HM2 := Lib.hid (HM.out.of hbw)
      have HF2 := Lib.hid (HF.out.trans (Fr.ofBelow (S := fun _ => False) hbw) (fun b hb => hb.elim))
      have KT := Lib.hid kt
      have hsz2 : wr.heap.size ≤ W2.heap.size := hbw.size
      clear hbw kt HM HF
      obtain ⟨c0, c1, c2⟩ := HM2.out.c
      obtain ⟨v, hv⟩ : ∃ v, Dk.V c = v := ⟨_, rfl⟩
      have cr := HM2.out.row nc
      have hrow := HM2.out.rows c nc
      rw [hv] at cr hrow
      obtain ⟨ob, hob⟩ : ∃ ob, Dk.ob = ob := ⟨_, rfl⟩
      rw [hob] at cr c1
      have HROW := Lib.hid hrow
      have HSR := Lib.hid (HM2.out.sort c nc)
      have hln := HM2.out.len c nc
      have hsm := HM2.out.small
      have k0 := KT.out.cell 0
      have k1 := KT.out.cell 1
      have k2 := KT.out.cell 2
      have lt := HM2.out.lt (b := t) (.inl rfl)
      have lo : ob < W2.heap.size := by rw [← hob]; exact HM2.out.lt (.inr (.inl rfl))
      have lk := KT.out.lt
      have HV := Lib.hid (And.intro hv hob)
      clear hrow hv hob
      refine wp_region_up W2.heap.size 16 [(true, 0), (true, 1), (true, 2), (true, 3), (true, 4), (true, 5), (true, 6), (true, 7), (true, 8), (true, 9), (true, 10), (false, 11), (true, 12), (true, 13), (true, 14), (true, 15)] (by kernel_rfl) (by kernel_rfl) (fun _ _ d _ _ h => by cases d <;> exact h) ?_
      have hb : Below W2.heap.size W2 W2.drew := (Below.refl _ _).drew
      iterate 11
        first | refine wpS_takeL rfl rfl ?_ | refine wpS_takeN rfl ⟨_, rfl⟩ ?_
        go_big_quiet_step (rfl)
        refine wpQuiet_nil ?_
      refine wpS_doL rfl ?_
      intro K hK
      go_wp2_with ((go_at_call 52; (refine (Find_h 0 v ((DK O a b c 2) c) a 0 _ (HROW.out.of hb) HSR.out hln).mono ?_); rintro e w2 ⟨i, ok, rfl, hn, hi, hj, hok⟩))
      replace hb := hb.trans (hn.mono hb.size)
      refine hK.out _ _ (up_iff.2 hb) ?_
      clear hK K
      clear hn
      iterate 4
        first | refine wpS_takeL rfl rfl ?_ | refine wpS_takeN rfl ⟨_, rfl⟩ ?_
        go_big_quiet_step (rfl)
        refine wpQuiet_nil ?_
      refine wpS_nil ?_
      simp only [List.drop_succ_cons, List.drop_zero]
      have hmem := (look_mem HSR.out).2 HA2.out
      obtain ⟨jj, hjj⟩ := List.mem_iff_getElem?.1 hmem
      have hji : jj = i := by
        rcases Nat.lt_or_ge jj i with h | h
        · have := (hj jj _ hjj).1 h
          have h2 : (a : Int) < (a : Int) := this
          omega
        · rcases Nat.lt_or_ge i jj with h2 | h2
          · have h3 : i < ((DK O a b c 2) c).length := by have := (List.getElem?_eq_some_iff.1 hjj).1; omega
            have h4 := (hj i _ (List.getElem?_eq_getElem h3)).2 (Nat.le_refl _)
            have h5 := HSR.out i jj _ _ h2 (List.getElem?_eq_getElem h3) hjj
            have h6 : ((DK O a b c 2) c)[i].1 < a := h5
            omega
          · omega
      have hok2 : ok = true := hok.2 ⟨_, by rw [← hji]; exact hjj, rfl⟩
      rw [hji] at hjj
      have hil := (List.getElem?_eq_some_iff.1 hjj).1
      have HJ := Lib.hid hjj
      subst hok2
      clear hmem hji
      have HM4 := Lib.hid (HM2.out.of hb)
      have HF4 := Lib.hid (HF2.out.trans (Fr.ofBelow (S := fun _ => False) hb) (fun b hb => hb.elim))
      have HROW4 := Lib.hid (HROW.out.of hb)
      have KT4 := Lib.hid (KT.out.of hb)
      have hsz4 := Nat.le_trans hsz2 hb.size
      clear hb HM2 HF2 HROW KT c0 c1 c2 cr k0 k1 k2 lt lo lk hsz2 hj hok
      obtain ⟨c0, c1, c2⟩ := HM4.out.c
      have cr := HM4.out.row nc
      rw [HV.out.2] at c1 cr
      rw [HV.out.1] at cr
      have k0 := KT4.out.cell 0
      have k1 := KT4.out.cell 1
      have k2 := KT4.out.cell 2
      have lt := HM4.out.lt (b := t) (.inl rfl)
      have lo : ob < w2.heap.size := by rw [← HV.out.2]; exact HM4.out.lt (.inr (.inl rfl))
      have lk := KT4.out.lt
      go_wp2_with fail
      obtain ⟨RL, hRL⟩ : ∃ RL, v.ownBlock.toList = RL := ⟨_, rfl⟩
      have hown : ∀ g, v.ownBlock = some g → g ≠ t ∧ g ≠ ob ∧ g ≠ wr.heap.size ∧ g < w2.heap.size := by
        intro g hgg
        obtain ⟨e1, e2, e3⟩ := HM4.out.rowne nc (by rw [HV.out.1]; exact hgg)
        refine ⟨e1, by rw [← HV.out.2]; exact e2, fun e => ?_, e3⟩
        subst e
        exact absurd (HROW4.out.typ hgg KT4.out) (by decide)
      have nt : t ∉ RL := by rw [← hRL]; intro h; exact (hown t (by simpa using h)).1 rfl
      have no : ob ∉ RL := by rw [← hRL]; intro h; exact (hown ob (by simpa using h)).2.1 rfl
      have nk : wr.heap.size ∉ RL := by rw [← hRL]; intro h; exact (hown _ (by simpa using h)).2.2.1 rfl
      have HRL := Lib.hid hRL
      have HOWN := Lib.hid hown
      clear hRL hown
      have hic : (((DK O a b c 2) c).length : Int) ≤ 4096 := by
        have := sort_len HSR.out fun x hx => (HM4.out.dom c nc x hx).1
        omega
      have hi1 : (i : Int) ≤ 4096 := by omega
      have hi2 : i ≤ 4096 := by omega
      have HIL := Lib.hid hil
      clear hic hjj hil
      refine wp_region_upl RL 18 [(true, 0), (true, 1), (true, 2), (true, 3), (true, 4), (true, 5), (true, 6), (true, 7), (true, 8), (true, 9), (true, 10), (true, 11), (true, 12), (true, 13), (true, 14), (true, 15), (true, 16), (false, 17)] (by kernel_rfl) (by kernel_rfl) (fun _ _ d _ _ h => by cases d <;> exact h) ?_
      have hb : OutL RL w2 w2.drew := (OutL.refl _ _).drew
      iterate 17
        first | refine wpS_takeL rfl rfl ?_ | refine wpS_takeN rfl ⟨_, rfl⟩ ?_
        go_big_quiet_step (rfl)
        refine wpQuiet_nil ?_
      refine wpS_doL rfl ?_
      intro K hK
      go_wp2_with fail
      refine (Delete_h 0 v ((DK O a b c 2) c) i w2.drew HROW4.out.drew HIL.out hln).mono ?_
      rintro e W5 ⟨v', rfl, hr5, hg5, hl5⟩
      obtain ⟨ao', cap', hv', _, _, _⟩ := hr5.val
      obtain ⟨nn, hnn⟩ : ∃ nn, (List.take i ((DK O a b c 2) c) ++ List.drop (i + 1) ((DK O a b c 2) c)).length = nn := ⟨_, rfl⟩
      rw [hnn] at hv'
      subst hv'
      clear hnn
      have hbo5 : OutL RL w2 W5 := hb.trans ⟨hg5.os, hg5.tape, hg5.output, hg5.size, fun k hk hc => hg5.block k hk fun e => hc (by rw [← HRL.out, ← e]; simp)⟩
      go_wp2_with fail
      refine hK.out _ _ (upl hbo5) ?_
      clear hK K
      have hfc : w2.cell? ⟨ob, c, none⟩ = some v := cr
      have cr5 : W5.cell? ⟨ob, c, none⟩ = some v := (World.cell?_of_block (a := ⟨ob, c, none⟩) (hbo5.block ob lo no)).trans hfc
      have fr5 : W5.frozen? ⟨ob, c, none⟩ = false := (World.frozen?_of_block (a := ⟨ob, c, none⟩) (hbo5.block ob lo no)).trans (by rw [← HV.out.2]; exact HM4.out.outf c)
      have hin := SM.set HM4.out nc (v' := .slice ao' nn cap') (L' := delH a ((DK O a b c 2) c)) (w1 := W5) (by rw [← delH_at HSR.out HJ.out]; exact hr5) (by rw [HV.out.1]; exact ⟨hg5.os, hg5.tape, hg5.output, hg5.size, hg5.block⟩) (by rw [HV.out.1]; exact hl5) rfl (fun u hu => HM4.out.dom c nc u (delH_sub hu)) (delH_sort HSR.out)
      rw [HV.out.2] at hin
      have HIN := Lib.hid hin
      have HFX := HF4
      clear hin hb hr5 hg5 hl5 hbo5 hfc c0 c1 c2 cr k0 k1 k2 lt lo lk nt no nk HJ HSR HM4 HROW4 HOWN HRL KT4 hi hln HIL hi1 hi2
      refine wpS_nil ?_
      simp only [List.drop_succ_cons, List.drop_zero]
      go_wp2_with fail
      go_roundg (2 - 2)
      case measure => omega
      case rel =>
        obtain ⟨D', h1, h2, h3, h4⟩ := HIN.out
        refine ⟨2 + 1, D', by rfl, by omega, by omega, Lib.hid h1, Lib.hid (HFX.out.trans h2 (fun b hb => ?_)), Lib.hid (fun g hgg => ?_), h4.trans hpo⟩
        · exact HH.out b hb
        · rcases h3 g hgg with h5 | h5
          · exact HH.out g h5
          · exact .inr (Nat.le_trans HFX.out.size h5)
    · obtain ⟨c0, c1, c2⟩ := HM.out.c
      have f2 := HM.out.blk.free 2
      have hw : wrap64 (n - 1) = n - 1 := by unfold wrap64; omega
      have HN := Lib.hid (SM.setn HM.out (n - 1))
      go_wp2_with fail
      simp [bodyPost, results, Try.results33, go_sem]
      exact ⟨Dk, HN.out.1, HF.out.trans HN.out.2 (fun b hb => HH.out b (.inl hb)), HH.out, hpo⟩
end Go.Proofs.Ytdlpfiiakmhnlaa

namespace Go.Proofs.Ytdlpfiiakmhnlaa
open Go.RowKit
attribute [local go_sem] undef

set_option maxRecDepth 100000 in
set_option maxHeartbeats 2000000 in
theorem awake_is (w : World) : Calls Try.prog 11 #[] w fun e w' => e = .returned (.bool true) ∧ Below w.heap.size w w' := by
  go_enter Try.func11, Try.ntmps11
  go_wp2_with fail
  refine calls_w ?_
  intro V hV
  have bV : Below w.heap.size w V := by rw [hV]; exact below_a1 _ _
  have P1 : Pts V (some ⟨w.heap.size, 0, none⟩) 4 4 (lX [0, 0, 2, 2]) (lX [0, 2, 0, 2]) := by
    rw [hV]
    refine Pts.ofBlk (Blk.new w _ _) (by omega) fun i hi => ?_
    rcases (show i = 0 ∨ i = 1 ∨ i = 2 ∨ i = 3 by omega) with rfl | rfl | rfl | rfl <;> exact ⟨rfl, rfl⟩
  clear hV
  refine (Build_tri _ 4 4 _ _ V P1 (by omega) aw_1.1 aw_1.2).mono ?_
  rintro e V2 ⟨t, D, q, T, O, rfl, hT, hS, _, hb⟩
  obtain rfl := aw_q hT.ln
  obtain ⟨h, z, e1, e2, _, _, _, _, _, hH, _⟩ := hT.some (by omega)
  have hl : T.length = 2 := by
    rw [e1]; exact aw_len.1
  have hl2 : (rotH h z).length = 4 := by rw [rotH_len, e2]; exact aw_len.2
  rw [hl] at hS
  have HS := Lib.hid hS
  have HH := Lib.hid hH
  have HL := Lib.hid hl2
  have B2 := Lib.hid (bV.trans (hb.mono bV.size))
  clear P1 hT hS hH hl hl2 e1 e2 hb bV
  go_wp2_with fail
  refine (Len_is t D 4 _ _ O _ V2 HS.out).mono ?_
  rintro e V3 ⟨rfl, hb⟩
  have HS3 := Lib.hid (HS.out.of hb)
  have B3 := Lib.hid (B2.out.trans (hb.mono B2.out.size))
  clear hb HS B2
  go_wp2_with fail
  refine calls_w ?_
  intro V hV
  have bV : Below V3.heap.size V3 V := by rw [hV]; exact below_a1 _ _
  have P1 : Pts V (some ⟨V3.heap.size, 0, none⟩) 3 3 (lX [0, 1, 2]) (lX [0, 0, 0]) := by
    rw [hV]
    refine Pts.ofBlk (Blk.new V3 _ _) (by omega) fun i hi => ?_
    rcases (show i = 0 ∨ i = 1 ∨ i = 2 by omega) with rfl | rfl | rfl <;> exact ⟨rfl, rfl⟩
  clear hV
  refine (Build_tri _ 3 3 _ _ V P1 (by omega) aw_2.1 aw_2.2).mono ?_
  rintro e V4 ⟨t2, D2, q2, T2, O2, rfl, hT, hS, _, hb⟩
  obtain rfl := hT.none (aw_q2 hT.ln)
  have HA := Lib.hid hS
  have BB := bV.trans (hb.mono bV.size)
  have HS4 := Lib.hid (HS3.out.of BB)
  have B4 := Lib.hid (B3.out.trans (BB.mono B3.out.size))
  clear P1 hT hS hb BB bV HS3 B3
  go_wp2_with fail
  refine calls_w ?_
  intro V hV
  have bV : Below V4.heap.size V4 V := by rw [hV]; exact below_a1 _ _
  have P1 : Pts V (some ⟨V4.heap.size, 0, none⟩) 2 2 (lX [1, 0]) (lX [0, 0]) := by
    rw [hV]
    refine Pts.ofBlk (Blk.new V4 _ _) (by omega) fun i hi => ?_
    rcases (show i = 0 ∨ i = 1 by omega) with rfl | rfl <;> exact ⟨rfl, rfl⟩
  clear hV
  refine (Build_fall _ 2 2 _ _ V P1 (by omega) aw_3.1 aw_3.2).mono ?_
  rintro e V5 ⟨rfl, hb⟩
  have BB := bV.trans (hb.mono bV.size)
  have HS5 := Lib.hid (HS4.out.of BB)
  have HA5 := Lib.hid (HA.out.of BB)
  have B5 := Lib.hid (B4.out.trans (BB.mono B4.out.size))
  clear P1 hb BB bV HS4 B4 HA
  go_wp2_with fail
  refine (Len_is t2 D2 3 _ _ O2 _ V5 HA5.out).mono ?_
  rintro e V6 ⟨rfl, hb⟩
  have HS6 := Lib.hid (HS5.out.of hb)
  have B6 := Lib.hid (B5.out.trans (hb.mono B5.out.size))
  clear hb HS5 B5 HA5
  go_wp2_with fail
  refine (Hull_is t D 4 _ _ O _ _ HH.out (by decide) V6 HS6.out).mono ?_
  rintro e V7 ⟨v, rfl, hv, hb⟩
  obtain ⟨ao, cap, rfl, _⟩ := hv.val
  rw [HL.out]
  have B7 := Lib.hid (B6.out.trans (hb.mono B6.out.size))
  clear hb hv HS6 B6
  go_wp2
  go_ret
  exact ⟨rfl, B7.out⟩
end Go.Proofs.Ytdlpfiiakmhnlaa

namespace Go.Proofs.Ytdlpfiiakmhnlaa
open Go.RowKit

/-- a slice of calls: kinds and triangles -/
structure TOps (w : World) (ao : Option Addr) (n cap : Nat) (K A B C : Nat → Int) : Prop where
  ptr : 0 < n → ∃ a, ao = some a ∧ a.block < w.heap.size ∧ ∀ i, i < n → w.cell? (a.add (i * 4)) = some (.int .i64 (K i)) ∧ w.cell? ((a.add (i * 4)).add 1) = some (.int .i64 (A i)) ∧ w.cell? ((a.add (i * 4)).add 2) = some (.int .i64 (B i)) ∧ w.cell? ((a.add (i * 4)).add 3) = some (.int .i64 (C i))
  capl : n ≤ cap
  capb : cap ≤ 9223372036854775807
theorem TOps.at {w wr : World} {ao : Option Addr} {n cap : Nat} {K A B C : Nat → Int} (h : TOps w ao n cap K A B C) (hb : Below w.heap.size w wr) {i : Nat} (hi : i < n) :
    ∃ a, ao = some a ∧ wr.cell? (a.add (i * 4)) = some (.int .i64 (K i)) ∧ wr.cell? { block := (a.add (i * 4)).block, off := (a.add (i * 4)).off + 1 } = some (.int .i64 (A i)) ∧ wr.cell? { block := (a.add (i * 4)).block, off := (a.add (i * 4)).off + 2 } = some (.int .i64 (B i)) ∧ wr.cell? { block := (a.add (i * 4)).block, off := (a.add (i * 4)).off + 3 } = some (.int .i64 (C i)) := by
  obtain ⟨a, h1, h2, h3⟩ := h.ptr (by omega)
  have e1 : ∀ k, (a.add k).block = a.block := fun k => by unfold Addr.add; split <;> rfl
  have e2 : ∀ k l, ((a.add k).add l).block = a.block := fun k l => by unfold Addr.add; split <;> split <;> rfl
  obtain ⟨q0, q1, q2, q3⟩ := h3 i hi
  refine ⟨a, h1, ?_, ?_, ?_, ?_⟩
  · rw [hb.cell (by rw [e1]; exact h2)]; exact q0
  · have : wr.cell? ((a.add (i * 4)).add 1) = some (.int .i64 (A i)) := by rw [hb.cell (by rw [e2]; exact h2)]; exact q1
    exact this
  · have : wr.cell? ((a.add (i * 4)).add 2) = some (.int .i64 (B i)) := by rw [hb.cell (by rw [e2]; exact h2)]; exact q2
    exact this
  · have : wr.cell? ((a.add (i * 4)).add 3) = some (.int .i64 (C i)) := by rw [hb.cell (by rw [e2]; exact h2)]; exact q3
    exact this
theorem TOps.of {w wr : World} {ao : Option Addr} {n cap : Nat} {K A B C : Nat → Int} (h : TOps w ao n cap K A B C) (hb : Below w.heap.size w wr) : TOps wr ao n cap K A B C := by
  refine ⟨fun h0 => ?_, h.capl, h.capb⟩
  obtain ⟨a, h1, h2, h3⟩ := h.ptr h0
  have e1 : ∀ k, (a.add k).block = a.block := fun k => by unfold Addr.add; split <;> rfl
  have e2 : ∀ k l, ((a.add k).add l).block = a.block := fun k l => by unfold Addr.add; split <;> split <;> rfl
  refine ⟨a, h1, Nat.lt_of_lt_of_le h2 hb.size, fun i hi => ?_⟩
  rw [hb.cell (by rw [e1]; exact h2), hb.cell (by rw [e2]; exact h2), hb.cell (by rw [e2]; exact h2), hb.cell (by rw [e2]; exact h2)]
  exact h3 i hi
end Go.Proofs.Ytdlpfiiakmhnlaa

namespace Go.Proofs.Ytdlpfiiakmhnlaa
open Go.RowKit
attribute [local go_sem] undef

theorem Trs.one {w : World} {b p0 p1 p2 : Nat} {ty : TypeId} (h : Blk w b #[.int .i64 (p0 : Nat), .int .i64 (p1 : Nat), .int .i64 (p2 : Nat)] ty) : Trs w (some ⟨b, 0, none⟩) 1 [(p0, p1, p2)] := by
  refine ⟨fun _ => ⟨b, rfl, h.lt, fun j x hx => ?_⟩, Nat.le_refl _, by omega⟩
  match j, hx with
  | 0, hx => simp at hx; subst hx; exact ⟨h.cell 0, h.cell 1, h.cell 2⟩
  | j + 1, hx => simp at hx
theorem pre_len (O : Nat → List (Nat × Nat)) {N M : Nat} (h : ∀ a, a < N → (O a).length ≤ M) : (preO O N).length ≤ N * M := by
  induction N with
  | zero => show 0 ≤ _; omega
  | succ N ih =>
    show (preO O N ++ told N (O N)).length ≤ _
    have h1 := ih fun a ha => h a (by omega)
    have h2 := h N (by omega)
    have h3 : (told N (O N)).length ≤ (O N).length := by unfold told; rw [List.length_map]; exact List.length_filter_le _ _
    rw [List.length_append, Nat.succ_mul]; omega
theorem SM.preL {w : World} {t : Nat} {D : SD} {N : Nat} {X Y : Nat → Int} {O : Nat → List (Nat × Nat)} {n : Int} (h : SM w t D N X Y O n) : (preO O N).length < 100000000 := by
  have h1 := pre_len O (N := N) (M := N) fun a ha => sort_len (h.sort a ha) fun x hx => (h.dom a ha x hx).1
  have h2 := h.small
  have : N * N ≤ 4096 * 4096 := Nat.mul_le_mul h2 h2
  omega
end Go.Proofs.Ytdlpfiiakmhnlaa

namespace Go.Proofs.Ytdlpfiiakmhnlaa
open Go.RowKit

theorem tri_src {w : World} {g off : Nat} {L : List Tri3} (h : ∀ (i : Nat) (x : Tri3), L[i]? = some x → w.cell? ⟨g, (off + i) * 3, none⟩ = some (.int .i64 (x.1 : Nat)) ∧ w.cell? ⟨g, (off + i) * 3 + 1, none⟩ = some (.int .i64 (x.2.1 : Nat)) ∧ w.cell? ⟨g, (off + i) * 3 + 2, none⟩ = some (.int .i64 (x.2.2 : Nat))) :
    ∀ (j : Nat) (u : Value), (tC L)[j]? = some u → w.cell? ((⟨g, off * 3, none⟩ : Addr).add j) = some u := by
  intro j u hj
  have hl : j < (tC L).length := (List.getElem?_eq_some_iff.1 hj).1
  rw [tC_len] at hl
  obtain ⟨x, hx⟩ : ∃ x, L[j / 3]? = some x := ⟨_, List.getElem?_eq_getElem (show j / 3 < L.length by omega)⟩
  obtain ⟨c0, c1, c2⟩ := h _ _ hx
  obtain ⟨d0, d1, d2⟩ := tC_at hx
  have e : ∀ j : Nat, (⟨g, off * 3, none⟩ : Addr).add j = ⟨g, off * 3 + j, none⟩ := fun j => by unfold Addr.add; split <;> simp_all
  rw [e]
  rcases (show j = j / 3 * 3 ∨ j = j / 3 * 3 + 1 ∨ j = j / 3 * 3 + 2 by omega) with h3 | h3 | h3
  · rw [h3] at hj
    rw [d0] at hj
    injection hj with hj
    rw [← hj, h3, show off * 3 + j / 3 * 3 = (off + j / 3) * 3 by omega]
    exact c0
  · rw [h3] at hj
    rw [d1] at hj
    injection hj with hj
    rw [← hj, h3, show off * 3 + (j / 3 * 3 + 1) = (off + j / 3) * 3 + 1 by omega]
    exact c1
  · rw [h3] at hj
    rw [d2] at hj
    injection hj with hj
    rw [← hj, h3, show off * 3 + (j / 3 * 3 + 2) = (off + j / 3) * 3 + 2 by omega]
    exact c2
theorem tC_one : ∀ (L : List Tri3), ∀ u ∈ tC L, u.oneCell' = true := by
  intro L u hu
  unfold tC at hu
  rw [List.mem_flatMap] at hu
  obtain ⟨x, _, hx⟩ := hu
  simp at hx
  rcases hx with rfl | rfl | rfl <;> rfl
theorem run_append_tri (w : World) (base : Nat) (ty : TypeId) (v : Value) (L news : List Tri3) (g off m c : Nat) (hT : TL w base v L) (hm : news.length = m)
    (hsrc : ∀ (i : Nat) (x : Tri3), news[i]? = some x → w.cell? ⟨g, (off + i) * 3, none⟩ = some (.int .i64 (x.1 : Nat)) ∧ w.cell? ⟨g, (off + i) * 3 + 1, none⟩ = some (.int .i64 (x.2.1 : Nat)) ∧ w.cell? ⟨g, (off + i) * 3 + 2, none⟩ = some (.int .i64 (x.2.2 : Nat)))
    (hL : L.length + m < 1000000000) (hbase : base ≤ w.heap.size) :
    ∃ v' w', (Builtin.append_ #[38, 38] ty #[v, .slice (some ⟨g, off * 3, none⟩) m c]).run Try.prog w = .ok v' w' ∧ TL w' base v' (L ++ news) ∧ w.grownBy w' v.ownBlock ∧ (v'.ownBlock = v.ownBlock ∨ v'.ownBlock = some w.heap.size) := by
  obtain ⟨i0, hi, hz0, hz1, hz2⟩ := info_parts info_tri
  obtain ⟨v', w', hr, h2, h3, h4, h5⟩ := run_append_own_at (P := Try.prog) w base 38 ty 35 i0 (.agg #[.int .i64 0, .int .i64 0, .int .i64 0]) 3 24 Try.underlying38 hi hz0 hz1 hz2 rfl (by decide) v L.length (tC L) hT ⟨g, off * 3, none⟩ m c (tC news) (by rw [tC_len, hm]) (tri_src hsrc) (tC_one news) (by unfold maxLen; omega) (by omega) hbase
  refine ⟨v', w', hr, ?_, h3, h5⟩
  unfold TL
  rw [List.length_append, tC_app, hm]
  exact h2
end Go.Proofs.Ytdlpfiiakmhnlaa

namespace Go.Proofs.Ytdlpfiiakmhnlaa
open Go.RowKit Go.Shelf

/-- a store beside a list that was made of it: all that a step keeps -/
structure PS (B : Nat) (w : World) (t N : Nat) (X Y : Nat → Int) (v : Value) (x : List Tri3) : Prop where
  ex : ∃ (D : SD) (O : Nat → List (Nat × Nat)), SM w t D N X Y O (x.length : Nat) ∧ WS N O x.length ∧ XL O x ∧ ∀ g, D.has t N g → B ≤ g
  tl : TL w B v x
theorem PS.of {B : Nat} {w w' : World} {t N : Nat} {X Y : Nat → Int} {v : Value} {x : List Tri3} (h : PS B w t N X Y v x) (hb : Below w.heap.size w w') : PS B w' t N X Y v x := by
  obtain ⟨D, O, h1, h2, h3, h4⟩ := h.ex
  exact ⟨⟨D, O, h1.of hb, h2, h3, h4⟩, own_belowT h.tl hb⟩
theorem rot_nats {y : Tri3} {t0 t1 t2 : Int} (hr : isRot y t0 t1 t2 = true) : ∃ a b c : Nat, t0 = a ∧ t1 = b ∧ t2 = c := by
  rcases isRot_iff.1 hr with ⟨h1, h2, h3⟩ | ⟨h1, h2, h3⟩ | ⟨h1, h2, h3⟩
  · exact ⟨_, _, _, h1.symm, h2.symm, h3.symm⟩
  · exact ⟨_, _, _, h3.symm, h1.symm, h2.symm⟩
  · exact ⟨_, _, _, h2.symm, h3.symm, h1.symm⟩
theorem TL.low {w : World} {base base' : Nat} {v : Value} {L : List Tri3} (h : TL w base v L) (hb : base' ≤ base) : TL w base' v L := by
  refine ⟨h.1, h.2.imp id ?_⟩
  rintro ⟨g, cap, cur, e, hbg, r⟩
  exact ⟨g, cap, cur, e, by omega, r⟩
theorem TL.typ {w : World} {base : Nat} {v : Value} {L : List Tri3} (h : TL w base v L) {g : Nat} (hg : v.ownBlock = some g) : ∃ cur, w.heap[g]? = some (.cells cur 35 (0, 0)) := by
  rcases h.2 with ⟨e, _⟩ | ⟨g', cap, cur', e, _, hh, _⟩
  · rw [e] at hg; cases hg
  · rw [e] at hg; cases hg
    exact ⟨cur', hh⟩
set_option maxRecDepth 100000 in
set_option maxHeartbeats 8000000 in
theorem TriPlays_any (ao : Option Addr) (N cap : Nat) (X Y : Nat → Int) (ao2 : Option Addr) (m cap2 : Nat) (K A B C : Nat → Int) (w : World) (h : Pts w ao N cap X Y) (h2 : TOps w ao2 m cap2 K A B C) :
    Calls Try.prog 8 #[.slice ao N cap, .slice ao2 m cap2] w fun e w' => e = .returned (.bool true) ∧ Below w.heap.size w w' := by
  have HP := Lib.hid h
  have HO := Lib.hid h2
  have hcl := h.capl
  have hcb := h.capb
  have hcl2 := h2.capl
  have hcb2 := h2.capb
  clear h h2
  go_enter Try.func8, Try.ntmps8
  by_cases h12 : 12 < N
  · have h12' : (12 : Int) < (N : Int) := by omega
    go_wp2_with fail
    refine (awake_is _).mono ?_
    rintro e V ⟨rfl, hb⟩
    go_wp2
    go_ret
    exact ⟨rfl, hb⟩
  · have h12' : ¬ (12 : Int) < (N : Int) := by omega
    by_cases h30 : 30 < m
    · have h30' : (30 : Int) < (m : Int) := by omega
      go_wp2_with fail
      refine (awake_is _).mono ?_
      rintro e V ⟨rfl, hb⟩
      go_wp2
      go_ret
      exact ⟨rfl, hb⟩
    · have h30' : ¬ (30 : Int) < (m : Int) := by omega
      go_wp2_with fail
      refine (rising_is ao N cap X Y w HP.out (by omega)).mono ?_
      rintro e V ⟨b, rfl, hr, hb⟩
      rw [rsP_ris] at hr
      have HR := Lib.hid hr
      have B0 := Lib.hid hb
      clear hr hb
      cases b with
      | false =>
        go_wp2_with fail
        refine (awake_is _).mono ?_
        rintro e V2 ⟨rfl, hb⟩
        have hb2 := B0.out.trans (hb.mono B0.out.size)
        clear hb B0
        go_wp2
        go_ret
        exact ⟨rfl, hb2⟩
      | true =>
        obtain ⟨hg, hri⟩ := HR.out.1 rfl
        have HG := Lib.hid hg
        have HRI := Lib.hid hri
        clear hg hri
        go_wp2_with fail
        refine (Build_tri ao N cap X Y V (HP.out.of B0.out) (by omega) HG.out HRI.out).mono ?_
        rintro e V1 ⟨t, D, q, T, O, rfl, hT, hS, hDl, hb⟩
        have hws := hT.ws
        have B1 := Lib.hid (B0.out.trans (hb.mono B0.out.size))
        have HD1 := Lib.hid (show ∀ g, D.has t N g → w.heap.size ≤ g from fun g hg => Nat.le_trans B0.out.size (hDl g hg))
        obtain ⟨L, hL⟩ : ∃ L, preO O N = L := ⟨_, rfl⟩
        have hln : L.length = T.length := by rw [← hL]; exact hws.cnt
        have hxl : XL O L := by rw [← hL]; exact XL.start hws.cyc hws.dom
        have HLL := Lib.hid hL
        have hlen : L.length < 100000000 := by rw [← hL]; exact hS.preL
        rw [← hln] at hws hS
        have HS1 := Lib.hid hS
        have HC1 := Lib.hid (And.intro hws hxl)
        clear hT hS hDl hb hL hws hxl B0 hln
        go_wp2_with fail
        refine (all_is t D N X Y O _ L HLL.out hlen V1 HS1.out).mono ?_
        rintro e V2 ⟨v, rfl, hTL, hb⟩
        have PS2 : Hid (PS w.heap.size V2 t N X Y v L) := Lib.hid ⟨⟨D, O, HS1.out.of hb, HC1.out.1, HC1.out.2, HD1.out⟩, hTL.low B1.out.size⟩
        have B2 := Lib.hid (B1.out.trans (hb.mono B1.out.size))
        clear hTL hb HS1 HC1 HD1 B1 HLL hlen
        go_wp2_with fail
        go_loopg [7, 44] m (fun gk s7 s44 wr => ∃ (i : Nat) (x : List Tri3), s44 = .int .i64 (i : Nat) ∧ i ≤ m ∧ m - i ≤ gk ∧ Hid (PS w.heap.size wr t N X Y s7 x) ∧ Hid (Below w.heap.size w wr))
        case atStart => exact ⟨0, L, rfl, by omega, by omega, PS2, B2⟩
        case round =>
          clear PS2 B2
          obtain ⟨i, x, rfl, hi, hgi, HPS, HB⟩ := hrel
          by_cases hlt : i < m
          · obtain ⟨oa, rfl, p0, p1, p2, p3⟩ := HO.out.at HB.out hlt
            obtain ⟨k, hk⟩ : ∃ k, K i = k := ⟨_, rfl⟩
            obtain ⟨a, ha⟩ : ∃ k, A i = k := ⟨_, rfl⟩
            obtain ⟨b, hb⟩ : ∃ k, B i = k := ⟨_, rfl⟩
            obtain ⟨c, hc⟩ : ∃ k, C i = k := ⟨_, rfl⟩
            rw [hk] at p0
            rw [ha] at p1
            rw [hb] at p2
            rw [hc] at p3
            clear hk ha hb hc
            obtain ⟨ao7, cap7, rfl, hpt⟩ := Trs.ofRow HPS.out.tl
            have hcl7 := hpt.capl
            have hcb7 := hpt.capb
            clear hpt
            obtain ⟨n7, hn7⟩ : ∃ n, x.length = n := ⟨_, rfl⟩
            have HN7 := Lib.hid hn7
            rw [hn7] at hcl7 HPS ⊢
            clear hn7
            by_cases hk1 : k = 1
            · subst hk1
              go_wp2_with fail
              refine calls_w ?_
              intro W0 hW
              have hbW : Below wr.heap.size wr W0 := by rw [hW]; exact below_a1 _ _
              have kO : Blk W0 wr.heap.size #[.int .i64 1, .int .i64 a, .int .i64 b, .int .i64 c] 72 := by rw [hW]; exact Blk.new _ _ _
              obtain ⟨ob, eob⟩ : ∃ b, wr.heap.size = b := ⟨_, rfl⟩
              rw [eob] at kO ⊢
              have PS0 := Lib.hid (HPS.out.of hbW)
              have B0 := Lib.hid (HB.out.trans (hbW.mono HB.out.size))
              have HN8 := HN7
              obtain ⟨D7, O7, hs7, hw7, hx7, hd7⟩ := PS0.out.ex
              obtain ⟨aox, capx, ex, hPx⟩ := Trs.ofRow PS0.out.tl
              obtain ⟨rfl, rfl⟩ : ao7 = aox ∧ cap7 = capx := by injection ex with e1 e2 e3; exact ⟨e1, e3⟩
              rw [HN8.out] at hs7 hw7
              have hn7 : n7 < 100000000 := by rw [← hw7.cnt]; exact hs7.preL
              obtain ⟨r, hr⟩ : ∃ r, addC N X Y O7 a b c = r := ⟨_, rfl⟩
              have hM := may_is ao N cap X Y O7 ao7 cap7 x a b c W0 (HP.out.of B0.out) (by omega) hPx (by rw [HN8.out]; exact hn7) hx7 hw7.cyc hw7.dom
              rw [HN8.out, hr] at hM
              have HR7 := Lib.hid hr
              refine hM.mono ?_
              rintro e W1 ⟨rfl, hb1⟩
              have HS1 := Lib.hid (hs7.of hb1)
              have HW1 := Lib.hid hw7
              have HX1 := Lib.hid hx7
              have HD1 := Lib.hid hd7
              have HT1 : Hid (TL W1 w.heap.size (.slice ao7 n7 cap7) x) := Lib.hid (own_belowT PS0.out.tl hb1)
              have B1 := Lib.hid (B0.out.trans (hb1.mono B0.out.size))
              have KO1 := Lib.hid (kO.of hb1)
              have k1 := KO1.out.cell 1
              have k2 := KO1.out.cell 2
              have k3 := KO1.out.cell 3
              have lo := KO1.out.lt
              simp only [List.getElem?_toArray, List.getElem?_cons_zero, List.getElem?_cons_succ] at k1 k2 k3
              clear hM hr hb1 kO hs7 hw7 hx7 hd7 hPx ex PS0 B0 hbW hW HPS HB HN7 p0 p1 p2 p3 eob
              go_wp2_with fail
              have hA := Add_is t D7 N X Y O7 (n7 : Nat) a b c W1 HS1.out (by omega)
              rw [HR7.out] at hA
              refine hA.mono ?_
              clear hA
              rintro e W2 ⟨rfl, hcase⟩
              rcases hcase with ⟨hne, hb2⟩ | ⟨rfl, D', q1, q2, q3, q4⟩
              · have PS2 : Hid (PS w.heap.size W2 t N X Y (.slice ao7 n7 cap7) x) := Lib.hid ⟨⟨D7, O7, by rw [HN8.out]; exact HS1.out.of hb2, by rw [HN8.out]; exact HW1.out, HX1.out, HD1.out⟩, own_belowT HT1.out hb2⟩
                have B8 := Lib.hid (B1.out.trans (hb2.mono B1.out.size))
                have hr0 : (r == 0) = false := by simpa using hne
                clear hne hb2 HS1 HW1 HX1 HD1 HT1 B1 KO1 k1 k2 k3 lo HR7
                go_wp2_with fail
                refine calls_w ?_
                intro W hW
                have PS8 : Hid (PS w.heap.size W t N X Y (.slice ao7 n7 cap7) x) := by rw [hW]; exact PS2
                rw [← hW] at B8
                clear hW PS2 hr0
                obtain ⟨D8, O8, hs8, hw8, hx8, hd8⟩ := PS8.out.ex
                have HTL8 := Lib.hid PS8.out.tl
                rw [HN8.out] at hs8 hw8
                have hn8 : n7 < 100000000 := by rw [← hw8.cnt]; exact hs8.preL
                have HS8 := Lib.hid hs8
                have HW8 := Lib.hid hw8
                have Hx := Lib.hid hx8
                have HD8 := Lib.hid hd8
                clear PS8 hs8 hw8 hx8 hd8
                refine (Len_is t D8 N X Y O8 _ W HS8.out).mono ?_
                rintro e W1 ⟨rfl, hb1⟩
                have HS9 := Lib.hid (HS8.out.of hb1)
                have B9 := Lib.hid (B8.out.trans (hb1.mono B8.out.size))
                have HTL9 := Lib.hid (own_belowT HTL8.out hb1)
                clear hb1 HS8 B8 HTL8
                go_wp2_with fail
                refine (whole_is t D8 N X Y O8 n7 hn8 HW8.out W1 HS9.out).mono ?_
                rintro e W2 ⟨rfl, hb1⟩
                have HSa := Lib.hid (HS9.out.of hb1)
                have Ba := Lib.hid (B9.out.trans (hb1.mono B9.out.size))
                have HTLa := Lib.hid (own_belowT HTL9.out hb1)
                clear hb1 HS9 B9 HTL9
                obtain ⟨LL, hLL⟩ : ∃ L, preO O8 N = L := ⟨_, rfl⟩
                have hlL : LL.length = n7 := by rw [← hLL]; exact HW8.out.cnt
                have HLL := Lib.hid hLL
                have HMEM : Hid (∀ y, y ∈ LL → ∃ z, z ∈ x ∧ isRot z y.1 y.2.1 y.2.2 = true) := Lib.hid fun y hy => by
                  rw [← hLL] at hy
                  exact Hx.out.rep _ _ _ ((look_mem (HW8.out.cyc.srt _)).1 (mem_preO.1 hy).2.1)
                clear hLL
                go_wp2_with fail
                refine (all_is t D8 N X Y O8 _ LL HLL.out (by omega) W2 HSa.out).mono ?_
                rintro e W3 ⟨v9, rfl, hTL9, hb1⟩
                obtain ⟨ao9, cap9, rfl, hP9⟩ := Trs.ofRow hTL9
                have hcl9 := hP9.capl
                have hcb9 := hP9.capb
                rw [hlL] at hcl9 ⊢
                have HLN := Lib.hid hlL
                have HP9 := Lib.hid hP9
                have HSb := Lib.hid (HSa.out.of hb1)
                have Bb := Lib.hid (Ba.out.trans (hb1.mono Ba.out.size))
                have HTLb := Lib.hid (own_belowT HTLa.out hb1)
                have PSb : Hid (PS w.heap.size W3 t N X Y (.slice ao7 n7 cap7) x) := Lib.hid ⟨⟨D8, O8, by rw [HN8.out]; exact HSb.out, by rw [HN8.out]; exact HW8.out, Hx.out, HD8.out⟩, HTLb.out⟩
                obtain ⟨aox, capx, ex, hPx⟩ := Trs.ofRow HTLb.out
                obtain ⟨rfl, rfl⟩ : ao7 = aox ∧ cap7 = capx := by injection ex with e1 e2 e3; exact ⟨e1, e3⟩
                have HPx := Lib.hid hPx
                clear hb1 HSa Ba HTLa hTL9 hP9 hlL HSb HTLb hPx ex
                go_wp2_with fail
                go_loopg [118] n7 (fun gk s118 wr => ∃ j : Nat, s118 = .int .i64 (j : Nat) ∧ j ≤ n7 ∧ n7 - j ≤ gk ∧ Hid (Below W3.heap.size W3 wr))
                case atStart => exact ⟨0, rfl, by omega, by omega, Lib.hid (Below.refl _ _)⟩
                case round =>
                  obtain ⟨j, rfl, hj, hgj, HBj⟩ := hrel
                  by_cases hjl : j < n7
                  · obtain ⟨⟨ya, yb, yc⟩, hy⟩ : ∃ x, LL[j]? = some x := ⟨_, List.getElem?_eq_getElem (show j < LL.length by rw [HLN.out]; exact hjl)⟩
                    obtain ⟨g, rfl, hg, hcell⟩ := (HP9.out.of HBj.out).ptr (by rw [HLN.out]; omega)
                    obtain ⟨q0, q1, q2⟩ := hcell j _ hy
                    simp only [] at q0 q1 q2
                    have HY := Lib.hid (HMEM.out _ (List.mem_iff_getElem?.2 ⟨j, hy⟩))
                    clear hcell hy
                    go_wp2_with fail
                    refine calls_w ?_
                    intro W5 hW5
                    have hb5 : Below wr.heap.size wr W5 := by rw [hW5]; exact below_a1 _ _
                    have hb6 := HBj.out.trans (hb5.mono HBj.out.size)
                    have hF := find_is ao7 cap7 x ya yb yc W5 (HPx.out.of hb6) (by rw [HN8.out]; exact hn8)
                    rw [HN8.out] at hF
                    refine hF.mono ?_
                    rintro e W6 ⟨r, rfl, hfr, hb7⟩
                    have HB7 := Lib.hid (hb6.trans (hb7.mono hb6.size))
                    have hr0 : ¬ r < 0 := by
                      rcases hfr with ⟨_, hno⟩ | ⟨i', _, hi', _⟩
                      · obtain ⟨z, hz1, hz2⟩ := HY.out
                        have := hno z hz1
                        rw [hz2] at this
                        cases this
                      · omega
                    clear hfr hb7 hb6 hb5 hW5 q0 q1 q2 hg hF HBj
                    have hr1 : decide (r < 0) = false := by simpa using hr0
                    go_wp2_with fail
                    go_roundg (n7 - (j + 1))
                    case measure => omega
                    case rel => exact ⟨j + 1, by norm_cast, by omega, Nat.le_refl _, HB7⟩
                  · have PSc := Lib.hid (PSb.out.of HBj.out)
                    have Bc := Lib.hid (Bb.out.trans (HBj.out.mono Bb.out.size))
                    go_wp2_with fail
                    go_roundg (m - (i + 1))
                    case measure => omega
                    case rel => exact ⟨i + 1, x, by norm_cast, by omega, Nat.le_refl _, PSc, Bc⟩
              · obtain ⟨xa, xb, xc, rfl, rfl, rfl, hxa, hxb, hxc, _, hnew⟩ := addC_new HR7.out
                simp only [Int.toNat_natCast] at q1
                have hob : ¬ D7.has t N ob := HS1.out.notHas KO1.out (by decide) (by decide) (by decide)
                have KO2 := q2.blk KO1.out hob
                have hvD : ∀ g, (Value.slice ao7 n7 cap7).ownBlock = some g → ¬ D7.has t N g := fun g hg => by
                  obtain ⟨cu, hcu⟩ := HT1.out.typ hg
                  exact HS1.out.notHas hcu (by decide) (by decide) (by decide)
                have HT2 : TL W2 w.heap.size (.slice ao7 n7 cap7) x := HT1.out.of fun g hg => q2.block g (HT1.out.lt hg).2 (hvD g hg)
                have hvD2 : ∀ g, (Value.slice ao7 n7 cap7).ownBlock = some g → ¬ D'.has t N g := fun g hg => by
                  obtain ⟨cu, hcu⟩ := HT2.typ hg
                  exact q1.notHas hcu (by decide) (by decide) (by decide)
                have hB2 : Below w.heap.size w W2 := B1.out.trans (q2.below B1.out.size (fun k hk => HD1.out k hk))
                have hd2 : ∀ g, D'.has t N g → w.heap.size ≤ g := fun g hg => by
                  rcases q3 g hg with h | h
                  · exact HD1.out g h
                  · have := B1.out.size; omega
                have hba := below_a1 W2 (.cells #[.int .i64 (xa : Nat), .int .i64 (xb : Nat), .int .i64 (xc : Nat)] 35)
                have kv := Blk.new W2 #[.int .i64 (xa : Nat), .int .i64 (xb : Nat), .int .i64 (xc : Nat)] 35
                obtain ⟨v', W, hrun, tl3, gr3, _⟩ := run_append_tri (W2.alloc (.cells #[.int .i64 (xa : Nat), .int .i64 (xb : Nat), .int .i64 (xc : Nat)] 35)) w.heap.size 38 (.slice ao7 n7 cap7) x [(xa, xb, xc)] W2.heap.size 0 1 1 (own_belowT HT2 hba) rfl (fun i y hy => by
                  match i, hy with
                  | 0, hy => simp at hy; subst hy; exact ⟨kv.cell 0, kv.cell 1, kv.cell 2⟩
                  | i + 1, hy => simp at hy) (by rw [HN8.out]; omega) (by have := hB2.size; simp; omega)
                simp only [Nat.zero_mul] at hrun
                have FIN : Hid (Below w.heap.size w W ∧ PS w.heap.size W t N X Y v' (x ++ [(xa, xb, xc)])) := by
                  have hF3 : Fr W2 W (fun b => (Value.slice ao7 n7 cap7).ownBlock = some b) := ⟨gr3.os.trans hba.os, gr3.tape.trans hba.tape, gr3.output.trans hba.output, Nat.le_trans hba.size gr3.size, fun k hk hn => (gr3.block k (by simp; omega) (fun e => hn e.symm)).trans (hba.block k hk)⟩
                  refine Lib.hid ⟨hB2.trans (hF3.below hB2.size fun k hk => (HT2.lt hk).1), ⟨D', _, ?_, ?_, HX1.out.put HW1.out.cyc hnew, hd2⟩, tl3⟩
                  · have e : (((x ++ [(xa, xb, xc)]).length : Nat) : Int) = (n7 : Int) + 1 := by rw [List.length_append, HN8.out]; simp
                    rw [e]
                    exact q1.fr hF3 (fun b hb h => hvD2 b h hb) (fun a' h1 h2 h3 => by
                      obtain ⟨cu, hcu⟩ := HT2.typ h3
                      obtain ⟨a'', cur, e1, e2⟩ := q1.pty h2
                      rw [h1] at e1; injection e1 with e1; subst e1
                      rw [e2] at hcu
                      injection hcu with hcu
                      injection hcu with _ h5
                      exact absurd h5 (by decide))
                  · have e : (x ++ [(xa, xb, xc)]).length = n7 + 1 := by rw [List.length_append, HN8.out]; rfl
                    rw [e]
                    exact HW1.out.put hnew hxa hxb hxc
                have j1 := KO2.cell 1
                have j2 := KO2.cell 2
                have j3 := KO2.cell 3
                have lo2 := KO2.lt
                simp only [List.getElem?_toArray, List.getElem?_cons_zero, List.getElem?_cons_succ] at j1 j2 j3
                obtain ⟨xs8, hy⟩ : ∃ y, x ++ [(xa, xb, xc)] = y := ⟨_, rfl⟩
                rw [hy] at FIN
                clear q1 q2 q3 q4 hob KO2 hvD HT2 hvD2 hB2 hd2 hba kv tl3 gr3 HS1 HW1 HX1 HD1 HT1 B1 KO1 k1 k2 k3 lo HR7 hxa hxb hxc hnew HN8 hy
                go_wp2_with (at_builtin; go_loud (refine wpList_append_run rfl _ _ 38 38 rfl _ _ rfl rfl hrun ?_))
                obtain ⟨ao8, cap8, hv8, _⟩ := Trs.ofRow FIN.out.2.tl
                subst hv8
                obtain ⟨n8, hn8⟩ : ∃ n, xs8.length = n := ⟨_, rfl⟩
                have HN8 := Lib.hid hn8
                rw [hn8] at FIN ⊢
                have PS8 := Lib.hid FIN.out.2
                have B8 := Lib.hid FIN.out.1
                clear hrun hn8 FIN j1 j2 j3 lo2
                obtain ⟨D8, O8, hs8, hw8, hx8, hd8⟩ := PS8.out.ex
                have HTL8 := Lib.hid PS8.out.tl
                rw [HN8.out] at hs8 hw8
                have hn8 : n8 < 100000000 := by rw [← hw8.cnt]; exact hs8.preL
                have HS8 := Lib.hid hs8
                have HW8 := Lib.hid hw8
                have Hxs8 := Lib.hid hx8
                have HD8 := Lib.hid hd8
                clear PS8 hs8 hw8 hx8 hd8
                refine (Len_is t D8 N X Y O8 _ W HS8.out).mono ?_
                rintro e W1 ⟨rfl, hb1⟩
                have HS9 := Lib.hid (HS8.out.of hb1)
                have B9 := Lib.hid (B8.out.trans (hb1.mono B8.out.size))
                have HTL9 := Lib.hid (own_belowT HTL8.out hb1)
                clear hb1 HS8 B8 HTL8
                go_wp2_with fail
                refine (whole_is t D8 N X Y O8 n8 hn8 HW8.out W1 HS9.out).mono ?_
                rintro e W2 ⟨rfl, hb1⟩
                have HSa := Lib.hid (HS9.out.of hb1)
                have Ba := Lib.hid (B9.out.trans (hb1.mono B9.out.size))
                have HTLa := Lib.hid (own_belowT HTL9.out hb1)
                clear hb1 HS9 B9 HTL9
                obtain ⟨LL, hLL⟩ : ∃ L, preO O8 N = L := ⟨_, rfl⟩
                have hlL : LL.length = n8 := by rw [← hLL]; exact HW8.out.cnt
                have HLL := Lib.hid hLL
                have HMEM : Hid (∀ y, y ∈ LL → ∃ z, z ∈ xs8 ∧ isRot z y.1 y.2.1 y.2.2 = true) := Lib.hid fun y hy => by
                  rw [← hLL] at hy
                  exact Hxs8.out.rep _ _ _ ((look_mem (HW8.out.cyc.srt _)).1 (mem_preO.1 hy).2.1)
                clear hLL
                go_wp2_with fail
                refine (all_is t D8 N X Y O8 _ LL HLL.out (by omega) W2 HSa.out).mono ?_
                rintro e W3 ⟨v9, rfl, hTL9, hb1⟩
                obtain ⟨ao9, cap9, rfl, hP9⟩ := Trs.ofRow hTL9
                have hcl9 := hP9.capl
                have hcb9 := hP9.capb
                rw [hlL] at hcl9 ⊢
                have HLN := Lib.hid hlL
                have HP9 := Lib.hid hP9
                have HSb := Lib.hid (HSa.out.of hb1)
                have Bb := Lib.hid (Ba.out.trans (hb1.mono Ba.out.size))
                have HTLb := Lib.hid (own_belowT HTLa.out hb1)
                have PSb : Hid (PS w.heap.size W3 t N X Y (.slice ao8 n8 cap8) xs8) := Lib.hid ⟨⟨D8, O8, by rw [HN8.out]; exact HSb.out, by rw [HN8.out]; exact HW8.out, Hxs8.out, HD8.out⟩, HTLb.out⟩
                obtain ⟨aox, capx, ex, hPx⟩ := Trs.ofRow HTLb.out
                obtain ⟨rfl, rfl⟩ : ao8 = aox ∧ cap8 = capx := by injection ex with e1 e2 e3; exact ⟨e1, e3⟩
                have HPx := Lib.hid hPx
                clear hb1 HSa Ba HTLa hTL9 hP9 hlL HSb HTLb hPx ex
                go_wp2_with fail
                go_loopg [118] n8 (fun gk s118 wr => ∃ j : Nat, s118 = .int .i64 (j : Nat) ∧ j ≤ n8 ∧ n8 - j ≤ gk ∧ Hid (Below W3.heap.size W3 wr))
                case atStart => exact ⟨0, rfl, by omega, by omega, Lib.hid (Below.refl _ _)⟩
                case round =>
                  obtain ⟨j, rfl, hj, hgj, HBj⟩ := hrel
                  by_cases hjl : j < n8
                  · obtain ⟨⟨ya, yb, yc⟩, hy⟩ : ∃ x, LL[j]? = some x := ⟨_, List.getElem?_eq_getElem (show j < LL.length by rw [HLN.out]; exact hjl)⟩
                    obtain ⟨g, rfl, hg, hcell⟩ := (HP9.out.of HBj.out).ptr (by rw [HLN.out]; omega)
                    obtain ⟨q0, q1, q2⟩ := hcell j _ hy
                    simp only [] at q0 q1 q2
                    have HY := Lib.hid (HMEM.out _ (List.mem_iff_getElem?.2 ⟨j, hy⟩))
                    clear hcell hy
                    go_wp2_with fail
                    refine calls_w ?_
                    intro W5 hW5
                    have hb5 : Below wr.heap.size wr W5 := by rw [hW5]; exact below_a1 _ _
                    have hb6 := HBj.out.trans (hb5.mono HBj.out.size)
                    have hF := find_is ao8 cap8 xs8 ya yb yc W5 (HPx.out.of hb6) (by rw [HN8.out]; exact hn8)
                    rw [HN8.out] at hF
                    refine hF.mono ?_
                    rintro e W6 ⟨r, rfl, hfr, hb7⟩
                    have HB7 := Lib.hid (hb6.trans (hb7.mono hb6.size))
                    have hr0 : ¬ r < 0 := by
                      rcases hfr with ⟨_, hno⟩ | ⟨i', _, hi', _⟩
                      · obtain ⟨z, hz1, hz2⟩ := HY.out
                        have := hno z hz1
                        rw [hz2] at this
                        cases this
                      · omega
                    clear hfr hb7 hb6 hb5 hW5 q0 q1 q2 hg hF HBj
                    have hr1 : decide (r < 0) = false := by simpa using hr0
                    go_wp2_with fail
                    go_roundg (n8 - (j + 1))
                    case measure => omega
                    case rel => exact ⟨j + 1, by norm_cast, by omega, Nat.le_refl _, HB7⟩
                  · have PSc := Lib.hid (PSb.out.of HBj.out)
                    have Bc := Lib.hid (Bb.out.trans (HBj.out.mono Bb.out.size))
                    go_wp2_with fail
                    go_roundg (m - (i + 1))
                    case measure => omega
                    case rel => exact ⟨i + 1, xs8, by norm_cast, by omega, Nat.le_refl _, PSc, Bc⟩
            · by_cases hk2 : k = 2
              · subst hk2
                go_wp2_with fail
                refine calls_w ?_
                intro W0 hW
                have hbW : Below wr.heap.size wr W0 := by rw [hW]; exact below_a1 _ _
                have kO : Blk W0 wr.heap.size #[.int .i64 2, .int .i64 a, .int .i64 b, .int .i64 c] 72 := by rw [hW]; exact Blk.new _ _ _
                obtain ⟨ob, eob⟩ : ∃ b, wr.heap.size = b := ⟨_, rfl⟩
                rw [eob] at kO ⊢
                have PS0 := Lib.hid (HPS.out.of hbW)
                have B0 := Lib.hid (HB.out.trans (hbW.mono HB.out.size))
                have HN8 := HN7
                obtain ⟨D7, O7, hs7, hw7, hx7, hd7⟩ := PS0.out.ex
                obtain ⟨aox, capx, ex, hPx⟩ := Trs.ofRow PS0.out.tl
                obtain ⟨rfl, rfl⟩ : ao7 = aox ∧ cap7 = capx := by injection ex with e1 e2 e3; exact ⟨e1, e3⟩
                rw [HN8.out] at hs7 hw7
                have hn7 : n7 < 100000000 := by rw [← hw7.cnt]; exact hs7.preL
                have hM := find_is ao7 cap7 x a b c W0 hPx (by rw [HN8.out]; exact hn7)
                rw [HN8.out] at hM
                refine hM.mono ?_
                rintro e W1 ⟨r, rfl, hfr, hb1⟩
                have HS1 := Lib.hid (hs7.of hb1)
                have HW1 := Lib.hid hw7
                have HX1 := Lib.hid hx7
                have HD1 := Lib.hid hd7
                have HT1 : Hid (TL W1 w.heap.size (.slice ao7 n7 cap7) x) := Lib.hid (own_belowT PS0.out.tl hb1)
                have B1 := Lib.hid (B0.out.trans (hb1.mono B0.out.size))
                have KO1 := Lib.hid (kO.of hb1)
                have k1 := KO1.out.cell 1
                have k2 := KO1.out.cell 2
                have k3 := KO1.out.cell 3
                have lo := KO1.out.lt
                simp only [List.getElem?_toArray, List.getElem?_cons_zero, List.getElem?_cons_succ] at k1 k2 k3
                clear hM hb1 kO hs7 hw7 hx7 hd7 hPx ex PS0 B0 hbW hW HPS HB HN7 p0 p1 p2 p3 eob
                rcases hfr with ⟨rfl, hno⟩ | ⟨i', y0, rfl, hi', hrot⟩
                · have HNO : Hid (¬ ∃ z : Nat, leftO N O7 a b = some z ∧ (z : Int) = c) := Lib.hid fun h => by
                    obtain ⟨y, hy, hr⟩ := (HX1.out.find HW1.out.cyc HW1.out.dom).2 h
                    rw [hno y hy] at hr
                    cases hr
                  clear hno
                  go_wp2_with fail
                  refine (Del_no t D7 N X Y O7 _ a b c W1 HS1.out HNO.out).mono ?_
                  rintro e W ⟨rfl, hb2⟩
                  have PS8 : Hid (PS w.heap.size W t N X Y (.slice ao7 n7 cap7) x) := Lib.hid ⟨⟨D7, O7, by rw [HN8.out]; exact HS1.out.of hb2, by rw [HN8.out]; exact HW1.out, HX1.out, HD1.out⟩, own_belowT HT1.out hb2⟩
                  have B8 := Lib.hid (B1.out.trans (hb2.mono B1.out.size))
                  clear hb2 HS1 HW1 HX1 HD1 HT1 B1 KO1 k1 k2 k3 lo HNO
                  go_wp2_with fail
                  obtain ⟨D8, O8, hs8, hw8, hx8, hd8⟩ := PS8.out.ex
                  have HTL8 := Lib.hid PS8.out.tl
                  rw [HN8.out] at hs8 hw8
                  have hn8 : n7 < 100000000 := by rw [← hw8.cnt]; exact hs8.preL
                  have HS8 := Lib.hid hs8
                  have HW8 := Lib.hid hw8
                  have Hx := Lib.hid hx8
                  have HD8 := Lib.hid hd8
                  clear PS8 hs8 hw8 hx8 hd8
                  refine (Len_is t D8 N X Y O8 _ W HS8.out).mono ?_
                  rintro e W1 ⟨rfl, hb1⟩
                  have HS9 := Lib.hid (HS8.out.of hb1)
                  have B9 := Lib.hid (B8.out.trans (hb1.mono B8.out.size))
                  have HTL9 := Lib.hid (own_belowT HTL8.out hb1)
                  clear hb1 HS8 B8 HTL8
                  go_wp2_with fail
                  refine (whole_is t D8 N X Y O8 n7 hn8 HW8.out W1 HS9.out).mono ?_
                  rintro e W2 ⟨rfl, hb1⟩
                  have HSa := Lib.hid (HS9.out.of hb1)
                  have Ba := Lib.hid (B9.out.trans (hb1.mono B9.out.size))
                  have HTLa := Lib.hid (own_belowT HTL9.out hb1)
                  clear hb1 HS9 B9 HTL9
                  obtain ⟨LL, hLL⟩ : ∃ L, preO O8 N = L := ⟨_, rfl⟩
                  have hlL : LL.length = n7 := by rw [← hLL]; exact HW8.out.cnt
                  have HLL := Lib.hid hLL
                  have HMEM : Hid (∀ y, y ∈ LL → ∃ z, z ∈ x ∧ isRot z y.1 y.2.1 y.2.2 = true) := Lib.hid fun y hy => by
                    rw [← hLL] at hy
                    exact Hx.out.rep _ _ _ ((look_mem (HW8.out.cyc.srt _)).1 (mem_preO.1 hy).2.1)
                  clear hLL
                  go_wp2_with fail
                  refine (all_is t D8 N X Y O8 _ LL HLL.out (by omega) W2 HSa.out).mono ?_
                  rintro e W3 ⟨v9, rfl, hTL9, hb1⟩
                  obtain ⟨ao9, cap9, rfl, hP9⟩ := Trs.ofRow hTL9
                  have hcl9 := hP9.capl
                  have hcb9 := hP9.capb
                  rw [hlL] at hcl9 ⊢
                  have HLN := Lib.hid hlL
                  have HP9 := Lib.hid hP9
                  have HSb := Lib.hid (HSa.out.of hb1)
                  have Bb := Lib.hid (Ba.out.trans (hb1.mono Ba.out.size))
                  have HTLb := Lib.hid (own_belowT HTLa.out hb1)
                  have PSb : Hid (PS w.heap.size W3 t N X Y (.slice ao7 n7 cap7) x) := Lib.hid ⟨⟨D8, O8, by rw [HN8.out]; exact HSb.out, by rw [HN8.out]; exact HW8.out, Hx.out, HD8.out⟩, HTLb.out⟩
                  obtain ⟨aox, capx, ex, hPx⟩ := Trs.ofRow HTLb.out
                  obtain ⟨rfl, rfl⟩ : ao7 = aox ∧ cap7 = capx := by injection ex with e1 e2 e3; exact ⟨e1, e3⟩
                  have HPx := Lib.hid hPx
                  clear hb1 HSa Ba HTLa hTL9 hP9 hlL HSb HTLb hPx ex
                  go_wp2_with fail
                  go_loopg [118] n7 (fun gk s118 wr => ∃ j : Nat, s118 = .int .i64 (j : Nat) ∧ j ≤ n7 ∧ n7 - j ≤ gk ∧ Hid (Below W3.heap.size W3 wr))
                  case atStart => exact ⟨0, rfl, by omega, by omega, Lib.hid (Below.refl _ _)⟩
                  case round =>
                    obtain ⟨j, rfl, hj, hgj, HBj⟩ := hrel
                    by_cases hjl : j < n7
                    · obtain ⟨⟨ya, yb, yc⟩, hy⟩ : ∃ x, LL[j]? = some x := ⟨_, List.getElem?_eq_getElem (show j < LL.length by rw [HLN.out]; exact hjl)⟩
                      obtain ⟨g, rfl, hg, hcell⟩ := (HP9.out.of HBj.out).ptr (by rw [HLN.out]; omega)
                      obtain ⟨q0, q1, q2⟩ := hcell j _ hy
                      simp only [] at q0 q1 q2
                      have HY := Lib.hid (HMEM.out _ (List.mem_iff_getElem?.2 ⟨j, hy⟩))
                      clear hcell hy
                      go_wp2_with fail
                      refine calls_w ?_
                      intro W5 hW5
                      have hb5 : Below wr.heap.size wr W5 := by rw [hW5]; exact below_a1 _ _
                      have hb6 := HBj.out.trans (hb5.mono HBj.out.size)
                      have hF := find_is ao7 cap7 x ya yb yc W5 (HPx.out.of hb6) (by rw [HN8.out]; exact hn8)
                      rw [HN8.out] at hF
                      refine hF.mono ?_
                      rintro e W6 ⟨r, rfl, hfr, hb7⟩
                      have HB7 := Lib.hid (hb6.trans (hb7.mono hb6.size))
                      have hr0 : ¬ r < 0 := by
                        rcases hfr with ⟨_, hno⟩ | ⟨i', _, hi', _⟩
                        · obtain ⟨z, hz1, hz2⟩ := HY.out
                          have := hno z hz1
                          rw [hz2] at this
                          cases this
                        · omega
                      clear hfr hb7 hb6 hb5 hW5 q0 q1 q2 hg hF HBj
                      have hr1 : decide (r < 0) = false := by simpa using hr0
                      go_wp2_with fail
                      go_roundg (n7 - (j + 1))
                      case measure => omega
                      case rel => exact ⟨j + 1, by norm_cast, by omega, Nat.le_refl _, HB7⟩
                    · have PSc := Lib.hid (PSb.out.of HBj.out)
                      have Bc := Lib.hid (Bb.out.trans (HBj.out.mono Bb.out.size))
                      go_wp2_with fail
                      go_roundg (m - (i + 1))
                      case measure => omega
                      case rel => exact ⟨i + 1, x, by norm_cast, by omega, Nat.le_refl _, PSc, Bc⟩
                · obtain ⟨xa, xb, xc, rfl, rfl, rfl⟩ := rot_nats hrot
                  have hl0 := isRot_look HW1.out.cyc (HX1.out.has y0 (List.mem_iff_getElem?.2 ⟨i', hi'⟩)) hrot
                  have hl1 := HW1.out.cyc.rot _ _ _ hl0
                  have hl2 := HW1.out.cyc.rot _ _ _ hl1
                  obtain ⟨hxa, hxb, hxc⟩ := HW1.out.dom _ _ _ hl0
                  have n0 := HW1.out.cyc.ne _ _ _ hl0
                  have n1 := HW1.out.cyc.ne _ _ _ hl1
                  have n2 := HW1.out.cyc.ne _ _ _ hl2
                  have hil : i' < n7 := by rw [← HN8.out]; exact (List.getElem?_eq_some_iff.1 hi').1
                  have HLK := Lib.hid (And.intro hl0 (And.intro hl1 hl2))
                  have HI := Lib.hid (And.intro hi' hrot)
                  clear hl0 hl1 hl2 hi' hrot
                  go_wp2_with fail
                  refine (Del_yes t D7 N X Y O7 _ xa xb xc W1 HS1.out hxa hxb hxc n0 n1 (fun e => n2 e.symm) HLK.out (by omega)).mono ?_
                  rintro e W2 ⟨rfl, D', q1, q2, q3, q4⟩
                  have hvD : ∀ g, (Value.slice ao7 n7 cap7).ownBlock = some g → ¬ D7.has t N g := fun g hg => by
                    obtain ⟨cu, hcu⟩ := HT1.out.typ hg
                    exact HS1.out.notHas hcu (by decide) (by decide) (by decide)
                  have HT2 : Hid (TL W2 w.heap.size (.slice ao7 n7 cap7) x) := Lib.hid (HT1.out.of fun g hg => q2.block g (HT1.out.lt hg).2 (hvD g hg))
                  have HB2 : Hid (Below w.heap.size w W2) := Lib.hid (B1.out.trans (q2.below B1.out.size (fun k hk => HD1.out k hk)))
                  have HD2 : Hid (∀ g, D'.has t N g → w.heap.size ≤ g) := Lib.hid fun g hg => by
                    rcases q3 g hg with h | h
                    · exact HD1.out g h
                    · have := B1.out.size; omega
                  have HS2 : Hid (SM W2 t D' N X Y (delT O7 xa xb xc) ((n7 - 1 : Nat) : Int)) := by
                    have e : ((n7 - 1 : Nat) : Int) = (n7 : Int) - 1 := by omega
                    rw [e]; exact Lib.hid q1
                  have HW2 := Lib.hid (HW1.out.del HLK.out.1).1
                  have HX2 := Lib.hid (HX1.out.del HW1.out.cyc HI.out.1 HI.out.2)
                  clear q1 q2 q3 q4 hvD HS1 HW1 HX1 HD1 HT1 B1 KO1 k1 k2 k3 lo n0 n1 n2 hxa hxb hxc HLK HI
                  have hge : decide ((0 : Int) ≤ (i' : Int)) = true := by simp
                  go_wp2_with fail
                  obtain ⟨aox, capx, ex, hPx⟩ := Trs.ofRow HT2.out
                  obtain ⟨rfl, rfl⟩ : ao7 = aox ∧ cap7 = capx := by injection ex with e1 e2 e3; exact ⟨e1, e3⟩
                  obtain ⟨g, rfl, hg, hcell⟩ := hPx.ptr (by rw [HN8.out]; omega)
                  have hbA : Below W2.heap.size W2 (W2.alloc (.cells #[] 35)).drew := (below_a1 W2 _).drew
                  have kA : Blk (W2.alloc (.cells #[] 35)).drew W2.heap.size #[] 35 := Blk.new W2 _ _
                  have tA : TL (W2.alloc (.cells #[] 35)).drew W2.heap.size (.slice (some ⟨W2.heap.size, 0, none⟩) 0 0) [] := ⟨rfl, .inr ⟨W2.heap.size, 0, #[], rfl, Nat.le_refl _, kA, Nat.le_refl _, by unfold maxLen; omega, rfl, rfl⟩⟩
                  have hsA : ∀ (W : World), Below W2.heap.size W2 W → ∀ (i : Nat) (y : Tri3), x[i]? = some y → W.cell? ⟨g, i * 3, none⟩ = some (.int .i64 (y.1 : Nat)) ∧ W.cell? ⟨g, i * 3 + 1, none⟩ = some (.int .i64 (y.2.1 : Nat)) ∧ W.cell? ⟨g, i * 3 + 2, none⟩ = some (.int .i64 (y.2.2 : Nat)) := fun W hW i y hy => by
                    obtain ⟨c0, c1, c2⟩ := hcell i y hy
                    exact ⟨(hW.cell hg).trans c0, (hW.cell hg).trans c1, (hW.cell hg).trans c2⟩
                  obtain ⟨v1, W4, hrun1, tl1, gr1, ow1⟩ := run_append_tri (W2.alloc (.cells #[] 35)).drew W2.heap.size 38 (.slice (some ⟨W2.heap.size, 0, none⟩) 0 0) [] (x.take i') g 0 i' cap7 tA (by rw [List.length_take, HN8.out]; omega) (fun i y hy => by
                    have hi : i < i' := by have := (List.getElem?_eq_some_iff.1 hy).1; rw [List.length_take] at this; omega
                    rw [List.getElem?_take_of_lt hi] at hy
                    rw [Nat.zero_add]
                    exact hsA _ hbA i y hy) (by simp; omega) hbA.size
                  have hbA2 := hbA.size
                  have hbB : Below W2.heap.size W2 W4 := hbA.trans ⟨gr1.os, gr1.tape, gr1.output, gr1.size, fun k hk => gr1.block k (Nat.lt_of_lt_of_le hk hbA2) (by show some k ≠ some W2.heap.size; simp; omega)⟩
                  have tB : TL W4 W2.heap.size v1 (x.take i') := by simpa using tl1
                  by_cases hcap : cap7 = i' + 1
                  · subst hcap
                    obtain ⟨v2, W5, hrun2, tl2, gr2, ow2⟩ := run_append_tri W4 W2.heap.size 38 v1 (x.take i') (x.drop (i' + 1)) g 0 (n7 - (i' + 1)) 0 tB (by rw [List.length_drop, HN8.out]) (fun i y hy => by
                      have := (List.getElem?_eq_some_iff.1 hy).1
                      rw [List.length_drop, HN8.out] at this; omega) (by rw [List.length_take, HN8.out]; omega) hbB.size
                    rw [show n7 - (i' + 1) = 0 by omega] at hrun2
                    simp only [Nat.zero_mul] at hrun1 hrun2
                    have FIN : Hid (Below W2.heap.size W2 W5 ∧ TL W5 W2.heap.size v2 (x.take i' ++ x.drop (i' + 1))) := Lib.hid ⟨hbB.trans ⟨gr2.os, gr2.tape, gr2.output, gr2.size, fun k hk => gr2.block k (by have := hbB.size; omega) (fun e => by have := (tB.lt e.symm).1; omega)⟩, tl2⟩
                    have HBB := Lib.hid hbB
                    clear tl1 tl2 gr1 gr2 ow1 ow2 tB hbB hsA tA kA hbA hcell hPx ex hg
                    have HR1 := Lib.hid hrun1
                    have HR2 := Lib.hid hrun2
                    clear hrun1 hrun2
                    refine wp_region_up W2.heap.size 9 [(true, 1), (true, 2), (true, 3), (true, 5), (true, 6), (true, 7), (true, 8), (false, 0), (false, 4)] (by kernel_rfl) (by kernel_rfl) (fun _ _ d _ _ h => by cases d <;> exact h) ?_
                    have hb : Below W2.heap.size W2 W2.drew := (Below.refl _ _).drew
                    iterate 7
                      refine wpS_takeL rfl rfl ?_
                      go_big_quiet_step (rfl)
                      refine wpQuiet_nil ?_
                    refine wpS_doL rfl ?_
                    intro K hK
                    go_wp2_with ((at_builtin; go_loud (refine wpList_append_run rfl _ _ 38 38 rfl _ _ rfl rfl HR1.out ?_)))
                    have hn : Below W2.drew.heap.size W2.drew (W2.drew.alloc (.cells #[] 35)) := below_a1 _ _
                    replace hb := hb.trans (hn.mono hb.size)
                    refine hK.out _ _ (up_iff.2 hb) ?_
                    clear hK K
                    clear hn
                    refine wpS_doL rfl ?_
                    intro K hK
                    go_wp2_with ((at_builtin; go_loud (refine wpList_append_run rfl _ _ 38 38 rfl _ _ rfl rfl HR1.out ?_)))
                    replace hb := HBB.out
                    try replace hb := hb.trans (hn.mono hb.size)
                    refine hK.out _ _ (up_iff.2 hb) ?_
                    clear hK K
                    try clear hn
                    refine wpS_nil ?_
                    simp only [List.drop_succ_cons, List.drop_zero]
                    go_wp2_with (at_builtin; go_loud (refine wpList_append_run rfl _ _ 38 38 rfl _ _ rfl rfl HR2.out ?_))
                    clear hb
                    obtain ⟨xs8, hy⟩ : ∃ y, x.take i' ++ x.drop (i' + 1) = y := ⟨_, rfl⟩
                    have hl8 : xs8.length = n7 - 1 := by rw [← hy, List.length_append, List.length_take, List.length_drop, HN8.out]; omega
                    rw [hy] at FIN HX2
                    have HN9 := Lib.hid hl8
                    obtain ⟨n8, hn8⟩ : ∃ n, n7 - 1 = n := ⟨_, rfl⟩
                    rw [hn8] at HS2 HW2 HN9
                    obtain ⟨ao8, cap8, hv8, _⟩ := Trs.ofRow FIN.out.2
                    subst hv8
                    have B8 := Lib.hid (HB2.out.trans (FIN.out.1.mono HB2.out.size))
                    have PS8 : Hid (PS w.heap.size W5 t N X Y (.slice ao8 n8 cap8) xs8) := by
                      have h1 : PS w.heap.size W5 t N X Y (.slice ao8 xs8.length cap8) xs8 := ⟨⟨D', _, by rw [HN9.out]; exact HS2.out.of FIN.out.1, by rw [HN9.out]; exact HW2.out, HX2.out, HD2.out⟩, FIN.out.2.low HB2.out.size⟩
                      rw [HN9.out] at h1
                      exact Lib.hid h1
                    rw [HN9.out]
                    obtain ⟨W, hW⟩ : ∃ W, W5 = W := ⟨_, rfl⟩
                    rw [hW] at PS8 B8 ⊢
                    clear HN8
                    have HN8 := HN9
                    clear hy hl8 hn8 HN9 FIN HS2 HW2 HX2 HD2 HT2 HB2 HR1 HR2 HBB hW
                    obtain ⟨D8, O8, hs8, hw8, hx8, hd8⟩ := PS8.out.ex
                    have HTL8 := Lib.hid PS8.out.tl
                    rw [HN8.out] at hs8 hw8
                    have hn8 : n8 < 100000000 := by rw [← hw8.cnt]; exact hs8.preL
                    have HS8 := Lib.hid hs8
                    have HW8 := Lib.hid hw8
                    have Hxs8 := Lib.hid hx8
                    have HD8 := Lib.hid hd8
                    clear PS8 hs8 hw8 hx8 hd8
                    refine (Len_is t D8 N X Y O8 _ W HS8.out).mono ?_
                    rintro e W1 ⟨rfl, hb1⟩
                    have HS9 := Lib.hid (HS8.out.of hb1)
                    have B9 := Lib.hid (B8.out.trans (hb1.mono B8.out.size))
                    have HTL9 := Lib.hid (own_belowT HTL8.out hb1)
                    clear hb1 HS8 B8 HTL8
                    go_wp2_with fail
                    refine (whole_is t D8 N X Y O8 n8 hn8 HW8.out W1 HS9.out).mono ?_
                    rintro e W2 ⟨rfl, hb1⟩
                    have HSa := Lib.hid (HS9.out.of hb1)
                    have Ba := Lib.hid (B9.out.trans (hb1.mono B9.out.size))
                    have HTLa := Lib.hid (own_belowT HTL9.out hb1)
                    clear hb1 HS9 B9 HTL9
                    obtain ⟨LL, hLL⟩ : ∃ L, preO O8 N = L := ⟨_, rfl⟩
                    have hlL : LL.length = n8 := by rw [← hLL]; exact HW8.out.cnt
                    have HLL := Lib.hid hLL
                    have HMEM : Hid (∀ y, y ∈ LL → ∃ z, z ∈ xs8 ∧ isRot z y.1 y.2.1 y.2.2 = true) := Lib.hid fun y hy => by
                      rw [← hLL] at hy
                      exact Hxs8.out.rep _ _ _ ((look_mem (HW8.out.cyc.srt _)).1 (mem_preO.1 hy).2.1)
                    clear hLL
                    go_wp2_with fail
                    refine (all_is t D8 N X Y O8 _ LL HLL.out (by omega) W2 HSa.out).mono ?_
                    rintro e W3 ⟨v9, rfl, hTL9, hb1⟩
                    obtain ⟨ao9, cap9, rfl, hP9⟩ := Trs.ofRow hTL9
                    have hcl9 := hP9.capl
                    have hcb9 := hP9.capb
                    rw [hlL] at hcl9 ⊢
                    have HLN := Lib.hid hlL
                    have HP9 := Lib.hid hP9
                    have HSb := Lib.hid (HSa.out.of hb1)
                    have Bb := Lib.hid (Ba.out.trans (hb1.mono Ba.out.size))
                    have HTLb := Lib.hid (own_belowT HTLa.out hb1)
                    have PSb : Hid (PS w.heap.size W3 t N X Y (.slice ao8 n8 cap8) xs8) := Lib.hid ⟨⟨D8, O8, by rw [HN8.out]; exact HSb.out, by rw [HN8.out]; exact HW8.out, Hxs8.out, HD8.out⟩, HTLb.out⟩
                    obtain ⟨aox, capx, ex, hPx⟩ := Trs.ofRow HTLb.out
                    obtain ⟨rfl, rfl⟩ : ao8 = aox ∧ cap8 = capx := by injection ex with e1 e2 e3; exact ⟨e1, e3⟩
                    have HPx := Lib.hid hPx
                    clear hb1 HSa Ba HTLa hTL9 hP9 hlL HSb HTLb hPx ex
                    go_wp2_with fail
                    go_loopg [118] n8 (fun gk s118 wr => ∃ j : Nat, s118 = .int .i64 (j : Nat) ∧ j ≤ n8 ∧ n8 - j ≤ gk ∧ Hid (Below W3.heap.size W3 wr))
                    case atStart => exact ⟨0, rfl, by omega, by omega, Lib.hid (Below.refl _ _)⟩
                    case round =>
                      obtain ⟨j, rfl, hj, hgj, HBj⟩ := hrel
                      by_cases hjl : j < n8
                      · obtain ⟨⟨ya, yb, yc⟩, hy⟩ : ∃ x, LL[j]? = some x := ⟨_, List.getElem?_eq_getElem (show j < LL.length by rw [HLN.out]; exact hjl)⟩
                        obtain ⟨g, rfl, hg, hcell⟩ := (HP9.out.of HBj.out).ptr (by rw [HLN.out]; omega)
                        obtain ⟨q0, q1, q2⟩ := hcell j _ hy
                        simp only [] at q0 q1 q2
                        have HY := Lib.hid (HMEM.out _ (List.mem_iff_getElem?.2 ⟨j, hy⟩))
                        clear hcell hy
                        go_wp2_with fail
                        refine calls_w ?_
                        intro W5 hW5
                        have hb5 : Below wr.heap.size wr W5 := by rw [hW5]; exact below_a1 _ _
                        have hb6 := HBj.out.trans (hb5.mono HBj.out.size)
                        have hF := find_is ao8 cap8 xs8 ya yb yc W5 (HPx.out.of hb6) (by rw [HN8.out]; exact hn8)
                        rw [HN8.out] at hF
                        refine hF.mono ?_
                        rintro e W6 ⟨r, rfl, hfr, hb7⟩
                        have HB7 := Lib.hid (hb6.trans (hb7.mono hb6.size))
                        have hr0 : ¬ r < 0 := by
                          rcases hfr with ⟨_, hno⟩ | ⟨i', _, hi', _⟩
                          · obtain ⟨z, hz1, hz2⟩ := HY.out
                            have := hno z hz1
                            rw [hz2] at this
                            cases this
                          · omega
                        clear hfr hb7 hb6 hb5 hW5 q0 q1 q2 hg hF HBj
                        have hr1 : decide (r < 0) = false := by simpa using hr0
                        go_wp2_with fail
                        go_roundg (n8 - (j + 1))
                        case measure => omega
                        case rel => exact ⟨j + 1, by norm_cast, by omega, Nat.le_refl _, HB7⟩
                      · have PSc := Lib.hid (PSb.out.of HBj.out)
                        have Bc := Lib.hid (Bb.out.trans (HBj.out.mono Bb.out.size))
                        go_wp2_with fail
                        go_roundg (m - (i + 1))
                        case measure => omega
                        case rel => exact ⟨i + 1, xs8, by norm_cast, by omega, Nat.le_refl _, PSc, Bc⟩
                  · obtain ⟨v2, W5, hrun2, tl2, gr2, ow2⟩ := run_append_tri W4 W2.heap.size 38 v1 (x.take i') (x.drop (i' + 1)) g (i' + 1) (n7 - (i' + 1)) (cap7 - (i' + 1)) tB (by rw [List.length_drop, HN8.out]) (fun i y hy => by
                      rw [List.getElem?_drop] at hy
                      exact hsA _ hbB (i' + 1 + i) y hy) (by rw [List.length_take, HN8.out]; omega) hbB.size
                    simp only [Nat.zero_mul] at hrun1
                    have FIN : Hid (Below W2.heap.size W2 W5 ∧ TL W5 W2.heap.size v2 (x.take i' ++ x.drop (i' + 1))) := Lib.hid ⟨hbB.trans ⟨gr2.os, gr2.tape, gr2.output, gr2.size, fun k hk => gr2.block k (by have := hbB.size; omega) (fun e => by have := (tB.lt e.symm).1; omega)⟩, tl2⟩
                    have HBB := Lib.hid hbB
                    clear tl1 tl2 gr1 gr2 ow1 ow2 tB hbB hsA tA kA hbA hcell hPx ex hg
                    have HR1 := Lib.hid hrun1
                    have HR2 := Lib.hid hrun2
                    clear hrun1 hrun2
                    refine wp_region_up W2.heap.size 9 [(true, 1), (true, 2), (true, 3), (true, 5), (true, 6), (true, 7), (true, 8), (false, 0), (false, 4)] (by kernel_rfl) (by kernel_rfl) (fun _ _ d _ _ h => by cases d <;> exact h) ?_
                    have hb : Below W2.heap.size W2 W2.drew := (Below.refl _ _).drew
                    iterate 7
                      refine wpS_takeL rfl rfl ?_
                      go_big_quiet_step (rfl)
                      refine wpQuiet_nil ?_
                    refine wpS_doL rfl ?_
                    intro K hK
                    go_wp2_with ((at_builtin; go_loud (refine wpList_append_run rfl _ _ 38 38 rfl _ _ rfl rfl HR1.out ?_)))
                    have hn : Below W2.drew.heap.size W2.drew (W2.drew.alloc (.cells #[] 35)) := below_a1 _ _
                    replace hb := hb.trans (hn.mono hb.size)
                    refine hK.out _ _ (up_iff.2 hb) ?_
                    clear hK K
                    clear hn
                    refine wpS_doL rfl ?_
                    intro K hK
                    go_wp2_with ((at_builtin; go_loud (refine wpList_append_run rfl _ _ 38 38 rfl _ _ rfl rfl HR1.out ?_)))
                    replace hb := HBB.out
                    try replace hb := hb.trans (hn.mono hb.size)
                    refine hK.out _ _ (up_iff.2 hb) ?_
                    clear hK K
                    try clear hn
                    refine wpS_nil ?_
                    simp only [List.drop_succ_cons, List.drop_zero]
                    go_wp2_with (at_builtin; go_loud (refine wpList_append_run rfl _ _ 38 38 rfl _ _ rfl rfl HR2.out ?_))
                    clear hb
                    obtain ⟨xs8, hy⟩ : ∃ y, x.take i' ++ x.drop (i' + 1) = y := ⟨_, rfl⟩
                    have hl8 : xs8.length = n7 - 1 := by rw [← hy, List.length_append, List.length_take, List.length_drop, HN8.out]; omega
                    rw [hy] at FIN HX2
                    have HN9 := Lib.hid hl8
                    obtain ⟨n8, hn8⟩ : ∃ n, n7 - 1 = n := ⟨_, rfl⟩
                    rw [hn8] at HS2 HW2 HN9
                    obtain ⟨ao8, cap8, hv8, _⟩ := Trs.ofRow FIN.out.2
                    subst hv8
                    have B8 := Lib.hid (HB2.out.trans (FIN.out.1.mono HB2.out.size))
                    have PS8 : Hid (PS w.heap.size W5 t N X Y (.slice ao8 n8 cap8) xs8) := by
                      have h1 : PS w.heap.size W5 t N X Y (.slice ao8 xs8.length cap8) xs8 := ⟨⟨D', _, by rw [HN9.out]; exact HS2.out.of FIN.out.1, by rw [HN9.out]; exact HW2.out, HX2.out, HD2.out⟩, FIN.out.2.low HB2.out.size⟩
                      rw [HN9.out] at h1
                      exact Lib.hid h1
                    rw [HN9.out]
                    obtain ⟨W, hW⟩ : ∃ W, W5 = W := ⟨_, rfl⟩
                    rw [hW] at PS8 B8 ⊢
                    clear HN8
                    have HN8 := HN9
                    clear hy hl8 hn8 HN9 FIN HS2 HW2 HX2 HD2 HT2 HB2 HR1 HR2 HBB hW
                    obtain ⟨D8, O8, hs8, hw8, hx8, hd8⟩ := PS8.out.ex
                    have HTL8 := Lib.hid PS8.out.tl
                    rw [HN8.out] at hs8 hw8
                    have hn8 : n8 < 100000000 := by rw [← hw8.cnt]; exact hs8.preL
                    have HS8 := Lib.hid hs8
                    have HW8 := Lib.hid hw8
                    have Hxs8 := Lib.hid hx8
                    have HD8 := Lib.hid hd8
                    clear PS8 hs8 hw8 hx8 hd8
                    refine (Len_is t D8 N X Y O8 _ W HS8.out).mono ?_
                    rintro e W1 ⟨rfl, hb1⟩
                    have HS9 := Lib.hid (HS8.out.of hb1)
                    have B9 := Lib.hid (B8.out.trans (hb1.mono B8.out.size))
                    have HTL9 := Lib.hid (own_belowT HTL8.out hb1)
                    clear hb1 HS8 B8 HTL8
                    go_wp2_with fail
                    refine (whole_is t D8 N X Y O8 n8 hn8 HW8.out W1 HS9.out).mono ?_
                    rintro e W2 ⟨rfl, hb1⟩
                    have HSa := Lib.hid (HS9.out.of hb1)
                    have Ba := Lib.hid (B9.out.trans (hb1.mono B9.out.size))
                    have HTLa := Lib.hid (own_belowT HTL9.out hb1)
                    clear hb1 HS9 B9 HTL9
                    obtain ⟨LL, hLL⟩ : ∃ L, preO O8 N = L := ⟨_, rfl⟩
                    have hlL : LL.length = n8 := by rw [← hLL]; exact HW8.out.cnt
                    have HLL := Lib.hid hLL
                    have HMEM : Hid (∀ y, y ∈ LL → ∃ z, z ∈ xs8 ∧ isRot z y.1 y.2.1 y.2.2 = true) := Lib.hid fun y hy => by
                      rw [← hLL] at hy
                      exact Hxs8.out.rep _ _ _ ((look_mem (HW8.out.cyc.srt _)).1 (mem_preO.1 hy).2.1)
                    clear hLL
                    go_wp2_with fail
                    refine (all_is t D8 N X Y O8 _ LL HLL.out (by omega) W2 HSa.out).mono ?_
                    rintro e W3 ⟨v9, rfl, hTL9, hb1⟩
                    obtain ⟨ao9, cap9, rfl, hP9⟩ := Trs.ofRow hTL9
                    have hcl9 := hP9.capl
                    have hcb9 := hP9.capb
                    rw [hlL] at hcl9 ⊢
                    have HLN := Lib.hid hlL
                    have HP9 := Lib.hid hP9
                    have HSb := Lib.hid (HSa.out.of hb1)
                    have Bb := Lib.hid (Ba.out.trans (hb1.mono Ba.out.size))
                    have HTLb := Lib.hid (own_belowT HTLa.out hb1)
                    have PSb : Hid (PS w.heap.size W3 t N X Y (.slice ao8 n8 cap8) xs8) := Lib.hid ⟨⟨D8, O8, by rw [HN8.out]; exact HSb.out, by rw [HN8.out]; exact HW8.out, Hxs8.out, HD8.out⟩, HTLb.out⟩
                    obtain ⟨aox, capx, ex, hPx⟩ := Trs.ofRow HTLb.out
                    obtain ⟨rfl, rfl⟩ : ao8 = aox ∧ cap8 = capx := by injection ex with e1 e2 e3; exact ⟨e1, e3⟩
                    have HPx := Lib.hid hPx
                    clear hb1 HSa Ba HTLa hTL9 hP9 hlL HSb HTLb hPx ex
                    go_wp2_with fail
                    go_loopg [118] n8 (fun gk s118 wr => ∃ j : Nat, s118 = .int .i64 (j : Nat) ∧ j ≤ n8 ∧ n8 - j ≤ gk ∧ Hid (Below W3.heap.size W3 wr))
                    case atStart => exact ⟨0, rfl, by omega, by omega, Lib.hid (Below.refl _ _)⟩
                    case round =>
                      obtain ⟨j, rfl, hj, hgj, HBj⟩ := hrel
                      by_cases hjl : j < n8
                      · obtain ⟨⟨ya, yb, yc⟩, hy⟩ : ∃ x, LL[j]? = some x := ⟨_, List.getElem?_eq_getElem (show j < LL.length by rw [HLN.out]; exact hjl)⟩
                        obtain ⟨g, rfl, hg, hcell⟩ := (HP9.out.of HBj.out).ptr (by rw [HLN.out]; omega)
                        obtain ⟨q0, q1, q2⟩ := hcell j _ hy
                        simp only [] at q0 q1 q2
                        have HY := Lib.hid (HMEM.out _ (List.mem_iff_getElem?.2 ⟨j, hy⟩))
                        clear hcell hy
                        go_wp2_with fail
                        refine calls_w ?_
                        intro W5 hW5
                        have hb5 : Below wr.heap.size wr W5 := by rw [hW5]; exact below_a1 _ _
                        have hb6 := HBj.out.trans (hb5.mono HBj.out.size)
                        have hF := find_is ao8 cap8 xs8 ya yb yc W5 (HPx.out.of hb6) (by rw [HN8.out]; exact hn8)
                        rw [HN8.out] at hF
                        refine hF.mono ?_
                        rintro e W6 ⟨r, rfl, hfr, hb7⟩
                        have HB7 := Lib.hid (hb6.trans (hb7.mono hb6.size))
                        have hr0 : ¬ r < 0 := by
                          rcases hfr with ⟨_, hno⟩ | ⟨i', _, hi', _⟩
                          · obtain ⟨z, hz1, hz2⟩ := HY.out
                            have := hno z hz1
                            rw [hz2] at this
                            cases this
                          · omega
                        clear hfr hb7 hb6 hb5 hW5 q0 q1 q2 hg hF HBj
                        have hr1 : decide (r < 0) = false := by simpa using hr0
                        go_wp2_with fail
                        go_roundg (n8 - (j + 1))
                        case measure => omega
                        case rel => exact ⟨j + 1, by norm_cast, by omega, Nat.le_refl _, HB7⟩
                      · have PSc := Lib.hid (PSb.out.of HBj.out)
                        have Bc := Lib.hid (Bb.out.trans (HBj.out.mono Bb.out.size))
                        go_wp2_with fail
                        go_roundg (m - (i + 1))
                        case measure => omega
                        case rel => exact ⟨i + 1, xs8, by norm_cast, by omega, Nat.le_refl _, PSc, Bc⟩
              · have hk1' : (k == 1) = false := by simpa using hk1
                have hk2' : (k == 2) = false := by simpa using hk2
                go_wp2_with fail
                refine calls_w ?_
                intro W hW
                have hbW : Below wr.heap.size wr W := by rw [hW]; exact below_a1 _ _
                have PS8 := Lib.hid (HPS.out.of hbW)
                have B8 := Lib.hid (HB.out.trans (hbW.mono HB.out.size))
                have HN8 := HN7
                clear hW hbW HPS HB HN7 p0 p1 p2 p3 hk1' hk2'
                obtain ⟨D8, O8, hs8, hw8, hx8, hd8⟩ := PS8.out.ex
                have HTL8 := Lib.hid PS8.out.tl
                rw [HN8.out] at hs8 hw8
                have hn8 : n7 < 100000000 := by rw [← hw8.cnt]; exact hs8.preL
                have HS8 := Lib.hid hs8
                have HW8 := Lib.hid hw8
                have Hx := Lib.hid hx8
                have HD8 := Lib.hid hd8
                clear PS8 hs8 hw8 hx8 hd8
                refine (Len_is t D8 N X Y O8 _ W HS8.out).mono ?_
                rintro e W1 ⟨rfl, hb1⟩
                have HS9 := Lib.hid (HS8.out.of hb1)
                have B9 := Lib.hid (B8.out.trans (hb1.mono B8.out.size))
                have HTL9 := Lib.hid (own_belowT HTL8.out hb1)
                clear hb1 HS8 B8 HTL8
                go_wp2_with fail
                refine (whole_is t D8 N X Y O8 n7 hn8 HW8.out W1 HS9.out).mono ?_
                rintro e W2 ⟨rfl, hb1⟩
                have HSa := Lib.hid (HS9.out.of hb1)
                have Ba := Lib.hid (B9.out.trans (hb1.mono B9.out.size))
                have HTLa := Lib.hid (own_belowT HTL9.out hb1)
                clear hb1 HS9 B9 HTL9
                obtain ⟨LL, hLL⟩ : ∃ L, preO O8 N = L := ⟨_, rfl⟩
                have hlL : LL.length = n7 := by rw [← hLL]; exact HW8.out.cnt
                have HLL := Lib.hid hLL
                have HMEM : Hid (∀ y, y ∈ LL → ∃ z, z ∈ x ∧ isRot z y.1 y.2.1 y.2.2 = true) := Lib.hid fun y hy => by
                  rw [← hLL] at hy
                  exact Hx.out.rep _ _ _ ((look_mem (HW8.out.cyc.srt _)).1 (mem_preO.1 hy).2.1)
                clear hLL
                go_wp2_with fail
                refine (all_is t D8 N X Y O8 _ LL HLL.out (by omega) W2 HSa.out).mono ?_
                rintro e W3 ⟨v9, rfl, hTL9, hb1⟩
                obtain ⟨ao9, cap9, rfl, hP9⟩ := Trs.ofRow hTL9
                have hcl9 := hP9.capl
                have hcb9 := hP9.capb
                rw [hlL] at hcl9 ⊢
                have HLN := Lib.hid hlL
                have HP9 := Lib.hid hP9
                have HSb := Lib.hid (HSa.out.of hb1)
                have Bb := Lib.hid (Ba.out.trans (hb1.mono Ba.out.size))
                have HTLb := Lib.hid (own_belowT HTLa.out hb1)
                have PSb : Hid (PS w.heap.size W3 t N X Y (.slice ao7 n7 cap7) x) := Lib.hid ⟨⟨D8, O8, by rw [HN8.out]; exact HSb.out, by rw [HN8.out]; exact HW8.out, Hx.out, HD8.out⟩, HTLb.out⟩
                obtain ⟨aox, capx, ex, hPx⟩ := Trs.ofRow HTLb.out
                obtain ⟨rfl, rfl⟩ : ao7 = aox ∧ cap7 = capx := by injection ex with e1 e2 e3; exact ⟨e1, e3⟩
                have HPx := Lib.hid hPx
                clear hb1 HSa Ba HTLa hTL9 hP9 hlL HSb HTLb hPx ex
                go_wp2_with fail
                go_loopg [118] n7 (fun gk s118 wr => ∃ j : Nat, s118 = .int .i64 (j : Nat) ∧ j ≤ n7 ∧ n7 - j ≤ gk ∧ Hid (Below W3.heap.size W3 wr))
                case atStart => exact ⟨0, rfl, by omega, by omega, Lib.hid (Below.refl _ _)⟩
                case round =>
                  obtain ⟨j, rfl, hj, hgj, HBj⟩ := hrel
                  by_cases hjl : j < n7
                  · obtain ⟨⟨ya, yb, yc⟩, hy⟩ : ∃ x, LL[j]? = some x := ⟨_, List.getElem?_eq_getElem (show j < LL.length by rw [HLN.out]; exact hjl)⟩
                    obtain ⟨g, rfl, hg, hcell⟩ := (HP9.out.of HBj.out).ptr (by rw [HLN.out]; omega)
                    obtain ⟨q0, q1, q2⟩ := hcell j _ hy
                    simp only [] at q0 q1 q2
                    have HY := Lib.hid (HMEM.out _ (List.mem_iff_getElem?.2 ⟨j, hy⟩))
                    clear hcell hy
                    go_wp2_with fail
                    refine calls_w ?_
                    intro W5 hW5
                    have hb5 : Below wr.heap.size wr W5 := by rw [hW5]; exact below_a1 _ _
                    have hb6 := HBj.out.trans (hb5.mono HBj.out.size)
                    have hF := find_is ao7 cap7 x ya yb yc W5 (HPx.out.of hb6) (by rw [HN8.out]; exact hn8)
                    rw [HN8.out] at hF
                    refine hF.mono ?_
                    rintro e W6 ⟨r, rfl, hfr, hb7⟩
                    have HB7 := Lib.hid (hb6.trans (hb7.mono hb6.size))
                    have hr0 : ¬ r < 0 := by
                      rcases hfr with ⟨_, hno⟩ | ⟨i', _, hi', _⟩
                      · obtain ⟨z, hz1, hz2⟩ := HY.out
                        have := hno z hz1
                        rw [hz2] at this
                        cases this
                      · omega
                    clear hfr hb7 hb6 hb5 hW5 q0 q1 q2 hg hF HBj
                    have hr1 : decide (r < 0) = false := by simpa using hr0
                    go_wp2_with fail
                    go_roundg (n7 - (j + 1))
                    case measure => omega
                    case rel => exact ⟨j + 1, by norm_cast, by omega, Nat.le_refl _, HB7⟩
                  · have PSc := Lib.hid (PSb.out.of HBj.out)
                    have Bc := Lib.hid (Bb.out.trans (HBj.out.mono Bb.out.size))
                    go_wp2_with fail
                    go_roundg (m - (i + 1))
                    case measure => omega
                    case rel => exact ⟨i + 1, x, by norm_cast, by omega, Nat.le_refl _, PSc, Bc⟩
          · go_wp2_with fail
            refine (awake_is _).mono ?_
            rintro e V3 ⟨rfl, hb⟩
            have hb2 := HB.out.trans (hb.mono HB.out.size)
            clear hb
            go_wp2
            go_ret
            exact ⟨rfl, hb2⟩
end Go.Proofs.Ytdlpfiiakmhnlaa

namespace Go.Proofs.Ytdlpfiiakmhnlaa
open Go.ChangeShapes Go.WideShapes Go.ChangeAt Go.RowKit

theorem blk_add (a : Addr) (n : Nat) : (a.add n).block = a.block := by unfold Addr.add; split <;> rfl
section
variable {H : Type} {enc : TypeId × Value → H} {w : World} {base : Nat} {held : Bool}
set_option maxRecDepth 100000 in
theorem open_pts {r : Reach} {b0 : Nat} {v : Value} {d : DataW H} {p : List MemPlace} (hv : Value.okWide Try.prog w r b0 22 v) (h : DataW.Trod enc Try.prog w base (fun _ => true) held 22 v d p) :
    ∃ ao n cap X Y, v = .slice ao n cap ∧ Pts w ao n cap X Y := by
  obtain ⟨ao, n, cap, rfl⟩ := okWide_slice Try.underlying22 hv
  obtain ⟨fuel, hf⟩ := h
  have hC : Try.prog.cellsOf 41 = 2 := by kernel_rfl
  have hC1 : Try.prog.cellsOf 3 = 1 := by kernel_rfl
  rcases Go.Deep.open_slice_pairs Try.underlying22 Try.underlying41 hC rfl rfl hC1 hC1 hf with ⟨hc, hx⟩ | ⟨a, len, c2, m, k, V0, V1, D0, D1, P0, P1, hc, _, hl, hm, hmm, hx, hall⟩
  · obtain ⟨rfl, rfl, rfl⟩ : ao = none ∧ n = 0 ∧ cap = 0 := by simpa [Value.cells] using hc
    exact ⟨none, 0, 0, fun _ => 0, fun _ => 0, rfl, fun h => absurd h (by omega), Nat.le_refl _, by omega⟩
  · obtain ⟨rfl, rfl, rfl⟩ : ao = some a ∧ n = len ∧ cap = c2 := by simpa [Value.cells] using hc
    have hmc : m = cap := by rw [hmm]; rfl
    have key : ∀ i, i < n → ∃ y : Int × Int, V0 i = .int .i64 y.1 ∧ V1 i = .int .i64 y.2 := by
      intro i hi
      obtain ⟨_, _, t0, t1⟩ := hall i (by omega)
      obtain ⟨a0, e0, _, g0⟩ := DataW.trod_int Try.underlying3 t0
      obtain ⟨a1, e1, _, g1⟩ := DataW.trod_int Try.underlying3 t1
      exact ⟨(a0, a1), by simpa using e0, by simpa using e1⟩
    refine ⟨some a, n, cap, fun i => if h : i < n then (key i h).choose.1 else 0, fun i => if h : i < n then (key i h).choose.2 else 0, rfl, fun h0 => ⟨a, rfl, ?_, fun i hi => ?_⟩, hl, hm⟩
    · have := (hall 0 (by omega)).1
      have := World.block_lt_of_cell? _ _ this
      rwa [blk_add] at this
    · have e0 := (hall i (by omega)).1
      have e1 := (hall i (by omega)).2.1
      rw [(key i hi).choose_spec.1] at e0
      rw [(key i hi).choose_spec.2] at e1
      simp only [dif_pos hi]
      exact ⟨e0, by rw [Go.Deep.add_add]; exact e1⟩
end
end Go.Proofs.Ytdlpfiiakmhnlaa

namespace Go.Proofs.Ytdlpfiiakmhnlaa
open Go.ChangeShapes Go.WideShapes Go.ChangeAt Go.RowKit

section
variable {H : Type} {enc : TypeId × Value → H} {w : World} {base : Nat} {held : Bool}
set_option maxRecDepth 100000 in
theorem open_triops {r : Reach} {b0 : Nat} {v : Value} {d : DataW H} {p : List MemPlace} (hv : Value.okWide Try.prog w r b0 70 v) (h : DataW.Trod enc Try.prog w base (fun _ => true) held 70 v d p) :
    ∃ ao n cap K A B C, v = .slice ao n cap ∧ TOps w ao n cap K A B C := by
  obtain ⟨ao, n, cap, rfl⟩ := okWide_slice Try.underlying70 hv
  obtain ⟨fuel, hf⟩ := h
  have hC : Try.prog.cellsOf 72 = 4 := by kernel_rfl
  have hC1 : Try.prog.cellsOf 3 = 1 := by kernel_rfl
  have hC3 : Try.prog.cellsOf 36 = 3 := by kernel_rfl
  have ht : Try.prog.underlying 36 = some (.array 3 3) := by kernel_rfl
  rcases Go.Deep.open_slice Try.underlying70 hf with ⟨hc, hx⟩ | ⟨a, len, c2, m, k, D, Pl, hc, hb, hl, hm, hmm, hxx, hall⟩
  · obtain ⟨rfl, rfl, rfl⟩ : ao = none ∧ n = 0 ∧ cap = 0 := by simpa [Value.cells] using hc
    exact ⟨none, 0, 0, fun _ => 0, fun _ => 0, fun _ => 0, fun _ => 0, rfl, fun h => absurd h (by omega), Nat.le_refl _, by omega⟩
  · obtain ⟨rfl, rfl, rfl⟩ : ao = some a ∧ n = len ∧ cap = c2 := by simpa [Value.cells] using hc
    have hmc : m = cap := by rw [hmm]; rfl
    have key : ∀ i, i < n → ∃ y : Int × Int × Int × Int, w.cell? (a.add (i * 4)) = some (.int .i64 y.1) ∧ w.cell? ((a.add (i * 4)).add 1) = some (.int .i64 y.2.1) ∧ w.cell? ((a.add (i * 4)).add 2) = some (.int .i64 y.2.2.1) ∧ w.cell? ((a.add (i * 4)).add 3) = some (.int .i64 y.2.2.2) := by
      intro i hi
      obtain ⟨cs', h1, h2⟩ := hall i (by omega)
      rw [hC] at h1
      obtain ⟨_, hlen, hcell⟩ := World.cells?_some h1
      obtain ⟨xs, k, hk, hxy, _, hxl, hf⟩ := DataW.trod_struct Try.underlying72 h2
      match xs, hxl, cs', hlen with
      | [y0, y1], _, [v0, v1, v2, v3], _ =>
        have g0 := hf 0 _ rfl
        have g1 := hf 1 _ rfl
        simp [hC1, hC3] at g0 g1
        have e0 := hcell 0 (by omega)
        have e1 := hcell 1 (by omega)
        have e2 := hcell 2 (by omega)
        have e3 := hcell 3 (by omega)
        simp at e0 e1 e2 e3
        obtain ⟨a0, q0, _, _⟩ := DataW.trod_int Try.underlying3 g0
        obtain ⟨zs, k2, _, hx2, _, hlen2, hg⟩ := DataW.trod_array ht g1
        match zs, hlen2 with
        | [z0, z1, z2], _ =>
          have m0 := hg 0 (by omega)
          have m1 := hg 1 (by omega)
          have m2 := hg 2 (by omega)
          simp [Value.cells, hC1] at m0 m1 m2
          obtain ⟨a1, q1, _, _⟩ := DataW.trod_int Try.underlying3 m0
          obtain ⟨a2, q2, _, _⟩ := DataW.trod_int Try.underlying3 m1
          obtain ⟨a3, q3, _, _⟩ := DataW.trod_int Try.underlying3 m2
          simp at q0 q1 q2 q3
          subst q0 q1 q2 q3
          have ez : ∀ x : Addr, x.add 0 = x := fun x => by unfold Addr.add; simp
          exact ⟨(a0, a1, a2, a3), by simpa [hC, ez] using e0, by simpa [hC] using e1, by simpa [hC] using e2, by simpa [hC] using e3⟩
    refine ⟨some a, n, cap, fun i => if h : i < n then (key i h).choose.1 else 0, fun i => if h : i < n then (key i h).choose.2.1 else 0, fun i => if h : i < n then (key i h).choose.2.2.1 else 0, fun i => if h : i < n then (key i h).choose.2.2.2 else 0, rfl, fun h0 => ⟨a, rfl, ?_, fun i hi => ?_⟩, hl, hm⟩
    · have := (key 0 h0).choose_spec.1
      have := World.block_lt_of_cell? _ _ this
      rwa [blk_add] at this
    · simp only [dif_pos hi]
      exact (key i hi).choose_spec
end
end Go.Proofs.Ytdlpfiiakmhnlaa

namespace Go.Proofs.Ytdlpfiiakmhnlaa
open Go.ChangeShapes Go.WideShapes Go.ChangeAt Go.RowKit

set_option maxRecDepth 100000 in
set_option maxHeartbeats 1000000 in
theorem triPlays_lifted (os : Os) (started : os.Started) (H : Type) (enc : TypeId × Value → H) :
    ReturnsInHanded {} Try.checked os 8 .any (Rows.triPlaysSpec.pre6 enc Try.prog Try.f8 Rows.triPlaysRow.domain false) (Rows.triPlaysSpec.post enc Try.prog Try.f8 false true false false) := by
  refine returnsInHanded_of_change (C := Try.checked) own started (by kernel_rfl) Try.func8
    (ChangeSpec.witness6 (enc := enc) (C := Try.checked) false ⟨#[], #[.slice none 0 0, .slice none 0 0], []⟩ 8 (by kernel_rfl) (by kernel_rfl) (by kernel_rfl) (by kernel_rfl)) ?_
  intro W base args ds gs before hval0 hW hcnd _
  have hval : ∀ (j : Nat) t v, Try.f8.params[j]? = some t → args[j]? = some v → Value.okWide Try.prog W .any base t v := hval0
  have hW' := hW
  obtain ⟨p, q, hA0, hV, rfl, hfz, hnd⟩ := hW
  have hA : DataW.TrodAll enc Try.prog W 0 (fun _ => true) true Try.f8.params.toList args.toList ds p := hA0
  rw [Try.params8] at hA hval
  obtain ⟨v0, vs0, d0, ds0, p0, q0, hargs, rfl, rfl, h0, r0⟩ := trodAll_cons hA
  obtain ⟨v1, vs1, d1, ds1, p1, q1, rfl, rfl, rfl, h1, r1⟩ := trodAll_cons r0
  obtain ⟨rfl, rfl, rfl⟩ := trodAll_nil r1
  obtain rfl : args = #[v0, v1] := by cases args; simp_all
  obtain ⟨rfl, rfl⟩ := trodVars_none hV
  have k0 := h0
  have lt0 : ∀ x ∈ p0, x.block < W.heap.size := by obtain ⟨m, hm⟩ := k0; exact DataW.trod_lt m _ _ _ hm
  obtain ⟨ao0, n0, cap0, X0, Y0, rfl, io0⟩ := open_pts (hval 0 22 v0 rfl rfl) h0
  have k1 := h1
  have lt1 : ∀ x ∈ p1, x.block < W.heap.size := by obtain ⟨m, hm⟩ := k1; exact DataW.trod_lt m _ _ _ hm
  obtain ⟨ao1, n1, cap1, K1, A1, B1, C1, rfl, io1⟩ := open_triops (hval 1 70 v1 rfl rfl) h1
  clear hA0 hval0
  refine (TriPlays_any ao0 n0 cap0 X0 Y0 ao1 n1 cap1 K1 A1 B1 C1 W io0 io1).mono fun e W' ⟨he, bel⟩ => ?_
  subst he
  exact ⟨_, rfl, _, _, _, [], _, [], hW', trodAll_mk1 (shut_bool Try.underlying4 _), (trodAll_cons_mk (Below.trod laidOut (by kernel_rfl) (of_decide_eq_true (by kernel_rfl)) k0 bel lt0) (trodAll_cons_mk (Below.trod laidOut (by kernel_rfl) (of_decide_eq_true (by kernel_rfl)) k1 bel lt1) trodAll_mk0)), rfl, bel.frame _, fun h => by cases h⟩

theorem triPlays_holds : Rows.TriPlaysSaid :=
  OpenClaim.holds_of_wide 8 Try.f8 rfl rfl rfl rfl rfl rfl rfl ⟨rfl, rfl, rfl, rfl, rfl⟩ rfl rfl rfl rfl rfl (by kernel_rfl) Try.func8 (by kernel_rfl)
    (of_decide_eq_true (by kernel_rfl)) (by unfold Func.isWrapper; rw [if_neg (by decide +kernel)]; exact ⟨rfl, rfl⟩)
    (fun os started H enc _ => triPlays_lifted os started H enc)
#print axioms triPlays_holds
end Go.Proofs.Ytdlpfiiakmhnlaa

