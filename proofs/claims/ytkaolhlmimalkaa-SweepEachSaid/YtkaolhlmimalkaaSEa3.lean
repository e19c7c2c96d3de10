/- My texts AsG, AsI, AsJ, AsJ0, AsJN, AsK, AsT, AsU, AsV, AsW, AsX, AsN, Cr1, Cr2, Cr3, joined: what the last one needs of them. Conditions: as each lemma says. -/
import Derived.Test.YtkaolhlmimalkaaSEa2
import Derived.KernelRfl
import Derived.StillTail
import Derived.OrdersHeld
import Derived.Deep.Quiet
import Derived.Below
import Derived.WalkKit
import Derived.Test.YtkaolhlmimalkaaProg
import Derived.WalkSpells
import Derived.StillTactics
import Derived.Laws.Pointers
import Derived.Deep.RegionHeld3
import Derived.RowKit3
import Derived.Deep.QuietTactic
import Derived.BigQuiet
import Derived.BigRegion
import Derived.Lib.Hide
import Derived.WalkSmall
import Derived.Laws.BitsAllLaws
import Derived.IntWalk
import Derived.Deep.OwnRows
import Derived.Deep.LoopGhost
import Derived.Shelf.Bits.Mul64
import Derived.Deep.DeepFit
import Derived.Deep.DeepCutAuto
import Derived.OwnWalk
import Derived.RangeFuncNested
import Derived.RangeFuncBound
import Derived.RangeFuncCalls
import Derived.RangeFuncLeaves
import Derived.Shelf.Abstract
import Derived.Shelf.RegionOpen
import Derived.OwnWalkIn
import Derived.TacticsInMore
import Derived.LoopNIn
import Derived.LoopIn
import Derived.Sort.LoopGhostIn
import Derived.Deep.DeepAppendRoom
import Derived.Deep.MidRow
import Derived.Laws.CopyOwn
import Derived.Laws.AppendOwn
import Derived.Lib.AppendZerosOnto
import Derived.Lib.Overlaps
import Derived.Laws.AppendOwnNone
import Derived.Maps.OwnIn
import Derived.ProofKit
import Derived.OpenShut
import Derived.ShutString
import Derived.ChangeOld
import Derived.Lib.SmallJoins
import Derived.Laws.IdiomArrays
import Derived.Deep.SlicePairs
namespace Go.Proofs.Ytkaolhlmimalkaa
open Go.RowKit

/-- a fresh node's number -/
def TS.fri (S : TS) : Nat := if 0 < S.fl then S.fr (S.fl - 1) else S.len
/-- a node anew -/
def TS.put (S : TS) (i : Nat) (x : Int) (d : Int) : TS := { S with v := upd S.v i x, k := upd S.k i (fun _ => 0), d := upd S.d i d }
theorem Row.there {w : World} {g cap n size : Nat} {e : TypeId} {f : Nat → Nat → Value} (h : Row w g cap n size e f) {i : Nat} (hi : i < n) : w.there g (i * size) size :=
  fun _ hj => ⟨by rw [h.cell hi hj]; rfl, h.free _⟩
theorem OutL.setCells {L : List Nat} {w : World} {b : Nat} (hb : b ∈ L) : ∀ (vs : List Value) (o : Nat) {w' : World}, OutL L w w' → OutL L w (w'.setCells b o vs)
  | [], _, _, h => h
  | v :: r, o, _, h => OutL.setCells hb r (o + 1) (h.set hb o none v)
theorem TM.put {w : World} {t : Nat} {S : TS} (h : TM w t S) {i : Nat} (hi : i < S.len) (x d : Int) :
    TM (((((((((((((((w.setCell ⟨S.nb, i * 15, none⟩ (.int .u64 (sc x 0))).setCell ⟨S.nb, i * 15 + 1, none⟩ (.int .u64 (sc x 1))).setCell ⟨S.nb, i * 15 + 2, none⟩ (.int .u64 (sc x 2))).setCell ⟨S.nb, i * 15 + 3, none⟩ (.int .u64 (sc x 3))).setCell ⟨S.nb, i * 15 + 4, none⟩ (.int .u64 (sc x 4))).setCell ⟨S.nb, i * 15 + 5, none⟩ (.int .u64 (sc x 5))).setCell ⟨S.nb, i * 15 + 6, none⟩ (.int .u64 (sc x 6))).setCell ⟨S.nb, i * 15 + 7, none⟩ (.int .u64 (sc x 7))).setCell ⟨S.nb, i * 15 + 8, none⟩ (.int .u64 (sc x 8))).setCell ⟨S.nb, i * 15 + 9, none⟩ (.int .u64 (sc x 9))).setCell ⟨S.nb, i * 15 + 10, none⟩ (.int .u64 (sc x 10))).setCell ⟨S.nb, i * 15 + 11, none⟩ (.int .u64 (sc x 11))).setCell ⟨S.nb, i * 15 + 12, none⟩ (.int .i64 0)).setCell ⟨S.nb, i * 15 + 13, none⟩ (.int .i64 0)).setCell ⟨S.nb, i * 15 + 14, none⟩ (.int .i64 d)) t (S.put i x d) := by
 have r0 := h.row
 have r1 := r0.set hi (show 0 < 15 by decide) (.int .u64 (sc x 0))
 have r2 := r1.set hi (show 1 < 15 by decide) (.int .u64 (sc x 1))
 have r3 := r2.set hi (show 2 < 15 by decide) (.int .u64 (sc x 2))
 have r4 := r3.set hi (show 3 < 15 by decide) (.int .u64 (sc x 3))
 have r5 := r4.set hi (show 4 < 15 by decide) (.int .u64 (sc x 4))
 have r6 := r5.set hi (show 5 < 15 by decide) (.int .u64 (sc x 5))
 have r7 := r6.set hi (show 6 < 15 by decide) (.int .u64 (sc x 6))
 have r8 := r7.set hi (show 7 < 15 by decide) (.int .u64 (sc x 7))
 have r9 := r8.set hi (show 8 < 15 by decide) (.int .u64 (sc x 8))
 have r10 := r9.set hi (show 9 < 15 by decide) (.int .u64 (sc x 9))
 have r11 := r10.set hi (show 10 < 15 by decide) (.int .u64 (sc x 10))
 have r12 := r11.set hi (show 11 < 15 by decide) (.int .u64 (sc x 11))
 have r13 := r12.set hi (show 12 < 15 by decide) (.int .i64 0)
 have r14 := r13.set hi (show 13 < 15 by decide) (.int .i64 0)
 have r15 := r14.set hi (show 14 < 15 by decide) (.int .i64 d)
 have o : OutL [S.nb] w (((((((((((((((w.setCell ⟨S.nb, i * 15, none⟩ (.int .u64 (sc x 0))).setCell ⟨S.nb, i * 15 + 1, none⟩ (.int .u64 (sc x 1))).setCell ⟨S.nb, i * 15 + 2, none⟩ (.int .u64 (sc x 2))).setCell ⟨S.nb, i * 15 + 3, none⟩ (.int .u64 (sc x 3))).setCell ⟨S.nb, i * 15 + 4, none⟩ (.int .u64 (sc x 4))).setCell ⟨S.nb, i * 15 + 5, none⟩ (.int .u64 (sc x 5))).setCell ⟨S.nb, i * 15 + 6, none⟩ (.int .u64 (sc x 6))).setCell ⟨S.nb, i * 15 + 7, none⟩ (.int .u64 (sc x 7))).setCell ⟨S.nb, i * 15 + 8, none⟩ (.int .u64 (sc x 8))).setCell ⟨S.nb, i * 15 + 9, none⟩ (.int .u64 (sc x 9))).setCell ⟨S.nb, i * 15 + 10, none⟩ (.int .u64 (sc x 10))).setCell ⟨S.nb, i * 15 + 11, none⟩ (.int .u64 (sc x 11))).setCell ⟨S.nb, i * 15 + 12, none⟩ (.int .i64 0)).setCell ⟨S.nb, i * 15 + 13, none⟩ (.int .i64 0)).setCell ⟨S.nb, i * 15 + 14, none⟩ (.int .i64 d)) := by
  refine OutL.set ?_ (by simp) _ none _
  refine OutL.set ?_ (by simp) _ none _
  refine OutL.set ?_ (by simp) _ none _
  refine OutL.set ?_ (by simp) _ none _
  refine OutL.set ?_ (by simp) _ none _
  refine OutL.set ?_ (by simp) _ none _
  refine OutL.set ?_ (by simp) _ none _
  refine OutL.set ?_ (by simp) _ none _
  refine OutL.set ?_ (by simp) _ none _
  refine OutL.set ?_ (by simp) _ none _
  refine OutL.set ?_ (by simp) _ none _
  refine OutL.set ?_ (by simp) _ none _
  refine OutL.set ?_ (by simp) _ none _
  refine OutL.set ?_ (by simp) _ none _
  refine OutL.set ?_ (by simp) _ none _
  exact OutL.refl _ _
 have hR : Row (((((((((((((((w.setCell ⟨S.nb, i * 15, none⟩ (.int .u64 (sc x 0))).setCell ⟨S.nb, i * 15 + 1, none⟩ (.int .u64 (sc x 1))).setCell ⟨S.nb, i * 15 + 2, none⟩ (.int .u64 (sc x 2))).setCell ⟨S.nb, i * 15 + 3, none⟩ (.int .u64 (sc x 3))).setCell ⟨S.nb, i * 15 + 4, none⟩ (.int .u64 (sc x 4))).setCell ⟨S.nb, i * 15 + 5, none⟩ (.int .u64 (sc x 5))).setCell ⟨S.nb, i * 15 + 6, none⟩ (.int .u64 (sc x 6))).setCell ⟨S.nb, i * 15 + 7, none⟩ (.int .u64 (sc x 7))).setCell ⟨S.nb, i * 15 + 8, none⟩ (.int .u64 (sc x 8))).setCell ⟨S.nb, i * 15 + 9, none⟩ (.int .u64 (sc x 9))).setCell ⟨S.nb, i * 15 + 10, none⟩ (.int .u64 (sc x 10))).setCell ⟨S.nb, i * 15 + 11, none⟩ (.int .u64 (sc x 11))).setCell ⟨S.nb, i * 15 + 12, none⟩ (.int .i64 0)).setCell ⟨S.nb, i * 15 + 13, none⟩ (.int .i64 0)).setCell ⟨S.nb, i * 15 + 14, none⟩ (.int .i64 d)) S.nb S.cap S.len 15 87 (S.put i x d).nd := by
  refine r15.congr fun a ha b hb => ?_
  by_cases e : a = i
  ·subst e
   rcases (show b = 0 ∨ b = 1 ∨ b = 2 ∨ b = 3 ∨ b = 4 ∨ b = 5 ∨ b = 6 ∨ b = 7 ∨ b = 8 ∨ b = 9 ∨ b = 10 ∨ b = 11 ∨ b = 12 ∨ b = 13 ∨ b = 14 by omega) with rfl | rfl | rfl | rfl | rfl | rfl | rfl | rfl | rfl | rfl | rfl | rfl | rfl | rfl | rfl <;> simp [TS.nd, TS.put, upd]
  ·simp only [e, false_and, if_false]
   unfold TS.nd TS.put
   simp only [upd, e, if_false]
 refine ⟨h.blk.out o (by simpa using h.tn), hR, ?_, h.tn⟩
 rcases h.fre with a | ⟨a, b, c, e⟩
 ·exact .inl a
 ·exact .inr ⟨a, b.out o (by simpa using fun q => e q.symm), c, e⟩
/-- a node's cells -/
abbrev ndC (x d : Int) : List Value := [.int .u64 (sc x 0), .int .u64 (sc x 1), .int .u64 (sc x 2), .int .u64 (sc x 3), .int .u64 (sc x 4), .int .u64 (sc x 5), .int .u64 (sc x 6), .int .u64 (sc x 7), .int .u64 (sc x 8), .int .u64 (sc x 9), .int .u64 (sc x 10), .int .u64 (sc x 11), .int .i64 0, .int .i64 0, .int .i64 d]
theorem TM.putC {w : World} {t : Nat} {S : TS} (h : TM w t S) {i : Nat} (hi : i < S.len) (x d : Int) : TM (w.setCells S.nb (i * 15) (ndC x d)) t (S.put i x d) := h.put hi x d
theorem ndC_fit (x d : Int) : (Try.prog.info? 87).map (·.size) = some (ndC x d).toArray.size := by kernel_rfl
theorem ndC_one (x d : Int) : ((ndC x d).toArray).all (·.oneCell') = true := by simp [ndC, Value.oneCell']
/-- the last free node is no more free -/
theorem TM.pop {w : World} {t : Nat} {S : TS} (h : TM w t S) (hf : 0 < S.fl) : TM (w.setCell ⟨t, 2, none⟩ (.slice (some ⟨S.fb, 0, none⟩) (S.fl - 1) S.fcap)) t { S with fl := S.fl - 1 } := by
  have hc : ¬ S.fcap = 0 := by rcases h.fre with a | a <;> omega
  refine ⟨?_, h.row.setNe h.tn.symm _ _ _, ?_, h.tn⟩
  · have := h.blk.put 2 (.slice (some ⟨S.fb, 0, none⟩) (S.fl - 1) S.fcap)
    show Blk _ t #[S.ord, _, (if S.fcap = 0 then _ else _), _, _] _
    rw [if_neg hc]; exact this
  · rcases h.fre with a | ⟨a, b, c, d⟩
    · omega
    · exact .inr ⟨a, (b.less (Nat.sub_le _ _)).setNe c.symm _ _ _, c, d⟩

set_option maxRecDepth 100000 in
set_option maxHeartbeats 16000000 in
theorem fresh_free (t : Nat) (S : TS) (x : Int) (i : Nat) (w : World) (h : TM w t S) (hf : 0 < S.fl) (hi : S.fr (S.fl - 1) = i) (hil : i < S.len) :
    Calls Try.prog 61 #[ptr t 0, pK x] w fun e w' => e = .returned (.int .i64 i) ∧ TM w' t ({ S with fl := S.fl - 1 }.put i x 1) ∧ OutL [t, S.nb] w w' := by
 have lt := h.blk.lt; have ln := h.row.lt; have c2 := h.c2; have c1 := h.c1; have tn := h.tn; have f2 := h.blk.free 2; have hfre := h.fre
 rcases hfre with a | ⟨fc, hrow, hn1, hn2⟩
 ·omega
 have hfc := hrow.cell (i := S.fl - 1) (j := 0) (by omega) (by decide)
 rw [hi] at hfc
 have hle := hrow.le
 have hcp : S.fcap ≤ 9223372036854775807 := by have := hrow.capb; unfold maxLen at this; omega
 have hlf := hrow.lt
 unfold TS.fv at c2
 rw [if_neg (by omega)] at c2
 have hcl := h.row.le; have HT := Lib.hid h; have HFL := Lib.hid hf
 obtain ⟨m, hm⟩ : ∃ m, S.fl - 1 = m := ⟨_, rfl⟩
 have HM := Lib.hid hm
 rw [hm] at hfc
 simp only [Nat.mul_one, Nat.add_zero] at hfc
 have e1 : ((S.fl : Nat) : Int) - 1 = (m : Int) := by omega
 have hm0 : (0 : Int) < ((S.fl : Nat) : Int) := by omega
 have hk0 : m < S.fl := by omega
 have hk1 : m ≤ S.fcap := by omega
 have hkt : w.heap.size ≠ t := by omega
 have hkn : w.heap.size ≠ S.nb := by omega
 clear h hrow hf hm hi
 go_enter Try.func61, Try.ntmps61
 go_wp2_with fail
 refine name_world ?_
 intro V hV
 have kbx : Blk V w.heap.size #[.int .u64 (sc x 0), .int .u64 (sc x 1), .int .u64 (sc x 2), .int .u64 (sc x 3), .int .u64 (sc x 4), .int .u64 (sc x 5), .int .u64 (sc x 6), .int .u64 (sc x 7), .int .u64 (sc x 8), .int .u64 (sc x 9), .int .u64 (sc x 10), .int .u64 (sc x 11)] 36 := by
  have e : (w.setCell ⟨t, 2, none⟩ (.slice (some ⟨S.fb, 0, none⟩) m S.fcap)).heap.size = w.heap.size := by simp [World.setCell]
  rw [hV, ← e]; exact Blk.new _ _ _
 have HV : Hid (TM V t { S with fl := m }) := by
  rw [hV]
  have h1 := HT.out.pop HFL.out
  rw [HM.out] at h1
  exact Lib.hid (h1.of (below_a1 _ (.cells #[.int .u64 (sc x 0), .int .u64 (sc x 1), .int .u64 (sc x 2), .int .u64 (sc x 3), .int .u64 (sc x 4), .int .u64 (sc x 5), .int .u64 (sc x 6), .int .u64 (sc x 7), .int .u64 (sc x 8), .int .u64 (sc x 9), .int .u64 (sc x 10), .int .u64 (sc x 11)] 36)))
 have HO : Hid (OutL [t, S.nb] w V) := by
  rw [hV]
  exact Lib.hid (((OutL.refl _ _).set (by simp) _ none _).alloc _)
 clear hV c2 hfc e1 hm0 f2 hk0 hk1
 obtain ⟨kb, ekb⟩ : ∃ b, w.heap.size = b := ⟨_, rfl⟩
 rw [ekb] at kbx hkt hkn ⊢
 have lkb := kbx.lt; have KB := Lib.hid kbx; clear kbx; have c1 := HV.out.c1; have lt2 := HV.out.blk.lt; have ln2 := HV.out.row.lt; obtain ⟨b0, b1, b2, b3, b4, b5, b6, b7, b8, b9, b10, b11⟩ := cel12 KB.out; have lb := KB.out.lt
 go_wp2_with fail
 refine wp_region_up V.heap.size 7 [(true, 0), (true, 1), (true, 2), (true, 3), (true, 4), (true, 5), (true, 6)] (by kernel_rfl) (by kernel_rfl) (fun _ _ d _ _ h => by cases d <;> exact h) ?_
 have hb : Below V.heap.size V V.drew := (Below.refl _ _).drew
 iterate 7
  first | refine wpS_takeL rfl rfl ?_ | refine wpS_takeN rfl ⟨_, rfl⟩ ?_
  go_big_quiet_step (rfl)
  refine wpQuiet_nil ?_
 refine wpS_nil ?_
 simp only [List.drop_succ_cons, List.drop_zero]
 have KN : Hid (TM V.drew t { S with fl := m }) := Lib.hid (HV.out.of (Below.refl _ _).drew)
 have HP : Hid (TM (V.drew.setCells S.nb (i * 15) (ndC x 1)) t ({ S with fl := S.fl - 1 }.put i x 1)) := by
  rw [HM.out]; exact Lib.hid (KN.out.putC (i := i) hil x 1)
 have hO : Hid (OutL [t, S.nb] w (V.drew.setCells S.nb (i * 15) (ndC x 1))) := Lib.hid (OutL.setCells (by simp) _ _ HO.out.drew)
 clear hb KB lkb HV HO HT HFL HM b0 b1 b2 b3 b4 b5 b6 b7 b8 b9 b10 b11
 go_wp2_with (refine wpList_store_mid rfl 87 _ _ rfl S.nb (i * 15) (ndC x 1).toArray rfl rfl (KN.out.row.there hil) (ndC_fit x 1) (ndC_one x 1) ?_)
 go_ret
 exact ⟨rfl, HP.out, hO.out⟩

/-- what a call leaves of the memory around a set -/
structure Fr (t : Nat) (S S' : TS) (w w' : World) : Prop where
  out : OutL [t, S.nb, S.fb] w w'
  nb : S'.nb = S.nb ∨ w.heap.size ≤ S'.nb
  fb : S'.fb = S.fb ∨ w.heap.size ≤ S'.fb
theorem Fr.ofOut {t : Nat} {S S' : TS} {w w' : World} (h : OutL [t, S.nb] w w') (h1 : S'.nb = S.nb) (h2 : S'.fb = S.fb) : Fr t S S' w w' :=
  ⟨h.mono fun k _ hk => by simp at hk ⊢; rcases hk with a | a <;> simp [a], .inl h1, .inl h2⟩
theorem Fr.ofBelow {t : Nat} {S : TS} {w w' : World} (h : Below w.heap.size w w') : Fr t S S w w' := ⟨.ofBelow h, .inl rfl, .inl rfl⟩
theorem Fr.trans {t : Nat} {S S1 S2 : TS} {w w1 w2 : World} (h : Fr t S S1 w w1) (k : Fr t S1 S2 w1 w2) : Fr t S S2 w w2 := by
  refine ⟨⟨k.out.os.trans h.out.os, k.out.tape.trans h.out.tape, k.out.output.trans h.out.output, Nat.le_trans h.out.size k.out.size, fun b hb hc => ?_⟩, ?_, ?_⟩
  · have hs := h.out.size
    simp at hc
    refine (k.out.block b (by omega) ?_).trans (h.out.block b hb (by simpa using hc))
    have h1 := h.nb; have h2 := h.fb
    simp
    omega
  · have hs := h.out.size
    rcases k.nb with a | a
    · rw [a]; exact h.nb
    · exact .inr (by omega)
  · have hs := h.out.size
    rcases k.fb with a | a
    · rw [a]; exact h.fb
    · exact .inr (by omega)
/-- a block that is none of the set's stays, and stays none of the set's -/
theorem Fr.keep {t : Nat} {S S' : TS} {w w' : World} (h : Fr t S S' w w') {b : Nat} (hb : b < w.heap.size) (h1 : b ≠ t) (h2 : b ≠ S.nb) (h3 : b ≠ S.fb) : w'.heap[b]? = w.heap[b]? ∧ b ≠ S'.nb ∧ b ≠ S'.fb :=
  ⟨h.out.block b hb (by simp [h1, h2, h3]), by have := h.nb; omega, by have := h.fb; omega⟩

theorem info_node : (Try.prog.info? 87).map (fun i => (i.zero, i.size, i.bytes)) = some (some (.agg #[.int .u64 0, .int .u64 0, .int .u64 0, .int .u64 0, .int .u64 0, .int .u64 0, .int .u64 0, .int .u64 0, .int .u64 0, .int .u64 0, .int .u64 0, .int .u64 0, .int .i64 0, .int .i64 0, .int .i64 0]), 15, 120) := by kernel_rfl
theorem TM.grow {w w1 : World} {t : Nat} {S : TS} (h : TM w t S) {v' : Value} (x : Int) (gr : w.grownBy w1 (some S.nb)) (hl : ∀ g', v'.ownBlock = some g' → some S.nb = some g' ∨ w.heap.size ≤ g')
    (own : w1.ownsRow 0 87 15 v' (S.len + 1) (flat 15 S.nd S.len ++ [.int .u64 (sc x 0), .int .u64 (sc x 1), .int .u64 (sc x 2), .int .u64 (sc x 3), .int .u64 (sc x 4), .int .u64 (sc x 5), .int .u64 (sc x 6), .int .u64 (sc x 7), .int .u64 (sc x 8), .int .u64 (sc x 9), .int .u64 (sc x 10), .int .u64 (sc x 11), .int .i64 0, .int .i64 0, .int .i64 1])) :
    ∃ g cap, v' = .slice (some ⟨g, 0, none⟩) (S.len + 1) cap ∧ TM (w1.setCell ⟨t, 1, none⟩ v') t (({ S with nb := g, cap := cap, len := S.len + 1 } : TS).put S.len x 1) ∧ (g = S.nb ∨ w.heap.size ≤ g) := by
 obtain ⟨T, hT⟩ : ∃ T : TS, ({ S with nb := S.nb, cap := S.cap, len := S.len + 1 } : TS).put S.len x 1 = T := ⟨_, rfl⟩
 have hnd : flat 15 S.nd S.len ++ [.int .u64 (sc x 0), .int .u64 (sc x 1), .int .u64 (sc x 2), .int .u64 (sc x 3), .int .u64 (sc x 4), .int .u64 (sc x 5), .int .u64 (sc x 6), .int .u64 (sc x 7), .int .u64 (sc x 8), .int .u64 (sc x 9), .int .u64 (sc x 10), .int .u64 (sc x 11), .int .i64 0, .int .i64 0, .int .i64 1] = flat 15 T.nd (S.len + 1) := by
  rw [flat, ← hT]
  congr 1
  ·refine flat_congr fun i hi j hj => ?_
   unfold TS.nd TS.put
   simp only [upd, show ¬ i = S.len by omega, if_false]
  ·show _ = [(({ S with nb := S.nb, cap := S.cap, len := S.len + 1 } : TS).put S.len x 1).nd S.len 0, (({ S with nb := S.nb, cap := S.cap, len := S.len + 1 } : TS).put S.len x 1).nd S.len 1, (({ S with nb := S.nb, cap := S.cap, len := S.len + 1 } : TS).put S.len x 1).nd S.len 2, (({ S with nb := S.nb, cap := S.cap, len := S.len + 1 } : TS).put S.len x 1).nd S.len 3, (({ S with nb := S.nb, cap := S.cap, len := S.len + 1 } : TS).put S.len x 1).nd S.len 4, (({ S with nb := S.nb, cap := S.cap, len := S.len + 1 } : TS).put S.len x 1).nd S.len 5, (({ S with nb := S.nb, cap := S.cap, len := S.len + 1 } : TS).put S.len x 1).nd S.len 6, (({ S with nb := S.nb, cap := S.cap, len := S.len + 1 } : TS).put S.len x 1).nd S.len 7, (({ S with nb := S.nb, cap := S.cap, len := S.len + 1 } : TS).put S.len x 1).nd S.len 8, (({ S with nb := S.nb, cap := S.cap, len := S.len + 1 } : TS).put S.len x 1).nd S.len 9, (({ S with nb := S.nb, cap := S.cap, len := S.len + 1 } : TS).put S.len x 1).nd S.len 10, (({ S with nb := S.nb, cap := S.cap, len := S.len + 1 } : TS).put S.len x 1).nd S.len 11, (({ S with nb := S.nb, cap := S.cap, len := S.len + 1 } : TS).put S.len x 1).nd S.len 12, (({ S with nb := S.nb, cap := S.cap, len := S.len + 1 } : TS).put S.len x 1).nd S.len 13, (({ S with nb := S.nb, cap := S.cap, len := S.len + 1 } : TS).put S.len x 1).nd S.len 14]
   simp [TS.nd, TS.put, upd]
 rw [hnd] at own
 obtain ⟨g, cap, rfl, _, hrow⟩ := Row.ofOwns own (by omega)
 have hg : g = S.nb ∨ w.heap.size ≤ g := by rcases hl g rfl with e | e; exact .inl (Option.some.inj e).symm; exact .inr e
 have tg : t ≠ g := by have := h.tn; have := h.blk.lt; omega
 have kb : Blk w1 t _ _ := (gr.block _ h.blk.lt (by simpa using h.tn)).trans h.blk
 refine ⟨g, cap, rfl, ⟨?_, ?_, ?_, ?_⟩, hg⟩
 ·exact kb.put 1 _
 ·rw [← hT] at hrow
  exact hrow.setNe tg.symm _ _ _
 ·rcases h.fre with a | ⟨a, b, c, d⟩
  ·exact .inl a
  ·have := b.lt
   exact .inr ⟨a, (b.same (gr.block _ b.lt (by simpa using d.symm))).setNe c.symm _ _ _, c, by show g ≠ S.fb; omega⟩
 ·exact tg

set_option maxRecDepth 100000 in
set_option maxHeartbeats 2000000 in
theorem fresh_new (t : Nat) (S : TS) (x : Int) (w : World) (h : TM w t S) (hf : S.fl = 0) (hlen : S.len < 1000000) :
    Calls Try.prog 61 #[ptr t 0, pK x] w fun e w' => e = .returned (.int .i64 S.len) ∧ ∃ g cap, TM w' t (({ S with nb := g, cap := cap, len := S.len + 1 } : TS).put S.len x 1) ∧ Fr t S (({ S with nb := g, cap := cap, len := S.len + 1 } : TS).put S.len x 1) w w' := by
 have lt := h.blk.lt; have ln := h.row.lt; have c1 := h.c1; have tn := h.tn; have c2 := h.c2
 have hfv : ∃ a cap, S.fv = .slice a 0 cap := by
  unfold TS.fv; rw [hf]; split
  ·exact ⟨_, _, rfl⟩
  ·exact ⟨_, _, rfl⟩
 obtain ⟨fa, fc, hfv⟩ := hfv
 rw [hfv] at c2
 have HT := Lib.hid h; clear h hfv hf
 obtain ⟨i0, hi, hz0, hz1, hz2⟩ := info_parts info_node
 go_enter Try.func61, Try.ntmps61
 go_wp2_with fail
 refine name_world ?_
 intro V hV
 have kbx : Blk V w.heap.size #[.int .u64 (sc x 0), .int .u64 (sc x 1), .int .u64 (sc x 2), .int .u64 (sc x 3), .int .u64 (sc x 4), .int .u64 (sc x 5), .int .u64 (sc x 6), .int .u64 (sc x 7), .int .u64 (sc x 8), .int .u64 (sc x 9), .int .u64 (sc x 10), .int .u64 (sc x 11)] 36 := by rw [hV]; exact Blk.new w _ _
 have hbV : Below w.heap.size w V := by rw [hV]; exact below_a1 _ _
 have HV := Lib.hid (HT.out.of hbV)
 clear hV c2
 have hkn : w.heap.size ≠ S.nb := by omega
 obtain ⟨kb0, ekb⟩ : ∃ b, w.heap.size = b := ⟨_, rfl⟩
 rw [ekb] at kbx hkn ⊢
 have lkb := kbx.lt; have KB := Lib.hid kbx; clear kbx; have c1 := HV.out.c1; have lt2 := HV.out.blk.lt; have ln2 := HV.out.row.lt; obtain ⟨b0, b1, b2, b3, b4, b5, b6, b7, b8, b9, b10, b11⟩ := cel12 KB.out; have lb := KB.out.lt
 go_wp2_with fail
 refine wp_region_upl [S.nb] 9 [(true, 0), (true, 1), (true, 2), (true, 3), (true, 4), (true, 5), (true, 6), (false, 7), (false, 8)] (by kernel_rfl) (by kernel_rfl) (fun _ _ d _ _ h => by cases d <;> exact h) ?_
 iterate 7
  first | refine wpS_takeL rfl rfl ?_ | refine wpS_takeN rfl ⟨_, rfl⟩ ?_
  go_big_quiet_step (rfl)
  refine wpQuiet_nil ?_
 refine wpS_doL rfl ?_
 intro K hK
 go_wp2_with fail
 refine name_Kw ?_
 intro Wx hWx
 have kx : Blk Wx V.heap.size #[.int .u64 (sc x 0), .int .u64 (sc x 1), .int .u64 (sc x 2), .int .u64 (sc x 3), .int .u64 (sc x 4), .int .u64 (sc x 5), .int .u64 (sc x 6), .int .u64 (sc x 7), .int .u64 (sc x 8), .int .u64 (sc x 9), .int .u64 (sc x 10), .int .u64 (sc x 11), .int .i64 0, .int .i64 0, .int .i64 1] 87 := by rw [hWx]; exact Blk.new V.drew _ _
 have hbx : Below V.heap.size V Wx := by rw [hWx]; exact ((Below.refl _ _).drew).alloc (by simp) _
 refine hK.out _ _ (upl (OutL.ofBelow hbx)) ?_
 clear hK K hWx
 refine wpS_doL rfl ?_
 intro K hK
 have HX := Lib.hid (HV.out.of hbx)
 have KX := Lib.hid kx
 refine wpList_append_lies _ rfl _ _ 94 rfl 0 87 i0 (.agg #[.int .u64 0, .int .u64 0, .int .u64 0, .int .u64 0, .int .u64 0, .int .u64 0, .int .u64 0, .int .u64 0, .int .u64 0, .int .u64 0, .int .u64 0, .int .u64 0, .int .i64 0, .int .i64 0, .int .i64 0]) 15 120 Try.underlying94 hi hz0 hz1 hz2 rfl (by decide) (.slice (some ⟨S.nb, 0, none⟩) S.len S.cap) S.len (flat 15 S.nd S.len) rfl (HX.out.row.owns (Nat.zero_le _)) ⟨V.heap.size, 0, none⟩ 1 1 [.int .u64 (sc x 0), .int .u64 (sc x 1), .int .u64 (sc x 2), .int .u64 (sc x 3), .int .u64 (sc x 4), .int .u64 (sc x 5), .int .u64 (sc x 6), .int .u64 (sc x 7), .int .u64 (sc x 8), .int .u64 (sc x 9), .int .u64 (sc x 10), .int .u64 (sc x 11), .int .i64 0, .int .i64 0, .int .i64 1] rfl rfl ?c1 ?c2 ?c3 ?c4 ?c5 ?_
 case c1 =>
  intro k u hk
  have eA : ∀ j, (⟨V.heap.size, 0, none⟩ : Addr).add j = ⟨V.heap.size, j, none⟩ := fun j => by unfold Addr.add; split <;> simp_all
  rw [eA]
  match k, hk with
  | 0, hk => simp at hk; subst hk; exact KX.out.cell 0
  | 1, hk => simp at hk; subst hk; exact KX.out.cell 1
  | 2, hk => simp at hk; subst hk; exact KX.out.cell 2
  | 3, hk => simp at hk; subst hk; exact KX.out.cell 3
  | 4, hk => simp at hk; subst hk; exact KX.out.cell 4
  | 5, hk => simp at hk; subst hk; exact KX.out.cell 5
  | 6, hk => simp at hk; subst hk; exact KX.out.cell 6
  | 7, hk => simp at hk; subst hk; exact KX.out.cell 7
  | 8, hk => simp at hk; subst hk; exact KX.out.cell 8
  | 9, hk => simp at hk; subst hk; exact KX.out.cell 9
  | 10, hk => simp at hk; subst hk; exact KX.out.cell 10
  | 11, hk => simp at hk; subst hk; exact KX.out.cell 11
  | 12, hk => simp at hk; subst hk; exact KX.out.cell 12
  | 13, hk => simp at hk; subst hk; exact KX.out.cell 13
  | 14, hk => simp at hk; subst hk; exact KX.out.cell 14
  | k + 15, hk => simp at hk
 case c2 => intro u hu; simp at hu; rcases hu with rfl | rfl | rfl | rfl | rfl | rfl | rfl | rfl | rfl | rfl | rfl | rfl | rfl | rfl <;> rfl
 case c3 => unfold maxLen; omega
 case c4 => omega
 case c5 => exact Nat.zero_le _
 intro v1 w2 own1 gr1 hl1
 obtain ⟨g, cap, rfl, T2, hg⟩ := HX.out.grow x gr1 hl1 own1
 have kb : Blk w2 t _ _ := (gr1.block _ HX.out.blk.lt (by simpa [Value.ownBlock] using tn)).trans HX.out.blk
 have k1 : w2.cell? ⟨t, 1, none⟩ = _ := kb.cell 1; have f1 := kb.free 1; have ltk := kb.lt; have hsz := hbV.size; have hszx := hbx.size
 have hO : Hid (Fr t S (({ S with nb := g, cap := cap, len := S.len + 1 } : TS).put S.len x 1) w (w2.setCell ⟨t, 1, none⟩ (.slice (some ⟨g, 0, none⟩) (S.len + 1) cap))) := by
  refine Lib.hid ⟨?_, ?_, .inl rfl⟩
  ·have o1 : OutL [t, S.nb, S.fb] w Wx := .ofBelow (hbV.trans (hbx.mono hsz))
   have o2 : OutL [t, S.nb, S.fb] Wx w2 :=
    ⟨gr1.os, gr1.tape, gr1.output, gr1.size, fun k hk hc => gr1.block k hk (by simp at hc; simpa [Value.ownBlock] using hc.2.1)⟩
   exact (o1.trans o2).set (by simp) 1 none _
  ·rcases hg with e | e
   ·exact .inl e
   ·exact .inr (by show w.heap.size ≤ g; omega)
 have o5 : OutL [S.nb] V w2 := (OutL.ofBelow hbx).trans ⟨gr1.os, gr1.tape, gr1.output, gr1.size, fun k hk hc => gr1.block k hk fun e => hc (by injection e with e; rw [e]; simp)⟩
 have T2 := Lib.hid T2
 go_wp2_with fail
 refine hK.out _ _ (upl o5) ?_
 clear hK K kx hbx own1 gr1 hl1 kb HT HV HX KX KB lkb o5 c1 hg lt2 ln2 b0 b1 b2 b3 b4 b5 b6 b7 b8 b9 b10 b11 lb
 simp only [Act.put, List.setIfInBounds_toArray, List.set_cons_succ, List.set_cons_zero]
 refine wpS_nil ?_
 simp only [List.drop_succ_cons, List.drop_zero]
 simp only [List.getElem?_toArray, List.getElem?_cons_zero, List.getElem?_cons_succ] at k1
 have hw1 : wrap64 (((S.len + 1 : Nat) : Int) - 1) = S.len := by rw [wrap64_id (by unfold In64; omega)]; omega
 go_wp2
 go_ret
 exact ⟨rfl, g, cap, T2.out, hO.out⟩
end Go.Proofs.Ytkaolhlmimalkaa

namespace Go.Proofs.Ytkaolhlmimalkaa
open Go.RowKit

/-- the set lies at block t, its free nodes' block is there -/
structure TM2 (w : World) (t : Nat) (S : TS) : Prop where
  m : TM w t S
  lf : S.fb < w.heap.size
theorem TM2.of {w w' : World} {t : Nat} {S : TS} (h : TM2 w t S) (hb : Below w.heap.size w w') : TM2 w' t S := ⟨h.m.of hb, Nat.lt_of_lt_of_le h.lf hb.size⟩
/-- a set with a fresh node -/
def TS.fresh (S : TS) (x : Int) (g cap : Nat) : TS := if 0 < S.fl then ({ S with fl := S.fl - 1 } : TS).put S.fri x 1 else ({ S with nb := g, cap := cap, len := S.len + 1 } : TS).put S.fri x 1
theorem fresh_any (t : Nat) (S : TS) (x : Int) (i : Nat) (hi : S.fri = i) (w : World) (h : TM2 w t S) (hlen : S.len < 1000000) (hfr : ∀ j, j < S.fl → S.fr j < S.len) :
    Calls Try.prog 61 #[ptr t 0, pK x] w fun e w' => e = .returned (.int .i64 i) ∧ ∃ g cap, TM2 w' t (S.fresh x g cap) ∧ Fr t S (S.fresh x g cap) w w' := by
  by_cases hf : 0 < S.fl
  · have e1 : S.fri = S.fr (S.fl - 1) := if_pos hf
    have e2 : ∀ g cap, S.fresh x g cap = ({ S with fl := S.fl - 1 } : TS).put S.fri x 1 := fun g cap => if_pos hf
    refine (fresh_free t S x i w h.m hf (e1.symm.trans hi) (by rw [← hi, e1]; exact hfr _ (by omega))).mono ?_
    rintro e w' ⟨rfl, h1, h2⟩
    refine ⟨rfl, 0, 0, ?_⟩
    rw [e2, hi]
    exact ⟨⟨h1, Nat.lt_of_lt_of_le h.lf h2.size⟩, .ofOut h2 rfl rfl⟩
  · have e1 : S.fri = S.len := if_neg hf
    have e2 : ∀ g cap, S.fresh x g cap = ({ S with nb := g, cap := cap, len := S.len + 1 } : TS).put S.fri x 1 := fun g cap => if_neg hf
    obtain rfl : S.len = i := e1.symm.trans hi
    refine (fresh_new t S x w h.m (by omega) hlen).mono ?_
    rintro e w' ⟨rfl, g, cap, h1, h2⟩
    refine ⟨rfl, g, cap, ?_⟩
    rw [e2, e1]
    exact ⟨⟨h1, Nat.lt_of_lt_of_le h.lf h2.out.size⟩, h2⟩
theorem TM.setN {w : World} {t : Nat} {S : TS} (h : TM w t S) (r : Nat) : TM (w.setCell ⟨t, 4, none⟩ (.int .i64 r)) t { S with n := r } := by
  refine ⟨?_, ?_, ?_, ?_⟩
  · exact h.blk.put 4 (.int .i64 r)
  · exact h.row.setNe h.tn.symm _ _ _
  · rcases h.fre with a | ⟨a, b, c, d⟩
    · exact .inl a
    · exact .inr ⟨a, b.setNe c.symm _ _ _, c, d⟩
  · exact h.tn
theorem WayO.out {w w' : World} {base : Nat} {v : Value} {l : List (Nat × Nat)} {L : List Nat} (h : WayO w base v l) (ho : OutL L w w') (hL : ∀ k ∈ L, k < base) : WayO w' base v l := by
  refine ⟨h.1, h.2.imp id ?_⟩
  rintro ⟨g, cap, cur, rfl, hbg, hg, r⟩
  exact ⟨g, cap, cur, rfl, hbg, (ho.block _ (Array.getElem?_eq_some_iff.1 hg).1 fun hm => by have := hL _ hm; omega).trans hg, r⟩
/-- a way goes through nodes -/
theorem Tr.way_ok {S : TS} (f : Nat → Int) : ∀ {j : Nat} {T : Tr}, Rep S j T → ∀ s ∈ T.way f, s.1 < S.len ∧ s.2 < 2
  | _, .nil, _, _, hs => by cases hs
  | _, .nd i l r, h, s, hs => by
    replace hs : s ∈ (if f i = 0 then [] else if f i < 0 then (i, 0) :: l.way f else (i, 1) :: r.way f) := hs
    split at hs
    · cases hs
    · split at hs
      · rcases List.mem_cons.1 hs with rfl | hs
        · exact ⟨h.2.2.1, by show 0 < 2; decide⟩
        · exact Tr.way_ok f h.2.2.2.1 s hs
      · rcases List.mem_cons.1 hs with rfl | hs
        · exact ⟨h.2.2.1, by show 1 < 2; decide⟩
        · exact Tr.way_ok f h.2.2.2.2 s hs
theorem fresh_sm (S : TS) (x : Int) (g cap : Nat) : (S.fresh x g cap).fb = S.fb ∧ (S.fresh x g cap).n = S.n ∧ (S.fresh x g cap).root = S.root ∧ (S.fresh x g cap).ord = S.ord ∧ S.len ≤ (S.fresh x g cap).len ∧ (S.fresh x g cap).len ≤ S.len + 1 := by
  unfold TS.fresh; split <;> refine ⟨rfl, rfl, rfl, rfl, ?_, ?_⟩ <;> simp [TS.put]
theorem fresh_i (S : TS) (x : Int) (g cap : Nat) (hfr : ∀ j, j < S.fl → S.fr j < S.len) : S.fri < (S.fresh x g cap).len := by
  unfold TS.fresh TS.fri; split
  · exact hfr _ (by omega)
  · simp [TS.put]
theorem KB.put {S : TS} (h : KB S) (h0 : 0 < S.len) (i : Nat) (x d : Int) : KB (S.put i x d) := by
  intro j hj s hs
  show upd S.k i (fun _ => 0) j s < S.len
  unfold upd; split
  · exact h0
  · exact h j hj s hs
theorem KB.fresh {S : TS} (h : KB S) (h0 : 0 < S.len) (x : Int) (g cap : Nat) : KB (S.fresh x g cap) := by
  unfold TS.fresh; split
  · exact KB.put (S := { S with fl := S.fl - 1 }) h h0 _ _ _
  · rename_i hf
    intro j hj s hs
    have e1 : S.fri = S.len := if_neg hf
    rw [e1]
    show upd S.k S.len (fun _ => 0) j s < S.len + 1
    unfold upd; split
    · exact Nat.succ_pos _
    · have hj' : j < S.len + 1 := hj
      exact Nat.lt_succ_of_lt (h j (by omega) s hs)
theorem DL.put {S : TS} {B : Int} (h : DL S B) (i : Nat) (x d : Int) (h0 : 0 ≤ d) (hd : d ≤ B) : DL (S.put i x d) B := by
  intro j hj
  show 0 ≤ upd S.d i d j ∧ upd S.d i d j ≤ B
  unfold upd; split
  · exact ⟨h0, hd⟩
  · exact h j hj
theorem DL.fresh {S : TS} {B : Int} (h : DL S B) (hB : 1 ≤ B) (x : Int) (g cap : Nat) : DL (S.fresh x g cap) B := by
  unfold TS.fresh; split
  · exact DL.put (S := { S with fl := S.fl - 1 }) h _ _ _ (by decide) hB
  · rename_i hf
    intro j hj
    have e1 : S.fri = S.len := if_neg hf
    rw [e1]
    show 0 ≤ upd S.d S.len 1 j ∧ upd S.d S.len 1 j ≤ B
    have hj' : j < S.len + 1 := hj
    unfold upd; split
    · omega
    · exact h j (by omega)
theorem hang_sm (S : TS) (l : List (Nat × Nat)) (i : Nat) : (S.hang l i).nb = S.nb ∧ (S.hang l i).fb = S.fb ∧ (S.hang l i).n = S.n ∧ (S.hang l i).len = S.len ∧ (S.hang l i).fl = S.fl ∧ (S.hang l i).fr = S.fr ∧ (S.hang l i).ord = S.ord ∧ (S.hang l i).fcap = S.fcap ∧ (S.hang l i).cap = S.cap := by
  have h := Sm.hgo S i l l.length
  exact ⟨h.2.1, h.2.2.1, h.2.2.2.2.2.2.2.2.2, h.1, h.2.2.2.2.2.2.1, h.2.2.2.2.2.2.2.1, h.2.2.2.2.1, h.2.2.2.1, h.2.2.2.2.2.1⟩

set_option maxRecDepth 100000 in
set_option maxHeartbeats 400000 in
theorem Put_old (t : Nat) (S : TS) (c : Int → Int → Int) (x : Int) (T : Tr) (f : Nat → Int) (hf : f = fun i => c x (S.v i)) (hn : T.found f ≠ 0) (w : World) (h : TM w t S) (ho : OrdOk S.ord c) (hx : KIn x) (hR : Rep S S.root T) (hv : ∀ i, i < S.len → KIn (S.v i)) (hs : T.size ≤ 1000000) :
    Calls Try.prog 36 #[ptr t 0, pK x] w fun e w' => e = .returned (.bool false) ∧ Below w.heap.size w w' := by
  obtain ⟨n, hn'⟩ : ∃ n, T.found f = n := ⟨_, rfl⟩
  rw [hn'] at hn
  have HC := Lib.hid (fun V (hV : TM V t S) => way_is t S c x T f hf _ rfl n hn' V hV ho hx hR hv hs)
  have HT := Lib.hid h
  have h0 : ¬ ((n : Int) = 0) := by omega
  clear h hn hR hf ho hv hn'
  go_enter Try.func36, Try.ntmps36
  go_wp2_with fail
  refine calls_w ?_
  intro V hV
  have kbx : Blk V w.heap.size #[.int .u64 (sc x 0), .int .u64 (sc x 1), .int .u64 (sc x 2), .int .u64 (sc x 3), .int .u64 (sc x 4), .int .u64 (sc x 5), .int .u64 (sc x 6), .int .u64 (sc x 7), .int .u64 (sc x 8), .int .u64 (sc x 9), .int .u64 (sc x 10), .int .u64 (sc x 11)] 36 := by rw [hV]; exact Blk.new _ _ _
  have hbV : Below w.heap.size w V := by rw [hV]; exact below_a1 _ _
  clear hV
  have HV := Lib.hid (HT.out.of hbV)
  refine (HC.out V HV.out).mono ?_
  rintro e w1 ⟨v, rfl, hO, hb⟩
  clear HC hO HT HV kbx
  go_wp2
  go_ret
  exact ⟨rfl, hbV.trans (hb.mono hbV.size)⟩

set_option maxRecDepth 100000 in
set_option maxHeartbeats 400000 in
theorem Put_new (t : Nat) (S : TS) (c : Int → Int → Int) (x : Int) (T : Tr) (f : Nat → Int) (hf : f = fun i => c x (S.v i)) (hn : T.found f = 0) (l : List (Nat × Nat)) (hl : T.way f = l) (B : Int) (w : World) (h : TM2 w t S) (ho : OrdOk S.ord c) (hx : KIn x) (hR : Rep S S.root T) (hv : ∀ i, i < S.len → KIn (S.v i)) (hs : T.size < 1000000)
    (h0 : 0 < S.len) (hlen : S.len < 1000000) (hfr : ∀ j, j < S.fl → S.fr j < S.len) (hk : KB S) (hd : DL S B) (hB1 : 1 ≤ B) (hB : B < 1000000) (hsn : S.n < 1000000) :
    Calls Try.prog 36 #[ptr t 0, pK x] w fun e w' => e = .returned (.bool true) ∧ ∃ g cap S', S' = { (S.fresh x g cap).hang l S.fri with n := S.n + 1 } ∧ TM2 w' t S' ∧ Fr t S S' w w' := by
 have HC := Lib.hid (fun V (hV : TM V t S) => way_is t S c x T f hf l hl 0 hn V hV ho hx hR hv (by omega))
 have hll : l.length < 1000000 := by rw [← hl]; exact Nat.lt_of_le_of_lt (Tr.way_len f T) hs
 have hok : ∀ s ∈ l, s.1 < S.len ∧ s.2 < 2 := by rw [← hl]; exact Tr.way_ok f hR
 have lt := h.m.blk.lt; have ln := h.m.row.lt; have lf := h.lf; have HT := Lib.hid h
 have HK := Lib.hid (And.intro hk hd)
 have HO := Lib.hid hok
 obtain ⟨i, hi⟩ : ∃ i, S.fri = i := ⟨_, rfl⟩
 rw [hi]
 clear h hn hR hf ho hv hl hk hd hok
 go_enter Try.func36, Try.ntmps36
 go_wp2_with fail
 refine calls_w ?_
 intro V hV
 have kbx : Blk V w.heap.size #[.int .u64 (sc x 0), .int .u64 (sc x 1), .int .u64 (sc x 2), .int .u64 (sc x 3), .int .u64 (sc x 4), .int .u64 (sc x 5), .int .u64 (sc x 6), .int .u64 (sc x 7), .int .u64 (sc x 8), .int .u64 (sc x 9), .int .u64 (sc x 10), .int .u64 (sc x 11)] 36 := by rw [hV]; exact Blk.new _ _ _
 have hbV : Below w.heap.size w V := by rw [hV]; exact below_a1 _ _
 clear hV
 have HV := Lib.hid (HT.out.of hbV)
 have lkb := kbx.lt; have KB := Lib.hid kbx; clear kbx
 refine (HC.out V HV.out.m).mono ?_
 rintro e w1 ⟨v, rfl, hO, hb⟩
 have T1 := Lib.hid (HV.out.of hb)
 have O1 := Lib.hid (hO.base hbV.size)
 have kbr := KB.out.below hb lkb; obtain ⟨b0, b1, b2, b3, b4, b5, b6, b7, b8, b9, b10, b11⟩ := cel12 kbr; have lb := kbr.lt; clear HC hO HV KB lkb
 go_wp2_with fail
 refine (fresh_any t S x i hi _ T1.out hlen hfr).mono ?_
 rintro e w2 ⟨rfl, g, cap, T2, F2⟩
 obtain ⟨S1, hS1⟩ : ∃ S1, S.fresh x g cap = S1 := ⟨_, rfl⟩
 have s1 := fresh_sm S x g cap; have s2 := fresh_i S x g cap hfr; have s3 := HK.out.1.fresh h0 x g cap; have s4 := HK.out.2.fresh hB1 x g cap
 rw [hS1] at s1 s2 s3 s4 T2 F2
 rw [hi] at s2
 have O2 := (O1.out.out F2.out (by simp; omega)).way
 have HS := Lib.hid hS1
 have H1 := Lib.hid (And.intro s3 s4)
 have F2 := Lib.hid F2; have T2 := Lib.hid T2; have S1_ := Lib.hid s1; have hsz := hb.size
 have FB := Lib.hid (hbV.trans (hb.mono hbV.size))
 have hszV := hbV.size; clear kbr lb b0 b1 b2 b3 b4 b5 b6 b7 b8 b9 b10 b11 hbV; clear hS1 s1 s3 s4 T1 O1 hb
 go_wp2_with fail
 refine (hang_any t S1 v l i B _ T2.out.m O2 (fun s hs => ⟨Nat.lt_of_lt_of_le (HO.out s hs).1 S1_.out.2.2.2.2.1, (HO.out s hs).2⟩) hll H1.out.2 (by omega) H1.out.1 s2).mono ?_
 rintro e w3 ⟨rfl, T3, o3⟩
 have hsm := hang_sm S1 l i
 obtain ⟨S2, hS2⟩ : ∃ S2, S1.hang l i = S2 := ⟨_, rfl⟩
 rw [hS2] at T3 hsm
 have c4 := T3.c4; have f4 := T3.blk.free 4; have lt3 := T3.blk.lt
 rw [show S2.n = S.n from hsm.2.2.1.trans S1_.out.2.1] at c4
 have F3 : Fr t S1 S2 w2 w3 := .ofOut o3 hsm.1 hsm.2.1
 have F4 : Hid (Fr t S { S2 with n := S.n + 1 } w (w3.setCell ⟨t, 4, none⟩ (.int .i64 (S.n + 1 : Nat)))) := by
  have F5 := ((Fr.ofBelow (t := t) (S := S) FB.out).trans F2.out).trans F3
  exact Lib.hid ⟨F5.out.set (by simp) 4 none _, F5.nb, F5.fb⟩
 have T4 : Hid (TM2 (w3.setCell ⟨t, 4, none⟩ (.int .i64 (S.n + 1 : Nat))) t { S2 with n := S.n + 1 }) := Lib.hid ⟨T3.setN _, by show S2.fb < _; rw [hsm.2.1, S1_.out.1]; have := o3.size; have := F2.out.out.size; simp; omega⟩
 have HS2 := Lib.hid hS2; clear hsm hS2 T3 o3 F3 T2 F2 O2 FB H1 HO HT HK
 obtain ⟨n1, hn1⟩ : ∃ n1, S.n + 1 = n1 := ⟨_, rfl⟩
 have hw1 : wrap64 ((S.n : Int) + 1) = (n1 : Int) := by rw [wrap64_id (by unfold In64; omega)]; omega
 rw [hn1] at T4 F4
 have HN := Lib.hid hn1; clear hn1 hlen hfr hsn hB hB1 h0 hs hll lt ln lf s2 hsz
 go_wp2
 go_ret
 exact ⟨rfl, g, cap, { S2 with n := n1 }, by rw [HN.out, HS.out, HS2.out], T4.out, F4.out⟩
end Go.Proofs.Ytkaolhlmimalkaa

namespace Go.Proofs.Ytkaolhlmimalkaa
open Go.RowKit

/-- the cells of the free nodes -/
def TS.frl (S : TS) : List Value := flat 1 (fun i _ => .int .i64 (S.fr i)) S.fl
theorem TM.free {w : World} {t : Nat} {S : TS} (h : TM w t S) : w.ownsRow 0 3 1 S.fv S.fl S.frl := by
  unfold TS.fv
  rcases h.fre with ⟨a, b⟩ | ⟨a, b, _⟩
  · rw [if_pos a]
    unfold TS.frl; rw [b]
    exact ⟨rfl, .inl ⟨rfl, rfl⟩⟩
  · rw [if_neg (by omega)]
    exact b.owns (Nat.zero_le _)
theorem TM.push {w w1 : World} {t : Nat} {S : TS} (h : TM w t S) {v' : Value} (x : Nat) (gr : w.grownBy w1 S.fv.ownBlock) (hl : ∀ g', v'.ownBlock = some g' → S.fv.ownBlock = some g' ∨ w.heap.size ≤ g')
    (own : w1.ownsRow 0 3 1 v' (S.fl + 1) (S.frl ++ [.int .i64 x])) :
    ∃ g cap, v' = .slice (some ⟨g, 0, none⟩) (S.fl + 1) cap ∧ TM (w1.setCell ⟨t, 2, none⟩ v') t { S with fb := g, fcap := cap, fl := S.fl + 1, fr := upd S.fr S.fl x } ∧ (g = S.fb ∨ w.heap.size ≤ g) ∧ g < w1.heap.size ∧ Blk w1 t #[S.ord, .slice (some ⟨S.nb, 0, none⟩) S.len S.cap, S.fv, .int .i64 S.root, .int .i64 S.n] 96 ∧ (∀ k, k < w.heap.size → k ≠ S.fb → w1.heap[k]? = w.heap[k]?) := by
 have hnd : S.frl ++ [.int .i64 (x : Int)] = flat 1 (fun i _ => .int .i64 (upd S.fr S.fl x i : Nat)) (S.fl + 1) := by
  rw [flat]
  congr 1
  ·exact flat_congr fun i hi j hj => by rw [upd_ne _ _ (by omega)]
  ·show _ = [Value.int .i64 ((upd S.fr S.fl x S.fl : Nat))]
   rw [upd_same]
 rw [hnd] at own
 obtain ⟨g, cap, rfl, _, hrow⟩ := Row.ofOwns own (by omega)
 have hob : S.fv.ownBlock = none ∨ S.fv.ownBlock = some S.fb := by
  unfold TS.fv; split
  ·exact .inl rfl
  ·exact .inr rfl
 have hg : g = S.fb ∨ w.heap.size ≤ g := by
  rcases hl g rfl with e | e
  ·rcases hob with q | q
   ·rw [q] at e; cases e
   ·rw [q] at e; exact .inl (Option.some.inj e).symm
  ·exact .inr e
 have hne : ∀ k, k < w.heap.size → k ≠ S.fb → w1.heap[k]? = w.heap[k]? := by
  intro k hk hne
  refine gr.block k hk fun e => ?_
  rcases hob with q | q
  ·rw [q] at e; cases e
  ·rw [q] at e; exact hne (Option.some.inj e)
 have hk : ∀ k, k < w.heap.size → (S.fcap = 0 ∨ k ≠ S.fb) → w1.heap[k]? = w.heap[k]? := by
  intro k hk h2
  rcases h2 with h2 | h2
  ·refine gr.block k hk fun e => ?_
   unfold TS.fv at e; rw [if_pos h2] at e; cases e
  ·exact hne k hk h2
 have tb : S.fcap = 0 ∨ t ≠ S.fb := h.fre.imp (fun a => a.1) fun a => a.2.2.1
 have nb : S.fcap = 0 ∨ S.nb ≠ S.fb := h.fre.imp (fun a => a.1) fun a => a.2.2.2
 have kb : Blk w1 t _ _ := (hk t h.blk.lt tb).trans h.blk
 have kr : Row w1 S.nb _ _ _ _ _ := h.row.same (hk _ h.row.lt nb)
 have t1 : t ≠ g := by
  intro e
  obtain ⟨cur, h1, _⟩ := hrow
  have h2 : w1.heap[t]? = _ := kb
  rw [e, h1] at h2
  simp at h2
 have n1 : S.nb ≠ g := by
  intro e
  obtain ⟨cur, h1, _⟩ := hrow
  obtain ⟨c2, h2, _⟩ := kr
  rw [e, h1] at h2
  simp at h2
 have c0 := hrow.le
 refine ⟨g, cap, rfl, ⟨?_, kr.setNe h.tn.symm _ _ _, .inr ⟨by show 0 < cap; omega, hrow.setNe t1.symm _ _ _, t1, n1⟩, h.tn⟩, hg, hrow.lt, kb, hne⟩
 have := kb.put 2 (.slice (some ⟨g, 0, none⟩) (S.fl + 1) cap)
 show Blk _ t #[S.ord, _, (if cap = 0 then _ else _), _, _] _
 rw [if_neg (by omega)]; exact this
theorem addz (a : Addr) : a.add 0 = a := by cases a; simp [Addr.add]
theorem cell_newz {W : World} {s : Nat} (h : W.heap.size = s) (v : Value) (t : TypeId) : (W.alloc (.cells #[v] t)).cell? ⟨s, 0, none⟩ = some v := by
  subst h
  exact (Blk.new W _ _).cell 0
/-- a set without a node -/
def TS.drop (S : TS) (i g cap : Nat) : TS := { S.put i 0 0 with fb := g, fcap := cap, fl := S.fl + 1, fr := upd S.fr S.fl i, n := S.n - 1 }

end Go.Proofs.Ytkaolhlmimalkaa

namespace Go.Proofs.Ytkaolhlmimalkaa
open Go.RowKit

section
variable {P : Program} {Q : Exit → Act → World → Prop} {md : Region.Mode}
/-- an operation that does not wait for one of the others -/
def Relax (o o' : Oper) : Prop := o'.dst = o.dst ∧ o'.op = o.op ∧ o'.type = o.type ∧ o'.pos = o.pos ∧ o'.guard = o.guard ∧ ∀ e ∈ o'.after, e ∈ o.after
theorem Relax.wp {o o' : Oper} (h : Relax o o') {a : Act} {w : World} {K : Act → World → Prop} (hw : o'.wp P a w K Q) : o.wp P a w K Q := by
  obtain ⟨h1, h2, h3, h4, h5, -⟩ := h
  obtain ⟨d, op, ty, ps, af, g⟩ := o
  obtain ⟨d', op', ty', ps', af', g'⟩ := o'
  dsimp only at h1 h2 h3 h4 h5
  subst h1 h2 h3 h4 h5
  exact hw
theorem Relax.asks {o o' : Oper} (h : Relax o o') {a : Act} {w : World} (hw : o'.asks P a w) : o.asks P a w := by
  obtain ⟨h1, h2, h3, h4, h5, -⟩ := h
  obtain ⟨d, op, ty, ps, af, g⟩ := o
  obtain ⟨d', op', ty', ps', af', g'⟩ := o'
  dsimp only at h1 h2 h3 h4 h5
  subst h1 h2 h3 h4 h5
  exact hw
/-- the operations of the one are those of the other -/
def RelaxL (md : Region.Mode) (ops ops' : Array Oper) : Prop := ops'.size = ops.size ∧ ∀ i o, ops[i]? = some o → (∃ o', ops'[i]? = some o' ∧ Relax o o') ∧ ∀ e ∈ o.after, Region.binds md e = true → e.on < i
theorem RelaxL.yielded {ops ops' : Array Oper} (h : RelaxL md ops ops') (tmps : Array Value) : yielded ops' tmps = yielded ops tmps := by
  funext j
  unfold Go.yielded
  have : ((ops'[j]?).bind (·.dst)) = ((ops[j]?).bind (·.dst)) := by
    cases ho : ops[j]? with
    | none =>
      have h1 := Array.getElem?_eq_none_iff.1 ho
      rw [Array.getElem?_eq_none_iff.2 (by rw [h.1]; exact h1)]
    | some o =>
      obtain ⟨⟨o', h1, h2⟩, _⟩ := h.2 j o ho
      rw [h1]; exact h2.1
  rw [this]
theorem RelaxL.op {ops ops' : Array Oper} (h : RelaxL md ops ops') {i : Nat} {K : Act → World → Prop} {a : Act} {w : World} (hw : wpOp P ops' Q i K a w) : wpOp P ops Q i K a w := by
  unfold wpOp at hw ⊢
  cases ho : ops[i]? with
  | none =>
    have h1 := Array.getElem?_eq_none_iff.1 ho
    rw [Array.getElem?_eq_none_iff.2 (by rw [h.1]; exact h1)] at hw
    exact hw
  | some o =>
    obtain ⟨⟨o', h1, h2⟩, _⟩ := h.2 i o ho
    rw [h1] at hw
    simp only at hw ⊢
    have hwd : Region.wanted o' (Go.yielded ops' a.tmps) = Region.wanted o (Go.yielded ops a.tmps) := by
      rw [h.yielded]; unfold Region.wanted; rw [h2.2.2.2.2.1]
    rw [hwd] at hw
    split
    · rename_i hc
      rw [if_pos hc] at hw
      exact hw.imp h2.wp fun q => ⟨h2.asks q.1, q.2⟩
    · rename_i hc
      rw [if_neg hc, h2.1] at hw
      exact hw
theorem RelaxL.ready {ops ops' : Array Oper} (h : RelaxL md ops ops') {listed : Array Bool} {i : Nat} (hi : i ∈ Region.ready md ops listed) : i ∈ Region.ready md ops' listed := by
  obtain ⟨h1, o, ho, h2⟩ := mem_ready.1 hi
  obtain ⟨⟨o', h3, h4⟩, _⟩ := h.2 i o ho
  exact mem_ready.2 ⟨h1, o', h3, fun e he hb => h2 e (h4.2.2.2.2.2 e he) hb⟩
theorem RelaxL.done {ops ops' : Array Oper} (h : RelaxL md ops ops') {listed : Array Bool} (hsz : listed.size = ops.size) (hr : Region.ready md ops listed = []) : Region.ready md ops' listed = [] := by
  have all : ∀ n i, i < n → i < ops.size → listed.getD i true = true := by
    intro n
    induction n with
    | zero => intro i hi; omega
    | succ n ih =>
      intro i hi hs
      rcases Bool.eq_false_or_eq_true (listed.getD i true) with e | e
      · exact e
      · exfalso
        obtain ⟨o, ho⟩ : ∃ o, ops[i]? = some o := ⟨_, Array.getElem?_eq_getElem hs⟩
        have : i ∈ Region.ready md ops listed := mem_ready.2 ⟨e, o, ho, fun f hf hfb => by
          have hlt := (h.2 i o ho).2 f hf hfb
          have := ih f.on (by omega) (by omega)
          have hs2 : f.on < listed.size := by omega
          simp only [Array.getD, hs2, dif_pos] at this ⊢
          exact this⟩
        rw [hr] at this; cases this
  refine List.eq_nil_iff_forall_not_mem.2 fun i hi => ?_
  obtain ⟨h1, o', h2, _⟩ := mem_ready.1 hi
  have hs : i < ops.size := by have := (Array.getElem?_eq_some_iff.1 h2).1; rw [h.1] at this; exact this
  rw [all (i + 1) i (by omega) hs] at h1; cases h1
theorem RelaxL.any {ops ops' : Array Oper} (h : RelaxL md ops ops') : ∀ (fuel : Nat) (listed : Array Bool) (a : Act) (w : World), listed.size = ops.size → wpAny P md ops' Q fuel listed a w → wpAny P md ops Q fuel listed a w
  | 0, listed, a, w, hsz, hw => by
    refine ⟨?_, hw.2⟩
    refine List.eq_nil_iff_forall_not_mem.2 fun i hi => ?_
    have := h.ready hi
    rw [hw.1] at this; cases this
  | fuel + 1, listed, a, w, hsz, hw => ⟨fun hr => hw.1 (h.done hsz hr), fun i hi => wpOp_mono (fun a' w' h' => RelaxL.any h fuel _ a' w' (by simpa using hsz) h') (h.op (hw.2 i (h.ready hi)))⟩
/-- does it hold of a list and one with a wait struck? -/
def strike (l : List Oper) (j k : Nat) : List Oper := l.mapIdx fun i o => if i = j then { o with after := o.after.filter fun e => e.on != k } else o
def upB (l : List Oper) : Bool := (List.range l.length).all fun i => match l[i]? with | none => true | some o => o.after.all fun e => !Region.binds .any e || decide (e.on < i)
theorem relax_strike {l : List Oper} {j k : Nat} (hu : upB l = true) : RelaxL .any l.toArray (strike l j k).toArray := by
  refine ⟨by simp [strike], fun i o ho => ⟨?_, fun e he hbe => ?_⟩⟩
  · have ho' : l[i]? = some o := by simpa using ho
    refine ⟨if i = j then { o with after := o.after.filter fun e => e.on != k } else o, by simp [strike, ho'], ?_⟩
    split
    · exact ⟨rfl, rfl, rfl, rfl, rfl, fun e he => (Array.mem_filter.1 he).1⟩
    · exact ⟨rfl, rfl, rfl, rfl, rfl, fun e he => he⟩
  · have ho' : l[i]? = some o := by simpa using ho
    unfold upB at hu
    have hi : i < l.length := (List.getElem?_eq_some_iff.1 ho').1
    have := List.all_eq_true.1 hu i (List.mem_range.2 hi)
    rw [ho'] at this
    simp only at this
    have h2 := (Array.all_eq_true_iff_forall_mem.1 this) e he
    simpa [hbe] using h2
theorem wp_region_strike {id : Nat} {a : Act} {w : World} {l l' : List Oper} (j k : Nat) (hm : P.follows .mixedOrders = true) (hu : upB l = true) (hl : strike l j k = l')
    (h : wpAny P .any l'.toArray Q l'.toArray.size (Array.replicate l'.toArray.size false) a { w with drawn := w.drawn + 1 }) : (Code.region id l.toArray true).wp P Q a w := by
  have hr : RelaxL .any l.toArray l'.toArray := hl ▸ relax_strike hu
  refine wp_region_any hm ?_
  rw [hr.1] at h
  exact hr.any _ _ _ _ (by simp) h
theorem wpAny_float {a : Act} {w : World} {l : List Oper} (n : Nat) (A : List Nat) (z : Nat → Obj) (σ : List (Bool × Nat))
    (hB : (Region.noSelect l.toArray && headB .any l.toArray n && decide (σ.length + A.length = n) && decide (n ≤ l.length) && floatB l.toArray n A &&
      schedB .any l.toArray n σ ((List.range l.length).map (fun i => A.contains i)).toArray) = true)
    (hQ : ∀ c a d v w, Q (.panic c) (Act.put a d v) w ↔ Q (.panic c) a w)
    (hAl : ∀ i ∈ A, ∀ oi, l[i]? = some oi → ∀ ρ w, (execOp ρ oi).run P w = .ok (.value (ptrTo w.heap.size)) (w.alloc (z i)))
    (h : wpF P l.toArray w Q (fun a w' => ∀ w1, Below w'.heap.size w' w1 → Below w.heap.size w w1 → ∀ β, Good w z β A w1 → wpList P l.toArray Q (l.drop n) (puts l.toArray β A a) w1) σ a w.drew) :
    wpAny P .any l.toArray Q l.toArray.size (Array.replicate l.toArray.size false) a { w with drawn := w.drawn + 1 } := by
 simp only [Bool.and_eq_true, decide_eq_true_eq] at hB
 obtain ⟨⟨⟨⟨⟨hsel, hh⟩, hlen⟩, hn⟩, hfl⟩, hs⟩ := hB
 have ok := floatB_ok hfl
 have hdl : (l.drop n).length = l.toArray.size - n := by simp
 have hls : ∀ j, ((List.range l.length).map (fun i => A.contains i)).toArray.getD j false = true ↔ j ∈ A ∧ j < l.length := by
  intro j
  by_cases hj : j < l.length
  ·simp [hj]
  ·simp [hj]
 have s0 : FlSt .any l.toArray n A w z ((List.range l.length).map (fun i => A.contains i)).toArray (Array.replicate l.toArray.size false) [] (fun _ => 0) w.drew := by
  refine ⟨by simp, by simp, fun j hj => (by rw [getD_replicate_false] at hj; cases hj), fun j hj hA => absurd ((hls j).1 hj).1 hA, fun j _ => ?_, fun i hi => ?_, ?_, List.nodup_nil, fun i hi => (by cases hi), (Below.refl _ _).drew, fun i hi => (by cases hi), fun i hi => (by cases hi)⟩
  ·rw [getD_replicate_false]; simp
  ·obtain ⟨_, oi, hoi, _⟩ := ok.at_ i hi
   have := (Array.getElem?_eq_some_iff.1 hoi).1
   exact (hls i).2 ⟨hi, by simpa using this⟩
  ·exact ⟨by simp, fun j oj _ hl => (by rw [getD_replicate_false] at hl; cases hl), fun t _ ht => getD_in (by simpa using ht) (getD_replicate_false _ _)⟩
 have H := float_main (T := fun a' w' => wpList P l.toArray Q (l.drop n) a' w') hsel hh hQ ok (fun i hi oi ho => hAl i hi oi (by simpa using ho)) _ σ [] (fun _ => 0) a w.drew w.drew _ _ rfl s0 hs (Below.refl _ _) h
 have := wpAny_of_headH (g := l.toArray.size - n) (fun listed a' w' hL => by
  have := wpAny_of_seq (md := .any) (Q' := Q) (l.drop n) n listed a' w' (fun j => by simp [List.getElem?_drop]) (by rw [hdl]; exact hL.1) hL.2
  rwa [hdl] at this) _ _ _ _ H
 have e : σ.length + (A.length - ([] : List Nat).length) + (l.toArray.size - n) = l.toArray.size := by simp; omega
 rw [e] at this
 exact this
theorem wp_region_struck {id : Nat} {a : Act} {w : World} {l : List Oper} (j k : Nat) (hm : P.follows .mixedOrders = true) (hu : upB l = true)
    (h : ∀ l', strike l j k = l' → wpAny P .any l'.toArray Q l'.toArray.size (Array.replicate l'.toArray.size false) a { w with drawn := w.drawn + 1 }) : (Code.region id l.toArray true).wp P Q a w :=
  wp_region_strike j k hm hu rfl (h _ rfl)
theorem wpAny_float1 {a : Act} {w : World} {l : List Oper} (n i : Nat) (σ : List (Bool × Nat)) {o : Oper} {d : Tmp} {t : TypeId} {c : Array Value}
    (hB : (Region.noSelect l.toArray && headB .any l.toArray n && decide (σ.length + [i].length = n) && decide (n ≤ l.length) && floatB l.toArray n [i] &&
      schedB .any l.toArray n σ ((List.range l.length).map (fun k => [i].contains k)).toArray) = true)
    (hQ : ∀ c a d v w, Q (.panic c) (Act.put a d v) w ↔ Q (.panic c) a w) (ho : l[i]? = some o) (hop : o.op = .alloc t) (hd : o.dst = some d) (hr : AllocRuns P t c)
    (h : wpF P l.toArray w Q (fun a w' => ∀ w1, Below w'.heap.size w' w1 → Below w.heap.size w w1 → ∀ b, w.heap.size ≤ b → w1.heap[b]? = some (.cells c t) → wpList P l.toArray Q (l.drop n) (a.put (some d) (ptrTo b)) w1) σ a w.drew) :
    wpAny P .any l.toArray Q l.toArray.size (Array.replicate l.toArray.size false) a { w with drawn := w.drawn + 1 } := by
  refine wpAny_float n [i] (fun _ => .cells c t) σ hB hQ (fun k hk oi hoi ρ w => ?_) (wpF_mono (fun a w' h' w1 hb1 hb2 β hg => ?_) _ _ _ h)
  · obtain rfl : k = i := by simpa using hk
    obtain rfl : o = oi := Option.some.inj (ho.symm.trans hoi)
    exact alloc_of hr o hop ρ w
  · have h1 := hg.1 i (List.mem_singleton.2 rfl)
    have e : puts l.toArray β [i] a = a.put (some d) (ptrTo (β i)) := by
      show a.put (dstOf l.toArray i) _ = _
      simp [dstOf, ho, hd]
    rw [e]
    exact h' w1 hb1 hb2 _ h1.1 h1.2
end
end Go.Proofs.Ytkaolhlmimalkaa

namespace Go.Proofs.Ytkaolhlmimalkaa
open Go.RowKit
section
variable {P : Program} {W : World} {Q : Exit → Act → World → Prop}
theorem wpF_takeN {l : List Oper} {T : Act → World → Prop} {σ : List (Bool × Nat)} {i : Nat} {o : Oper} {a : Act} {w : World} (ho : l[i]? = some o) (hp : ∃ x, o.op = .nilCheck x)
    (h : wpQuiet P l.toArray (fun w' => ∃ u : UpTo W.heap.size W, w' = u.w) (fun a' => wpF P l.toArray W Q T σ a' w) [o] a) : wpF P l.toArray W Q T ((true, i) :: σ) a w := by
  obtain ⟨x, hx⟩ := hp
  have ho' : l.toArray[i]? = some o := by simpa using ho
  unfold wpQuiet at h
  by_cases hw : Region.wanted o (yielded l.toArray a.tmps) = true
  · rw [if_pos hw] at h
    obtain ⟨v, h1, h2⟩ := h
    exact ⟨o, v, ho', .inl ⟨hw, nil_yields hx h1⟩, h2⟩
  · rw [if_neg hw] at h
    exact ⟨o, undef, ho', .inr ⟨by simpa using hw, rfl⟩, h⟩
end
end Go.Proofs.Ytkaolhlmimalkaa

namespace Go.Proofs.Ytkaolhlmimalkaa
open Go.RowKit

theorem TM2.outs {w w' : World} {t : Nat} {S : TS} {L : List Nat} (h : TM2 w t S) (ho : OutL L w w') (h1 : t ∉ L) (h2 : S.nb ∉ L) (h3 : S.fb ∉ L) : TM2 w' t S := ⟨h.m.out ho h1 h2 (.inr h3), Nat.lt_of_lt_of_le h.lf ho.size⟩
theorem Fr.outs {w w' w2 : World} {t : Nat} {S S' : TS} {b : Nat} (h : Fr t S S' w w') (ho : OutL [b] w' w2) (hb : w.heap.size ≤ b) : Fr t S S' w w2 := by
  refine ⟨⟨ho.os.trans h.out.os, ho.tape.trans h.out.tape, ho.output.trans h.out.output, Nat.le_trans h.out.size ho.size, fun k hk hc => ?_⟩, h.nb, h.fb⟩
  exact (ho.block k (Nat.lt_of_lt_of_le hk h.out.size) (by simp; omega)).trans (h.out.block k hk hc)
theorem WayO.outs {w w' : World} {base : Nat} {v : Value} {l : List (Nat × Nat)} {b : Nat} (h : WayO w base v l) (ho : OutL [b] w w') (hL : v.ownBlock ≠ some b) : WayO w' base v l := by
  refine ⟨h.1, h.2.imp id ?_⟩
  rintro ⟨g, cap, cur, rfl, hbg, hg, r⟩
  exact ⟨g, cap, cur, rfl, hbg, (ho.block _ (Array.getElem?_eq_some_iff.1 hg).1 fun hm => by simp at hm; subst hm; exact hL rfl).trans hg, r⟩
abbrev ndZ : List Value := [.int .u64 0, .int .u64 0, .int .u64 0, .int .u64 0, .int .u64 0, .int .u64 0, .int .u64 0, .int .u64 0, .int .u64 0, .int .u64 0, .int .u64 0, .int .u64 0, .int .i64 0, .int .i64 0, .int .i64 0]
theorem ndC_zero : ndC 0 0 = ndZ := by unfold ndC; simp only [sc_0]
theorem ndZ_fit : (Try.prog.info? 87).map (·.size) = some ndZ.toArray.size := by kernel_rfl
theorem ndZ_one : (ndZ.toArray).all (·.oneCell') = true := by simp [ndZ, Value.oneCell']
theorem allocK : AllocRuns Try.prog 85 #[.int .i64 0, .int .i64 0] := fun w => by kernel_rfl
set_option maxRecDepth 100000 in
set_option maxHeartbeats 4000000 in
theorem Del_left (t : Nat) (S : TS) (c : Int → Int → Int) (x : Int) (T : Tr) (f : Nat → Int) (hf : f = fun i => c x (S.v i)) (n : Nat) (hn : T.found f = n) (hn1 : n ≠ 0) (l : List (Nat × Nat)) (hl : T.way f = l) (B : Int) (w : World) (h : TM2 w t S) (ho : OrdOk S.ord c) (hx : KIn x) (hR : Rep S S.root T) (hv : ∀ i, i < S.len → KIn (S.v i)) (hs : T.size < 1000000) (h0 : 0 < S.len) (hlen : S.len < 1000000) (hfl : S.fl < 1000000) (hk : KB S) (hd : DL S B) (hB : B < 1000000) (hn0 : 0 < S.n) (hsn : S.n < 1000000) (hk0 : S.k n 0 = 0) :
    Calls Try.prog 18 #[ptr t 0, pK x] w fun e w' => e = .returned (.bool true) ∧ ∃ g cap S', S' = (S.hang l (S.k n 1)).drop n g cap ∧ TM2 w' t S' ∧ Fr t S S' w w' := by
 have HC := Lib.hid (fun V (hV : TM V t S) => way_is t S c x T f hf l hl n hn V hV ho hx hR hv (by omega))
 have hll : l.length < 1000000 := by rw [← hl]; exact Nat.lt_of_le_of_lt (Tr.way_len f T) hs
 have hok : ∀ s ∈ l, s.1 < S.len ∧ s.2 < 2 := by rw [← hl]; exact Tr.way_ok f hR
 have hnl : n < S.len := by rw [← hn]; exact Tr.found_lt f h0 hR
 have hgl := hnl
 have hne : ¬ ((n : Int) = 0) := by omega
 have HT := Lib.hid h
 have HK := Lib.hid (And.intro hk hd)
 have HO := Lib.hid hok
 have HG := Lib.hid (And.intro hll (And.intro hB (And.intro hn0 (And.intro hsn (And.intro hlen (And.intro hfl h0))))))
 have hkl0 : S.k n 0 < S.len := hk n hnl 0 (by decide)
 have hkl1 : S.k n 1 < S.len := hk n hnl 1 (by decide)
 obtain ⟨k0, ek0⟩ : ∃ k0, S.k n 0 = k0 := ⟨_, rfl⟩
 obtain ⟨k1, ek1⟩ : ∃ k1, S.k n 1 = k1 := ⟨_, rfl⟩
 rw [ek0] at hkl0 hk0
 rw [ek1] at hkl1
 rw [ek1]
 have EK0 := Lib.hid ek0; have EK1 := Lib.hid ek1; subst hk0
 
 clear h hn hR hf ho hv hl hk hd hok hs hll hB hn0 hsn hlen hfl ek0 ek1 h0
 go_enter Try.func18, Try.ntmps18
 go_wp2_with fail
 refine calls_w ?_
 intro V hV
 have kbx : Blk V w.heap.size #[.int .u64 (sc x 0), .int .u64 (sc x 1), .int .u64 (sc x 2), .int .u64 (sc x 3), .int .u64 (sc x 4), .int .u64 (sc x 5), .int .u64 (sc x 6), .int .u64 (sc x 7), .int .u64 (sc x 8), .int .u64 (sc x 9), .int .u64 (sc x 10), .int .u64 (sc x 11)] 36 := by rw [hV]; exact Blk.new _ _ _
 have hbV : Below w.heap.size w V := by rw [hV]; exact below_a1 _ _
 clear hV
 have HV := Lib.hid (HT.out.of hbV)
 refine (HC.out V HV.out.m).mono ?_
 rintro e w1 ⟨v, rfl, hO, hb⟩
 have T1 := Lib.hid (HV.out.of hb)
 have O1 := Lib.hid (hO.base hbV.size)
 have FB := Lib.hid (hbV.trans (hb.mono hbV.size))
 clear HC hO hb kbx HV hbV
 go_wp2_with fail
 refine name_world ?_
 intro W1 hW1
 subst hW1; have c0 := T1.out.m.n0 hnl; have c1 := T1.out.m.n1 hnl
 rw [EK0.out] at c0
 rw [EK1.out] at c1
 have ltn := T1.out.m.row.lt
 refine wp_region_struck 8 7 (by kernel_rfl) (by kernel_rfl) ?_
 intro l_ hl_
 simp [strike] at hl_
 subst hl_
 refine wpAny_float1 9 7 [(true, 0), (true, 1), (true, 2), (false, 3), (true, 4), (true, 5), (true, 6), (true, 8)] (by kernel_rfl) (fun _ _ d _ _ => by cases d <;> exact Iff.rfl) rfl rfl rfl allocK ?_
 have hb : Below W1.heap.size W1 W1.drew := (Below.refl _ _).drew
 iterate 3
  first | refine wpF_take rfl rfl ?_ | refine wpF_takeN rfl ⟨_, rfl⟩ ?_
  go_big_quiet_step (rfl)
  refine wpQuiet_nil ?_
 refine wpF_do rfl ?_
 intro w1 hg K hK
 replace hb := hb.trans (hg.mono hb.size)
 clear hg
 go_wp2_with ((go_at_call 43; (with_reducible refine (at_any t S n _ (T1.out.m.of hb) hnl).mono ?_); rintro e w2 ⟨rfl, hn⟩))
 refine hK.out _ _ hn ?_
 replace hb := hb.trans (hn.mono hb.size)
 clear hK K; clear hn
 iterate 4
  first | refine wpF_take rfl rfl ?_ | refine wpF_takeN rfl ⟨_, rfl⟩ ?_
  go_big_quiet_step (rfl)
  refine wpQuiet_nil ?_
 refine wpF_nil ?_
 clear hb
 intro w1 hg hb b1 lb1 nb1
 clear hg
 simp only [Act.put, ptrTo, List.setIfInBounds_toArray, List.set_cons_succ, List.set_cons_zero]
 simp only [List.drop_succ_cons, List.drop_zero]
 have kb : Blk w1 b1 #[.int .i64 0, .int .i64 0] 85 := nb1; have d0 := kb.cell 0; have d1 := kb.cell 1; have e0 := kb.free 0; have e1 := kb.free 1
 simp only [List.getElem?_toArray, List.getElem?_cons_zero, List.getElem?_cons_succ] at d0 d1
 have T2 := T1.out.of hb
 have o1 : OutL [b1] w1 ((w1.setCell ⟨b1, 0, none⟩ (.int .i64 (0))).setCell ⟨b1, 1, none⟩ (.int .i64 ((k1 : Nat)))) := ((OutL.refl [b1] w1).set (by simp) 0 none _).set (by simp) 1 none _
 have s0 := FB.out.size; have l1 := T1.out.m.blk.lt; have l2 := T1.out.m.row.lt; have l3 := T1.out.lf
 have T3 := Lib.hid (T2.outs o1 (by simp; omega) (by simp; omega) (by simp; omega))
 have F3 := Lib.hid ((Fr.ofBelow (t := t) (S := S) (FB.out.trans (hb.mono FB.out.size))).outs o1 (by omega))
 have O3 := Lib.hid ((O1.out.of hb).outs o1 (fun hm => by have := (O1.out.lt _ hm).1; omega))
 clear hb c0 c1 T1 T2 O1 FB kb nb1 o1
 go_wp2_with fail
 have s2 := hang_sm S l k1
 refine (hang_any t S _ l k1 B _ T3.out.m O3.out.way HO.out HG.out.1 HK.out.2 (by have := HG.out.2.1; omega) HK.out.1 hkl1).mono ?_
 rintro e w3 ⟨rfl, T4, o4⟩
 obtain ⟨S2, hS2⟩ : ∃ S2, S.hang l k1 = S2 := ⟨_, rfl⟩
 rw [hS2] at T4 s2
 have F4 := F3.out.trans (Fr.ofOut o4 s2.1 s2.2.1)
 have hlf : S2.fb < w3.heap.size := by rw [s2.2.1]; exact Nat.lt_of_lt_of_le T3.out.lf o4.size
 have hg2 : n < S2.len := by rw [s2.2.2.2.1]; exact hgl
 have q1 := T4.c1; have q2 : S2.len ≤ S2.cap := T4.row.le; have lt4 := T4.blk.lt; have ln4 := T4.row.lt; have tn4 := T4.tn
 have T5 := T4.putC (i := n) hg2 0 0
 rw [ndC_zero] at T5
 obtain ⟨S3, hS3⟩ : ∃ S3, S2.put n 0 0 = S3 := ⟨_, rfl⟩
 rw [hS3] at T5
 have s3 : S3.fb = S2.fb ∧ S3.nb = S2.nb ∧ S3.fl = S2.fl ∧ S3.fv = S2.fv ∧ S3.n = S2.n ∧ S3.fr = S2.fr := by rw [← hS3]; exact ⟨rfl, rfl, rfl, rfl, rfl, rfl⟩
 have o5 : OutL [S2.nb] w3 (w3.setCells S2.nb (n * 15) ndZ) := OutL.setCells (by simp) _ _ (OutL.refl _ _)
 have F5 : Fr t S S3 w _ := F4.trans (Fr.ofOut (t := t) (S := S2) (S' := S3) (o5.mono fun k _ hk => by simp at hk ⊢; exact .inr hk) s3.2.1 s3.1)
 have hlf5 := Nat.lt_of_lt_of_le hlf o5.size
 rw [← s3.1] at hlf5
 have hfl3 : S3.fl < 1000000 := by rw [s3.2.2.1, s2.2.2.2.2.1]; exact HG.out.2.2.2.2.2.1
 have hn3 : S3.n = S.n := by rw [s3.2.2.2.2.1, s2.2.2.1]
 have hrw := T4.row.there hg2; have e2 := T5.c2; have T5 := Lib.hid T5; have F5 := Lib.hid F5; have HS2 := Lib.hid hS2; have HS3 := Lib.hid hS3; have HN3 := Lib.hid hn3; have HL5 := Lib.hid hlf5; clear T4 o4 F4 hlf o5 s2 s3 hS2 hS3 hn3 hlf5 T3 F3 O3 HK HO HT
 obtain ⟨i0, hi, hz0, hz1, hz2⟩ := info_parts info_int
 obtain ⟨fvv, hfv⟩ : ∃ v, S3.fv = v := ⟨_, rfl⟩
 rw [hfv] at e2
 have HV := Lib.hid hfv; clear hfv
 go_wp2_with first | (refine wpList_store_mid rfl 87 _ _ rfl S2.nb (n * 15) ndZ.toArray rfl rfl hrw ndZ_fit ndZ_one ?_; refine name_Kw ?_; intro V hV; rw [← hV] at T5 F5 HL5 e2; clear hV hrw) | (at_builtin; refine wpList_append_lies _ rfl _ _ 37 rfl 0 3 i0 (.int .i64 0) 1 8 Try.underlying37 hi hz0 hz1 hz2 rfl (by decide) _ S3.fl S3.frl rfl (HV.out ▸ (T5.out.of ((Below.refl _ _).alloc (Nat.le_refl _) _)).free) ⟨V.heap.size, 0, none⟩ 1 1 [.int .i64 n] rfl rfl ?c1 ?c2 ?c3 ?c4 ?c5 ?_)
 case c1 =>
  intro k u hk
  match k, hk with
  | 0, hk => simp at hk; subst hk; rw [addz]; exact cell_newz (by simp) _ _
 case c2 => intro u hu; simp at hu; subst hu; rfl
 case c3 => unfold maxLen; omega
 case c4 => omega
 case c5 => exact Nat.zero_le _
 intro v1 w4 own1 gr1 hl1
 rw [← HV.out] at gr1 hl1
 have T6 := T5.out; have F6 := F5.out; have L6 := HL5.out; clear T5 F5 HL5 q1 e2
 have hal := (Below.refl V.heap.size V).alloc (Nat.le_refl _) (.cells #[.int .i64 n] 3)
 obtain ⟨g, cap, rfl, T7, hg, hlg, kb, hne2⟩ := (T6.of hal).push n gr1 (fun g' e => (hl1 g' e).imp id fun h => by first | exact h | (simp; exact h) | (simp at h ⊢; exact h)) own1
 have k2 := kb.cell 2; have f2 := kb.free 2; have k4 := kb.cell 4; have f4 := kb.free 4; have lt7 := kb.lt
 simp only [List.getElem?_toArray, List.getElem?_cons_zero, List.getElem?_cons_succ] at k2 k4
 obtain ⟨m, hm⟩ : ∃ m, S3.n = m + 1 := ⟨S3.n - 1, by have := HN3.out; have := HG.out.2.2.1; omega⟩
 have HW := Lib.hid (show wrap64 (m : Int) = (m : Int) from wrap64_id (by unfold In64; have := HN3.out; have := HG.out.2.2.2.1; omega))
 rw [hm] at k4
 have T8 := T7.setN m
 have o6 : OutL [t, S3.nb, S3.fb] V ((w4.setCell ⟨t, 2, none⟩ (.slice (some ⟨g, 0, none⟩) (S3.fl + 1) cap)).setCell ⟨t, 4, none⟩ (.int .i64 m)) :=
  ((((OutL.ofBelow hal).trans ⟨gr1.os, gr1.tape, gr1.output, gr1.size, fun k hk hc => hne2 k hk (by simp at hc; exact hc.2.2)⟩).set (by simp) 2 none _).set (by simp) 4 none _)
 have F7 : Fr t S ((S.hang l k1).drop n g cap) w ((w4.setCell ⟨t, 2, none⟩ (.slice (some ⟨g, 0, none⟩) (S3.fl + 1) cap)).setCell ⟨t, 4, none⟩ (.int .i64 m)) := by
  refine F6.trans ⟨o6, .inl ?_, ?_⟩
  ·rw [HS2.out, ← HS3.out]; rfl
  ·rcases hg with e | e
   ·exact .inl e
   ·right; have := hal.size; show V.heap.size ≤ g; omega
 have e7 : ({ ({ S3 with fb := g, fcap := cap, fl := S3.fl + 1, fr := upd S3.fr S3.fl n } : TS) with n := m } : TS) = (S.hang l k1).drop n g cap := by
  have hm' : m = S3.n - 1 := by omega
  rw [hm', HS2.out]
  have h3 := HS3.out; subst h3
  rfl
 have T9 : TM2 ((w4.setCell ⟨t, 2, none⟩ (.slice (some ⟨g, 0, none⟩) (S3.fl + 1) cap)).setCell ⟨t, 4, none⟩ (.int .i64 m)) t ((S.hang l k1).drop n g cap) := by
  rw [← e7]
  exact ⟨T8, by show g < _; simp; exact hlg⟩
 have F7 := Lib.hid F7; have T9 := Lib.hid T9; clear T6 F6 L6 T7 T8 hg hlg kb hne2 own1 gr1 hl1 hal o6 e7 hm HN3 HV HS2 HS3
 go_wp2
 go_ret
 rw [HW.out]
 exact ⟨rfl, g, cap, _, rfl, T9.out, F7.out⟩

end Go.Proofs.Ytkaolhlmimalkaa

namespace Go.Proofs.Ytkaolhlmimalkaa
open Go.RowKit

/-- a spot's numbers, by its code -/
def cmX (x : Int) : Int := sg (cmpn x 0)
def cmY (x : Int) : Int := sg (cmpn x 1)
def cmW (x : Int) : Int := sg (cmpn x 2)
/-- may this be a spot? -/
structure SpOk (x y v : Int) : Prop where
  v0 : 0 < v
  v1 : v ≤ 1237940039285380274899124224
  x0 : -(v * 2199023255552) ≤ x
  x1 : x ≤ v * 2199023255552
  y0 : -(v * 2199023255552) ≤ y
  y1 : y ≤ v * 2199023255552
def SpK (x : Int) : Prop := SpOk (cmX x) (cmY x) (cmW x)
def Tr.ht : Tr → Nat
  | .nil => 0
  | .nd _ l r => max l.ht r.ht + 1
def Tr.no : Tr → List Nat
  | .nil => []
  | .nd i l r => l.no ++ i :: r.no
/-- a node with a kid to a side -/
def mk (p s : Nat) (X Y : Tr) : Tr := if s = 0 then .nd p X Y else .nd p Y X
theorem mk_ht (p s : Nat) (X Y : Tr) : (mk p s X Y).ht = max X.ht Y.ht + 1 := by
  unfold mk; split
  · rfl
  · show max Y.ht X.ht + 1 = _; omega
theorem mk_mem (p s : Nat) (X Y : Tr) (n : Nat) : n ∈ (mk p s X Y).no ↔ n = p ∨ n ∈ X.no ∨ n ∈ Y.no := by
  unfold mk; split
  · show n ∈ X.no ++ p :: Y.no ↔ _; rw [List.mem_append, List.mem_cons]; constructor <;> (intro h; rcases h with h | h | h <;> simp [h])
  · show n ∈ Y.no ++ p :: X.no ↔ _; rw [List.mem_append, List.mem_cons]; constructor <;> (intro h; rcases h with h | h | h <;> simp [h])
/-- the tree lies in the set, with its depths -/
def Ok (S : TS) : Nat → Tr → Prop
  | j, .nil => j = 0
  | j, .nd i l r => j = i ∧ 0 < i ∧ i < S.len ∧ S.d i = (Tr.nd i l r).ht ∧ Ok S (S.k i 0) l ∧ Ok S (S.k i 1) r
theorem Ok.rep {S : TS} : ∀ {j : Nat} {T : Tr}, Ok S j T → Rep S j T
  | _, .nil, h => h
  | _, .nd _ _ _, h => ⟨h.1, h.2.1, h.2.2.1, h.2.2.2.2.1.rep, h.2.2.2.2.2.rep⟩
theorem Ok.d {S : TS} (h0 : S.d 0 = 0) : ∀ {j : Nat} {T : Tr}, Ok S j T → S.d j = T.ht
  | _, .nil, h => by have h1 : _ = 0 := h; rw [h1, h0]; rfl
  | _, .nd _ _ _, h => by rw [h.1]; exact h.2.2.2.1
theorem Ok.mk {S : TS} {j p s : Nat} {X Y : Tr} (hs : s < 2) : Ok S j (mk p s X Y) ↔ (j = p ∧ 0 < p ∧ p < S.len ∧ S.d p = (max X.ht Y.ht + 1 : Nat) ∧ Ok S (S.k p s) X ∧ Ok S (S.k p (1 - s)) Y) := by
  match s, hs with
  | 0, _ => exact Iff.rfl
  | 1, _ =>
    show (j = p ∧ 0 < p ∧ p < S.len ∧ S.d p = ((max Y.ht X.ht + 1 : Nat) : Int) ∧ Ok S (S.k p 0) Y ∧ Ok S (S.k p 1) X) ↔ _
    rw [Nat.max_comm]
    constructor
    · rintro ⟨a, b, c, d, e, f⟩; exact ⟨a, b, c, d, f, e⟩
    · rintro ⟨a, b, c, d, e, f⟩; exact ⟨a, b, c, d, f, e⟩
theorem Ok.congr {S S' : TS} (hl : S.len ≤ S'.len) : ∀ {j : Nat} {T : Tr}, Ok S j T → (∀ n ∈ T.no, S'.k n 0 = S.k n 0 ∧ S'.k n 1 = S.k n 1 ∧ S'.d n = S.d n) → Ok S' j T
  | _, .nil, h, _ => h
  | _, .nd i l r, h, hc => by
    have hi := hc i (by show i ∈ l.no ++ i :: r.no; simp)
    refine ⟨h.1, h.2.1, Nat.lt_of_lt_of_le h.2.2.1 hl, by rw [hi.2.2]; exact h.2.2.2.1, ?_, ?_⟩
    · rw [hi.1]; exact h.2.2.2.2.1.congr hl fun n hn => hc n (by show n ∈ l.no ++ i :: r.no; simp [hn])
    · rw [hi.2.1]; exact h.2.2.2.2.2.congr hl fun n hn => hc n (by show n ∈ l.no ++ i :: r.no; simp [hn])
theorem Ok.root {S : TS} {j : Nat} {T : Tr} (h : Ok S j T) : j = 0 ∨ j ∈ T.no := by
  cases T with
  | nil => exact .inl h
  | nd i l r => right; rw [h.1]; show i ∈ l.no ++ i :: r.no; simp
theorem Ok.pos {S : TS} : ∀ {j : Nat} {T : Tr}, Ok S j T → ∀ n ∈ T.no, 0 < n ∧ n < S.len
  | _, .nil, _, n, hn => by cases hn
  | _, .nd i l r, h, n, hn => by
    rcases List.mem_append.1 (show n ∈ l.no ++ i :: r.no from hn) with hn | hn
    · exact h.2.2.2.2.1.pos n hn
    · rcases List.mem_cons.1 hn with rfl | hn
      · exact ⟨h.2.1, h.2.2.1⟩
      · exact h.2.2.2.2.2.pos n hn
/-- an AVL tree -/
def Avl : Tr → Prop
  | .nil => True
  | .nd _ l r => l.ht ≤ r.ht + 1 ∧ r.ht ≤ l.ht + 1 ∧ Avl l ∧ Avl r
theorem Avl.mk {p s : Nat} {X Y : Tr} : Avl (mk p s X Y) ↔ (X.ht ≤ Y.ht + 1 ∧ Y.ht ≤ X.ht + 1 ∧ Avl X ∧ Avl Y) := by
  unfold Proofs.Ytkaolhlmimalkaa.mk; split
  · exact Iff.rfl
  · show (Y.ht ≤ X.ht + 1 ∧ X.ht ≤ Y.ht + 1 ∧ Avl Y ∧ Avl X) ↔ _
    constructor
    · rintro ⟨a, b, c, d⟩; exact ⟨b, a, d, c⟩
    · rintro ⟨a, b, c, d⟩; exact ⟨b, a, d, c⟩
/-- a turn, node by node -/
theorem turn_k {S : TS} {p s q : Nat} (hs : s < 2) (hq : S.k p s = q) (hne : p ≠ q) (n t : Nat) (ht : t < 2) :
    (S.turn p s).k n t = if n = q then (if t = s then S.k q t else p) else if n = p then (if t = s then S.k q (1 - s) else S.k p t) else S.k n t := by
  unfold TS.turn
  rw [hq]
  show upd (upd S.k p (upd (S.k p) s (S.k q (1 - s)))) q (upd (upd S.k p (upd (S.k p) s (S.k q (1 - s))) q) (1 - s) p) n t = _
  have hne' : ¬ q = p := fun e => hne e.symm
  by_cases h1 : n = q
  · subst h1
    by_cases h2 : t = s
    · have h3 : ¬ t = 1 - s := by omega
      simp [upd, h2, hne', show ¬ s = 1 - s by omega]
    · have h3 : t = 1 - s := by omega
      simp [upd, h3, show ¬ 1 - s = s by omega]
  · by_cases h3 : n = p
    · subst h3
      simp [upd, h1]
    · simp [upd, h1, h3]
theorem max_sides (f : Nat → Int) (s : Nat) (hs : s < 2) : max (f 0) (f 1) = max (f s) (f (1 - s)) := by
  match s, hs with
  | 0, _ => rfl
  | 1, _ => exact Int.max_comm _ _
theorem turn_d {S : TS} {p s q : Nat} (hs : s < 2) (hq : S.k p s = q) (hne : p ≠ q) (ha : S.k q s ≠ p) (n : Nat) :
    (S.turn p s).d n = if n = q then max (S.d (S.k q s)) (max (S.d (S.k q (1 - s))) (S.d (S.k p (1 - s))) + 1) + 1 else if n = p then max (S.d (S.k q (1 - s))) (S.d (S.k p (1 - s))) + 1 else S.d n := by
  have hk := turn_k (S := S) hs hq hne
  have e : (S.turn p s).d = upd (upd S.d p (max (S.d ((S.turn p s).k p 0)) (S.d ((S.turn p s).k p 1)) + 1)) q (max (upd S.d p (max (S.d ((S.turn p s).k p 0)) (S.d ((S.turn p s).k p 1)) + 1) ((S.turn p s).k q 0)) (upd S.d p (max (S.d ((S.turn p s).k p 0)) (S.d ((S.turn p s).k p 1)) + 1) ((S.turn p s).k q 1)) + 1) := by
    unfold TS.turn; rw [hq]; rfl
  rw [e, max_sides (fun t => S.d ((S.turn p s).k p t)) s hs]
  rw [max_sides (fun t => upd S.d p (max (S.d ((S.turn p s).k p s)) (S.d ((S.turn p s).k p (1 - s))) + 1) ((S.turn p s).k q t)) s hs]
  rw [hk p s hs, hk p (1 - s) (by omega), hk q s hs, hk q (1 - s) (by omega)]
  simp only [if_neg hne, if_true, if_neg (show ¬ 1 - s = s by omega)]
  unfold upd
  simp only [if_neg ha, if_true]
theorem turn_ok {S : TS} {p s q : Nat} {A M Z : Tr} (h0 : S.d 0 = 0) (hs : s < 2) (hp : 0 < p ∧ p < S.len) (hk : S.k p s = q) (hq : 0 < q ∧ q < S.len) (hA : Ok S (S.k q s) A) (hM : Ok S (S.k q (1 - s)) M) (hZ : Ok S (S.k p (1 - s)) Z)
    (hne : p ≠ q) (hpA : p ∉ A.no) (hpM : p ∉ M.no) (hpZ : p ∉ Z.no) (hqA : q ∉ A.no) (hqM : q ∉ M.no) (hqZ : q ∉ Z.no) :
    Ok (S.turn p s) q (mk q s A (mk p s M Z)) ∧ (∀ n, n ≠ p → n ≠ q → (S.turn p s).k n 0 = S.k n 0 ∧ (S.turn p s).k n 1 = S.k n 1 ∧ (S.turn p s).d n = S.d n) := by
  have ha : S.k q s ≠ p := by
    intro e
    rcases hA.root with h | h
    · omega
    · exact hpA (e ▸ h)
  have hk' := turn_k (S := S) hs hk hne
  have hd' := turn_d (S := S) hs hk hne ha
  have out : ∀ n, n ≠ p → n ≠ q → (S.turn p s).k n 0 = S.k n 0 ∧ (S.turn p s).k n 1 = S.k n 1 ∧ (S.turn p s).d n = S.d n := fun n h1 h2 =>
    ⟨by rw [hk' n 0 (by decide), if_neg h2, if_neg h1], by rw [hk' n 1 (by decide), if_neg h2, if_neg h1], by rw [hd' n, if_neg h2, if_neg h1]⟩
  refine ⟨?_, out⟩
  have dA := hA.d h0; have dM := hM.d h0; have dZ := hZ.d h0
  refine (Ok.mk hs).2 ⟨rfl, hq.1, hq.2, ?_, ?_, ?_⟩
  · rw [hd' q, if_pos rfl, dA, dM, dZ, mk_ht]; omega
  · rw [hk' q s hs, if_pos rfl, if_pos rfl]
    exact hA.congr (S := S) (S' := S.turn p s) (show S.len ≤ (S.turn p s).len from Nat.le_refl _) fun n hn => out n (fun e => hpA (e ▸ hn)) (fun e => hqA (e ▸ hn))
  · rw [hk' q (1 - s) (by omega), if_pos rfl, if_neg (by omega)]
    refine (Ok.mk hs).2 ⟨rfl, hp.1, hp.2, ?_, ?_, ?_⟩
    · rw [hd' p, if_neg hne, if_pos rfl, dM, dZ]; omega
    · rw [hk' p s hs, if_neg hne, if_pos rfl, if_pos rfl]
      exact hM.congr (S := S) (S' := S.turn p s) (show S.len ≤ (S.turn p s).len from Nat.le_refl _) fun n hn => out n (fun e => hpM (e ▸ hn)) (fun e => hqM (e ▸ hn))
    · rw [hk' p (1 - s) (by omega), if_neg hne, if_pos rfl, if_neg (by omega)]
      exact hZ.congr (S := S) (S' := S.turn p s) (show S.len ≤ (S.turn p s).len from Nat.le_refl _) fun n hn => out n (fun e => hpZ (e ▸ hn)) (fun e => hqZ (e ▸ hn))
theorem nd_nodup {p : Nat} {X Y : Tr} : (Tr.nd p X Y).no.Nodup ↔ (p ∉ X.no ∧ p ∉ Y.no ∧ X.no.Nodup ∧ Y.no.Nodup ∧ ∀ n ∈ X.no, n ∉ Y.no) := by
  show (X.no ++ p :: Y.no).Nodup ↔ _
  rw [List.nodup_append, List.nodup_cons]
  constructor
  · rintro ⟨h1, ⟨h2, h3⟩, h4⟩
    exact ⟨fun h => h4 p h p (by simp) rfl, h2, h1, h3, fun n hn hy => h4 n hn n (by simp [hy]) rfl⟩
  · rintro ⟨h1, h2, h3, h4, h5⟩
    refine ⟨h3, ⟨h2, h4⟩, fun a ha b hb e => ?_⟩
    subst e
    rcases List.mem_cons.1 hb with rfl | hb
    · exact h1 ha
    · exact h5 a ha hb
theorem mk_nodup {p s : Nat} {X Y : Tr} : (mk p s X Y).no.Nodup ↔ (p ∉ X.no ∧ p ∉ Y.no ∧ X.no.Nodup ∧ Y.no.Nodup ∧ ∀ n ∈ X.no, n ∉ Y.no) := by
  unfold mk; split
  · exact nd_nodup
  · rw [nd_nodup]
    constructor
    · rintro ⟨a, b, c, d, e⟩; exact ⟨b, a, d, c, fun n hn hy => e n hy hn⟩
    · rintro ⟨a, b, c, d, e⟩; exact ⟨b, a, d, c, fun n hn hy => e n hy hn⟩
theorem rot_no {p q s : Nat} (hs : s < 2) (A M Z : Tr) : (mk q s A (mk p s M Z)).no = (mk p s (mk q s A M) Z).no := by
  match s, hs with
  | 0, _ => show A.no ++ q :: (M.no ++ p :: Z.no) = (A.no ++ q :: M.no) ++ p :: Z.no; simp
  | 1, _ => show (Z.no ++ p :: M.no) ++ q :: A.no = Z.no ++ p :: (M.no ++ q :: A.no); simp
theorem rot2_no {p q m s : Nat} (hs : s < 2) (A E F Z : Tr) : (mk m s (mk q (1 - s) F A) (mk p s E Z)).no = (mk p s (mk q s A (mk m (1 - s) E F)) Z).no := by
  match s, hs with
  | 0, _ => show (A.no ++ q :: F.no) ++ m :: (E.no ++ p :: Z.no) = (A.no ++ q :: (F.no ++ m :: E.no)) ++ p :: Z.no; simp
  | 1, _ => show (Z.no ++ p :: E.no) ++ m :: (F.no ++ q :: A.no) = Z.no ++ p :: ((E.no ++ m :: F.no) ++ q :: A.no); simp
theorem as_mk (t : Nat) (i : Nat) (l r : Tr) : ∃ X Y, Tr.nd i l r = mk i t X Y := by
  by_cases h : t = 0
  · exact ⟨l, r, by unfold mk; rw [if_pos h]⟩
  · exact ⟨r, l, by unfold mk; rw [if_neg h]⟩
theorem as_mk' (t : Nat) : ∀ M : Tr, 0 < M.ht → ∃ m E F, M = mk m t E F
  | .nil, h => absurd h (by decide)
  | .nd i l r, _ => ⟨i, as_mk t i l r⟩
theorem two_sub {s : Nat} (hs : s < 2) : 1 - (1 - s) = s := by omega
/-- what stays as it is, but for some nodes -/
def Kp (S S' : TS) (l : List Nat) : Prop := ∀ n, n ∉ l → S'.k n 0 = S.k n 0 ∧ S'.k n 1 = S.k n 1 ∧ S'.d n = S.d n
theorem Kp.trans {S S1 S2 : TS} {l : List Nat} (h : Kp S S1 l) (k : Kp S1 S2 l) : Kp S S2 l := fun n hn =>
  ⟨(k n hn).1.trans (h n hn).1, (k n hn).2.1.trans (h n hn).2.1, (k n hn).2.2.trans (h n hn).2.2⟩
theorem setK_kp (S : TS) {p s x : Nat} {l : List Nat} (hp : p ∈ l) : Kp S (S.setK p s x) l := fun n hn => by
  have hne : n ≠ p := fun e => hn (e ▸ hp)
  refine ⟨?_, ?_, rfl⟩
  · show upd S.k p _ n 0 = _; rw [upd_ne _ _ hne]
  · show upd S.k p _ n 1 = _; rw [upd_ne _ _ hne]
theorem setK_at {S : TS} {p s x : Nat} : (S.setK p s x).k p s = x := by show upd S.k p (upd (S.k p) s x) p s = x; rw [upd_same, upd_same]
theorem setK_other {S : TS} {p s x t : Nat} (h : t ≠ s) : (S.setK p s x).k p t = S.k p t := by show upd S.k p (upd (S.k p) s x) p t = _; rw [upd_same, upd_ne _ _ h]
set_option maxHeartbeats 2000000 in
theorem deep_ok {S : TS} {p s q : Nat} {A M Z : Tr} (h0 : S.d 0 = 0) (hs : s < 2) (hp : 0 < p ∧ p < S.len) (hX : Ok S (S.k p s) (mk q s A M)) (hZ : Ok S (S.k p (1 - s)) Z) (hnd : (mk p s (mk q s A M) Z).no.Nodup)
    (hb : Avl (mk q s A M)) (hbz : Avl Z) (hh : (mk q s A M).ht = Z.ht + 2) :
    ∃ T2, Ok ((S.bow p s).turn p s) ((S.bow p s).k p s) T2 ∧ T2.no = (mk p s (mk q s A M) Z).no ∧ Avl T2 ∧ T2.ht ≤ Z.ht + 3 ∧ Z.ht + 2 ≤ T2.ht ∧ Kp S ((S.bow p s).turn p s) (mk p s (mk q s A M) Z).no := by
  obtain ⟨n1, n2, n3, n4, n5⟩ := mk_nodup.1 hnd
  obtain ⟨m1, m2, m3, m4, m5⟩ := mk_nodup.1 n3
  obtain ⟨b1, b2, b3, b4⟩ := Avl.mk.1 hb
  obtain ⟨e1, e2, e3, e4, e5, e6⟩ := (Ok.mk hs).1 hX
  rw [mk_ht] at hh
  have dA := e5.d h0; have dM := e6.d h0
  have pq : p ≠ q := fun e => n1 (by rw [mk_mem]; exact .inl e)
  have pA : p ∉ A.no := fun e => n1 (by rw [mk_mem]; exact .inr (.inl e))
  have pM : p ∉ M.no := fun e => n1 (by rw [mk_mem]; exact .inr (.inr e))
  have qZ : q ∉ Z.no := n5 q (by rw [mk_mem]; exact .inl rfl)
  have AZ : ∀ n ∈ A.no, n ∉ Z.no := fun n hn => n5 n (by rw [mk_mem]; exact .inr (.inl hn))
  have MZ : ∀ n ∈ M.no, n ∉ Z.no := fun n hn => n5 n (by rw [mk_mem]; exact .inr (.inr hn))
  have inl : ∀ n, n = p ∨ n = q ∨ n ∈ A.no ∨ n ∈ M.no ∨ n ∈ Z.no → n ∈ (mk p s (mk q s A M) Z).no := fun n h => by
    rw [mk_mem, mk_mem]
    rcases h with h | h | h | h | h <;> simp [h]
  have hln : S.ln (S.k p s) (1 - s) = (M.ht : Int) - A.ht := by unfold TS.ln; rw [e1, two_sub hs, dA, dM]
  by_cases hd : M.ht ≤ A.ht
  · have hbow : S.bow p s = S := by unfold TS.bow; rw [hln, if_neg (by omega)]
    rw [hbow, e1]
    obtain ⟨r1, r2⟩ := turn_ok h0 hs hp e1 ⟨e2, e3⟩ e5 e6 hZ pq pA pM n2 m1 m2 qZ
    refine ⟨_, r1, rot_no hs A M Z, ?_, ?_, ?_, fun n hn => r2 n (fun e => hn (inl n (.inl e))) (fun e => hn (inl n (.inr (.inl e))))⟩
    · rw [Avl.mk, Avl.mk, mk_ht]; exact ⟨by omega, by omega, b3, by omega, by omega, b4, hbz⟩
    · rw [mk_ht, mk_ht]; omega
    · rw [mk_ht, mk_ht]; omega
  · obtain ⟨m, E, F, rfl⟩ := as_mk' (1 - s) M (by omega)
    · have hs1 : 1 - s < 2 := by omega
      obtain ⟨f1, f2, f3, f4, f5, f6⟩ := (Ok.mk hs1).1 e6
      rw [two_sub hs] at f6
      obtain ⟨g1, g2, g3, g4, g5⟩ := mk_nodup.1 m4
      obtain ⟨c1, c2, c3, c4⟩ := Avl.mk.1 b4
      rw [mk_ht] at hh b1 b2 hd dM
      have mm : m ∈ (mk m (1 - s) E F).no := by rw [mk_mem]; exact .inl rfl
      have Ein : ∀ n ∈ E.no, n ∈ (mk m (1 - s) E F).no := fun n hn => by rw [mk_mem]; exact .inr (.inl hn)
      have Fin : ∀ n ∈ F.no, n ∈ (mk m (1 - s) E F).no := fun n hn => by rw [mk_mem]; exact .inr (.inr hn)
      have qm : q ≠ m := fun e => m2 (e ▸ mm)
      have pm : p ≠ m := fun e => pM (e ▸ mm)
      have hbow : S.bow p s = (S.turn q (1 - s)).setK p s m := by unfold TS.bow; rw [hln, if_pos (by rw [mk_ht]; omega), e1, f1]
      have e5' : Ok S (S.k q (1 - (1 - s))) A := by rw [two_sub hs]; exact e5
      have f6' : Ok S (S.k m (1 - (1 - s))) F := by rw [two_sub hs]; exact f6
      obtain ⟨r1, r2⟩ := turn_ok (S := S) (p := q) (s := 1 - s) (q := m) h0 hs1 ⟨e2, e3⟩ f1 ⟨f2, f3⟩ f5 f6' e5' qm (fun h => m2 (Ein _ h)) (fun h => m2 (Fin _ h)) m1 g1 g2 (fun h => m5 m h mm)
      obtain ⟨S2, hS2⟩ : ∃ S2, (S.turn q (1 - s)).setK p s m = S2 := ⟨_, rfl⟩
      rw [hbow, hS2]
      have kp1 : Kp (S.turn q (1 - s)) S2 [p] := by rw [← hS2]; exact setK_kp _ (by simp)
      have l2 : S2.len = S.len := by rw [← hS2]; rfl
      have d02 : S2.d 0 = 0 := by rw [← hS2]; show (S.turn q (1 - s)).d 0 = 0; rw [(r2 0 (by omega) (by omega)).2.2]; exact h0
      have kps : S2.k p s = m := by rw [← hS2]; exact setK_at
      have kpz : S2.k p (1 - s) = S.k p (1 - s) := by
        rw [← hS2, setK_other (by omega)]
        have := r2 p pq pm
        have hg : ∀ t, t < 2 → (S.turn q (1 - s)).k p t = S.k p t := fun t ht => by
          match t, ht with
          | 0, _ => exact this.1
          | 1, _ => exact this.2.1
        exact hg (1 - s) hs1
      have r3 : Ok S2 m (mk m (1 - s) E (mk q (1 - s) F A)) := r1.congr (S' := S2) (by rw [← hS2]; exact Nat.le_refl _) fun n hn => kp1 n (by
        intro h
        obtain rfl : n = p := by simpa using h
        rw [mk_mem, mk_mem] at hn
        rcases hn with h | h | h | h | h
        · exact pm h
        · exact pM (Ein _ h)
        · exact pq h
        · exact pM (Fin _ h)
        · exact pA h)
      have hZ2 : Ok S2 (S2.k p (1 - s)) Z := by
        rw [kpz]
        exact hZ.congr (S' := S2) (by omega) fun n hn => by
          have h1 := kp1 n (fun h => n2 (by obtain rfl : n = p := by simpa using h
                                            exact hn))
          have h2 := r2 n (fun e => qZ (e ▸ hn)) (fun e => MZ m mm (e ▸ hn))
          exact ⟨h1.1.trans h2.1, h1.2.1.trans h2.2.1, h1.2.2.trans h2.2.2⟩
      obtain ⟨t1, t2, t3, t4, t5, t6⟩ := (Ok.mk hs1).1 r3
      rw [two_sub hs] at t6
      have hp2 : 0 < p ∧ p < S2.len := by rw [l2]; exact hp
      have hm2 : 0 < m ∧ m < S2.len := by rw [l2]; exact ⟨f2, f3⟩
      obtain ⟨u1, u2⟩ := turn_ok (S := S2) (p := p) (s := s) (q := m) d02 hs hp2 kps hm2 t6 t5 hZ2 pm
        (fun h => by rw [mk_mem] at h; rcases h with h | h | h; exact pq h; exact pM (Fin _ h); exact pA h) (fun h => pM (Ein _ h)) n2
        (fun h => by rw [mk_mem] at h; rcases h with h | h | h; exact qm h.symm; exact g2 h; exact m5 m h mm) g1 (fun h => MZ m mm h)
      rw [kps]
      refine ⟨_, u1, rot2_no hs A E F Z, ?_, ?_, ?_, fun n hn => ?_⟩
      · rw [Avl.mk, Avl.mk, Avl.mk, mk_ht, mk_ht]; exact ⟨by omega, by omega, ⟨by omega, by omega, c4, b3⟩, by omega, by omega, c3, hbz⟩
      · rw [mk_ht, mk_ht, mk_ht]; omega
      · rw [mk_ht, mk_ht, mk_ht]; omega
      · have np : n ≠ p := fun e => hn (inl n (.inl e))
        have nq : n ≠ q := fun e => hn (inl n (.inr (.inl e)))
        have nm : n ≠ m := fun e => hn (inl n (.inr (.inr (.inr (.inl (e ▸ mm))))))
        have h1 := u2 n np nm
        have h2 := kp1 n (by simpa using np)
        have h3 := r2 n nq nm
        exact ⟨h1.1.trans (h2.1.trans h3.1), h1.2.1.trans (h2.2.1.trans h3.2.1), h1.2.2.trans (h2.2.2.trans h3.2.2)⟩
end Go.Proofs.Ytkaolhlmimalkaa

namespace Go.Proofs.Ytkaolhlmimalkaa
open Go.RowKit

set_option maxHeartbeats 1000000 in
theorem lev_ok {S : TS} {p : Nat} {L R : Tr} (h0 : S.d 0 = 0) (hp : 0 < p ∧ p < S.len) (hL : Ok S (S.k p 0) L) (hR : Ok S (S.k p 1) R) (hnd : (Tr.nd p L R).no.Nodup) (bL : Avl L) (bR : Avl R) (h1 : L.ht ≤ R.ht + 2) (h2 : R.ht ≤ L.ht + 2) :
    ∃ T2, Ok (S.lev p) (S.top p) T2 ∧ T2.no = (Tr.nd p L R).no ∧ Avl T2 ∧ T2.ht ≤ max L.ht R.ht + 1 ∧ max L.ht R.ht ≤ T2.ht ∧ (L.ht ≤ R.ht + 1 → R.ht ≤ L.ht + 1 → T2.ht = max L.ht R.ht + 1) ∧ Kp S (S.lev p) (Tr.nd p L R).no := by
 obtain ⟨n1, n2, n3, n4, n5⟩ := nd_nodup.1 hnd
 have dL := hL.d h0; have dR := hR.d h0
 obtain ⟨S1, hS1⟩ : ∃ S1, S.fit p = S1 := ⟨_, rfl⟩
 have pin : p ∈ (Tr.nd p L R).no := by show p ∈ L.no ++ p :: R.no; simp
 have kp : Kp S S1 (Tr.nd p L R).no := fun n hn => by
  have hne : n ≠ p := fun e => hn (e ▸ pin)
  rw [← hS1]
  exact ⟨rfl, rfl, by show upd S.d p _ n = _; rw [upd_ne _ _ hne]⟩
 have kp1 : Kp S S1 [p] := fun n hn => by
  have hne : n ≠ p := by simpa using hn
  rw [← hS1]
  exact ⟨rfl, rfl, by show upd S.d p _ n = _; rw [upd_ne _ _ hne]⟩
 have hk0 : S1.k p 0 = S.k p 0 := by rw [← hS1]; rfl
 have hk1 : S1.k p 1 = S.k p 1 := by rw [← hS1]; rfl
 have hl : S1.len = S.len := by rw [← hS1]; rfl
 have hdp : S1.d p = (max L.ht R.ht + 1 : Nat) := by
  rw [← hS1]; show upd S.d p _ p = _; rw [upd_same, dL, dR]; omega
 have d0 : S1.d 0 = 0 := by rw [(kp1 0 (by simp; omega)).2.2]; exact h0
 have oL : Ok S1 (S1.k p 0) L := by rw [hk0]; exact hL.congr (S := S) (S' := S1) (by omega) fun n hn => kp1 n (fun h => n1 (List.mem_singleton.1 h ▸ hn))
 have oR : Ok S1 (S1.k p 1) R := by rw [hk1]; exact hR.congr (S := S) (S' := S1) (by omega) fun n hn => kp1 n (fun h => n2 (List.mem_singleton.1 h ▸ hn))
 have hp1 : 0 < p ∧ p < S1.len := by rw [hl]; exact hp
 have ln0 : S1.ln p 0 = (L.ht : Int) - R.ht := by unfold TS.ln; rw [oL.d d0, oR.d d0]
 have ln1 : S1.ln p 1 = (R.ht : Int) - L.ht := by unfold TS.ln; rw [oR.d d0]; show (R.ht : Int) - S1.d (S1.k p 0) = _; rw [oL.d d0]
 unfold TS.lev TS.top
 rw [hS1, ln0, ln1]
 by_cases c0 : 2 ≤ (L.ht : Int) - R.ht
 ·rw [if_pos c0, if_pos c0]
  obtain ⟨q, A, M, rfl⟩ := as_mk' 0 L (by omega)
  obtain ⟨T2, g1, g2, g3, g4, g5, g6⟩ := deep_ok (S := S1) (p := p) (s := 0) d0 (by decide) hp1 oL oR hnd bL bR (by omega)
  exact ⟨T2, g1, g2, g3, by omega, by omega, fun _ _ => by omega, kp.trans g6⟩
 ·rw [if_neg c0, if_neg c0]
  by_cases c1 : 2 ≤ (R.ht : Int) - L.ht
  ·rw [if_pos c1, if_pos c1]
   obtain ⟨q, A, M, rfl⟩ := as_mk' 1 R (by omega)
   obtain ⟨T2, g1, g2, g3, g4, g5, g6⟩ := deep_ok (S := S1) (p := p) (s := 1) d0 (by decide) hp1 oR oL hnd bR bL (by omega)
   exact ⟨T2, g1, g2, g3, by omega, by omega, fun _ _ => by omega, kp.trans g6⟩
  ·rw [if_neg c1, if_neg c1]
   exact ⟨.nd p L R, ⟨rfl, hp1.1, hp1.2, hdp, oL, oR⟩, rfl, ⟨by omega, by omega, bL, bR⟩, Nat.le_refl _, by show _ ≤ max L.ht R.ht + 1; omega, fun _ _ => rfl, kp⟩

/-- a way back up, from the end on: node, side, the other kid's tree -/
abbrev Zip := List (Nat × Nat × Tr)
def plug : Zip → Tr → Tr
  | [], X => X
  | (p, s, Z) :: z, X => plug z (mk p s X Z)
def Zip.way (z : Zip) : List (Nat × Nat) := (z.map fun f => (f.1, f.2.1)).reverse
def Zip.no : Zip → List Nat
  | [] => []
  | (p, _, Z) :: z => p :: (Z.no ++ Zip.no z)
theorem plug_mem : ∀ (z : Zip) (X : Tr) (n : Nat), n ∈ (plug z X).no ↔ n ∈ X.no ∨ n ∈ Zip.no z
  | [], X, n => by show n ∈ X.no ↔ _; simp [Zip.no]
  | (p, s, Z) :: z, X, n => by
    show n ∈ (plug z (mk p s X Z)).no ↔ _
    rw [plug_mem z, mk_mem]
    show _ ↔ n ∈ X.no ∨ n ∈ p :: (Z.no ++ Zip.no z)
    rw [List.mem_cons, List.mem_append]
    constructor
    · rintro ((h | h | h) | h) <;> simp [h]
    · rintro (h | h | h | h) <;> simp [h]
/-- the state of hang behind k rounds -/
def hz (S : TS) (i : Nat) : Zip → TS × Nat
  | [] => (S, i)
  | (p, s, _) :: z => hz (hst (S, i) (p, s)).1 (hst (S, i) (p, s)).2 z
theorem hgo_step (S : TS) (i : Nat) (l : List (Nat × Nat)) (a : Nat × Nat) : ∀ k, k ≤ l.length → hgo S i (l ++ [a]) (k + 1) = hgo (hst (S, i) a).1 (hst (S, i) a).2 l k
  | 0, _ => by
    show hst (S, i) ((l ++ [a]).getD ((l ++ [a]).length - 1 - 0) (0, 0)) = _
    rw [List.getD_eq_getElem?_getD, List.length_append, List.getElem?_append_right (by simp)]
    simp [hgo]
  | k + 1, hk => by
    show hst (hgo S i (l ++ [a]) (k + 1)) ((l ++ [a]).getD ((l ++ [a]).length - 1 - (k + 1)) (0, 0)) = hst (hgo (hst (S, i) a).1 (hst (S, i) a).2 l k) (l.getD (l.length - 1 - k) (0, 0))
    rw [hgo_step S i l a k (by omega), List.getD_eq_getElem?_getD, List.getD_eq_getElem?_getD, List.length_append]
    rw [List.getElem?_append_left (by simp; omega)]
    simp only [List.length_cons, List.length_nil]
    rw [show l.length + (0 + 1) - 1 - (k + 1) = l.length - 1 - k by omega]
theorem hgo_hz : ∀ (z : Zip) (S : TS) (i : Nat), hgo S i z.way z.way.length = hz S i z
  | [], S, i => rfl
  | (p, s, Z) :: z, S, i => by
    have e : Zip.way ((p, s, Z) :: z) = Zip.way z ++ [(p, s)] := by unfold Zip.way; rw [List.map_cons, List.reverse_cons]
    rw [e, List.length_append]
    show hgo S i (Zip.way z ++ [(p, s)]) ((Zip.way z).length + 1) = _
    rw [hgo_step S i _ _ _ (Nat.le_refl _), hgo_hz z]; rfl
theorem hang_z (S : TS) (z : Zip) (i : Nat) : S.hang z.way i = { (hz S i z).1 with root := (hz S i z).2 } := by unfold TS.hang; rw [hgo_hz]
/-- the way's nodes lie in the set -/
def ZOk (S : TS) : Zip → Prop
  | [] => True
  | (p, s, Z) :: z => s < 2 ∧ 0 < p ∧ p < S.len ∧ Ok S (S.k p (1 - s)) Z ∧ Avl Z ∧ ZOk S z
theorem ZOk.congr {S S' : TS} (hl : S.len ≤ S'.len) : ∀ {z : Zip}, ZOk S z → (∀ n ∈ Zip.no z, S'.k n 0 = S.k n 0 ∧ S'.k n 1 = S.k n 1 ∧ S'.d n = S.d n) → ZOk S' z
  | [], _, _ => trivial
  | (p, s, Z) :: z, h, hc => by
    obtain ⟨a, b, c, d, e, f⟩ := h
    have hp := hc p (by show p ∈ p :: _; simp)
    refine ⟨a, b, Nat.lt_of_lt_of_le c hl, ?_, e, f.congr hl fun n hn => hc n (by show n ∈ p :: (Z.no ++ Zip.no z); simp [hn])⟩
    have hk : S'.k p (1 - s) = S.k p (1 - s) := by
      rcases (show s = 0 ∨ s = 1 by omega) with rfl | rfl
      · exact hp.2.1
      · exact hp.1
    rw [hk]
    exact d.congr hl fun n hn => hc n (by show n ∈ p :: (Z.no ++ Zip.no z); simp [hn])
theorem plug_nodup : ∀ (z : Zip) (X : Tr), (plug z X).no.Nodup → X.no.Nodup ∧ (∀ n ∈ X.no, n ∉ Zip.no z)
  | [], X, h => ⟨h, fun n _ hn => by cases hn⟩
  | (p, s, Z) :: z, X, h => by
    obtain ⟨h1, h2⟩ := plug_nodup z (mk p s X Z) h
    obtain ⟨a, b, c, d, e⟩ := mk_nodup.1 h1
    refine ⟨c, fun n hn hm => ?_⟩
    rcases List.mem_cons.1 (show n ∈ p :: (Z.no ++ Zip.no z) from hm) with rfl | hm
    · exact a hn
    · rcases List.mem_append.1 hm with hm | hm
      · exact e n hn hm
      · exact h2 n (by rw [mk_mem]; exact .inr (.inl hn)) hm
theorem plug_no_eq : ∀ (z : Zip) {X Y : Tr}, X.no = Y.no → (plug z X).no = (plug z Y).no
  | [], _, _, h => h
  | (p, s, Z) :: z, X, Y, h => plug_no_eq z (by
    unfold mk; split
    · show X.no ++ p :: Z.no = Y.no ++ p :: Z.no; rw [h]
    · show Z.no ++ p :: X.no = Z.no ++ p :: Y.no; rw [h])
set_option maxHeartbeats 1000000 in
theorem hz_ok : ∀ (z : Zip) (S : TS) (i : Nat) (X Y : Tr), S.d 0 = 0 → Ok S i X → Avl X → ZOk S z → Avl (plug z Y) → X.ht ≤ Y.ht + 1 → Y.ht ≤ X.ht + 1 → (plug z X).no.Nodup →
    ∃ T', Ok (hz S i z).1 (hz S i z).2 T' ∧ T'.no = (plug z X).no ∧ Avl T' ∧ T'.ht ≤ (plug z Y).ht + 1 ∧ (plug z Y).ht ≤ T'.ht + 1 ∧ Kp S (hz S i z).1 (Zip.no z ++ X.no)
  | [], S, i, X, Y, h0, hX, bX, _, _, h1, h2, _ => ⟨X, hX, rfl, bX, h1, h2, fun _ _ => ⟨rfl, rfl, rfl⟩⟩
  | (p, s, Z) :: z, S, i, X, Y, h0, hX, bX, hz0, hav, h1, h2, hnd => by
    obtain ⟨hs, p0, pl, hZ, bZ, hz1⟩ := hz0
    have hav1 : Avl (mk p s Y Z) := by
      have : ∀ (z : Zip) (Y : Tr), Avl (plug z Y) → Avl Y := by
        intro z
        induction z with
        | nil => intro Y h; exact h
        | cons f z ih => intro Y h; exact (Avl.mk.1 (ih _ h)).2.2.1
      exact this z _ hav
    obtain ⟨a1, a2, a3, a4⟩ := Avl.mk.1 hav1
    obtain ⟨hn1, hn2⟩ := plug_nodup z (mk p s X Z) hnd
    obtain ⟨m1, m2, m3, m4, m5⟩ := mk_nodup.1 hn1
    obtain ⟨S1, hS1⟩ : ∃ S1, S.setK p s i = S1 := ⟨_, rfl⟩
    have kp1 : Kp S S1 [p] := by rw [← hS1]; exact setK_kp _ (by simp)
    have l1 : S1.len = S.len := by rw [← hS1]; rfl
    have d1 : S1.d 0 = 0 := by rw [← hS1]; exact h0
    have kps : S1.k p s = i := by rw [← hS1]; exact setK_at
    have kpz : S1.k p (1 - s) = S.k p (1 - s) := by rw [← hS1]; exact setK_other (by omega)
    have oX : Ok S1 (S1.k p s) X := by rw [kps]; exact hX.congr (S := S) (S' := S1) (by omega) fun n hn => kp1 n (fun h => m1 (List.mem_singleton.1 h ▸ hn))
    have oZ : Ok S1 (S1.k p (1 - s)) Z := by rw [kpz]; exact hZ.congr (S := S) (S' := S1) (by omega) fun n hn => kp1 n (fun h => m2 (List.mem_singleton.1 h ▸ hn))
    have lev : ∃ T2, Ok (S1.lev p) (S1.top p) T2 ∧ T2.no = (mk p s X Z).no ∧ Avl T2 ∧ T2.ht ≤ max X.ht Z.ht + 1 ∧ max X.ht Z.ht ≤ T2.ht ∧ (X.ht ≤ Z.ht + 1 → Z.ht ≤ X.ht + 1 → T2.ht = max X.ht Z.ht + 1) ∧ Kp S1 (S1.lev p) (mk p s X Z).no := by
      match s, hs, oX, oZ, hn1 with
      | 0, _, oX, oZ, hn1 => exact lev_ok d1 ⟨p0, by omega⟩ oX oZ hn1 bX bZ (by omega) (by omega)
      | 1, _, oX, oZ, hn1 =>
        obtain ⟨T2, g1, g2, g3, g4, g5, g6, g7⟩ := lev_ok d1 ⟨p0, by omega⟩ oZ oX hn1 bZ bX (by omega) (by omega)
        exact ⟨T2, g1, g2, g3, by omega, by omega, fun q1 q2 => by have := g6 q2 q1; omega, g7⟩
    obtain ⟨T2, g1, g2, g3, g4, g5, g6, g7⟩ := lev
    have he : hst (S, i) (p, s) = (S1.lev p, S1.top p) := by rw [← hS1]; rfl
    have l2 : (S1.lev p).len = S.len := (Sm.lev S1 p).1.trans l1
    have kp2 : Kp S (S1.lev p) (mk p s X Z).no := fun n hn => by
      have hne : n ≠ p := fun e => hn (by rw [mk_mem]; exact .inl e)
      have q1 := g7 n hn
      have q2 := kp1 n (by simpa using hne)
      exact ⟨q1.1.trans q2.1, q1.2.1.trans q2.2.1, q1.2.2.trans q2.2.2⟩
    have d2 : (S1.lev p).d 0 = 0 := by
      rw [(kp2 0 (fun h => by
        rw [mk_mem] at h
        rcases h with h | h | h
        · omega
        · have := (hX.pos 0 h).1; omega
        · have := (hZ.pos 0 h).1; omega)).2.2]; exact h0
    have hht : T2.ht ≤ (mk p s Y Z).ht + 1 ∧ (mk p s Y Z).ht ≤ T2.ht + 1 := by
      rw [mk_ht]
      by_cases c : X.ht ≤ Z.ht + 1 ∧ Z.ht ≤ X.ht + 1
      · have := g6 c.1 c.2; omega
      · omega
    have hno : (plug z T2).no = (plug z (mk p s X Z)).no := plug_no_eq z g2
    obtain ⟨T', u1, u2, u3, u4, u5, u6⟩ := hz_ok z (S1.lev p) (S1.top p) T2 (mk p s Y Z) d2 g1 g3 (hz1.congr (by omega) fun n hn => kp2 n (fun h => hn2 n h hn)) hav hht.1 hht.2 (by rw [hno]; exact hnd)
    have e2 : hz S i ((p, s, Z) :: z) = hz (S1.lev p) (S1.top p) z := by show hz (hst (S, i) (p, s)).1 (hst (S, i) (p, s)).2 z = _; rw [he]
    rw [e2]
    refine ⟨T', u1, u2.trans hno, u3, u4, u5, fun n hn => ?_⟩
    have hn' : n ∉ (p :: (Z.no ++ Zip.no z)) ++ X.no := hn
    have q1 := u6 n (fun h => by
      rcases List.mem_append.1 h with h | h
      · exact hn' (by simp [h])
      · rw [g2, mk_mem] at h
        rcases h with h | h | h <;> exact hn' (by simp [h]))
    have q2 := kp2 n (fun h => by
      rw [mk_mem] at h
      rcases h with h | h | h <;> exact hn' (by simp [h]))
    exact ⟨q1.1.trans q2.1, q1.2.1.trans q2.2.1, q1.2.2.trans q2.2.2⟩
end Go.Proofs.Ytkaolhlmimalkaa

namespace Go.Proofs.Ytkaolhlmimalkaa
open Go.RowKit

def zipOf (f : Nat → Int) : Tr → Zip → Zip × Tr
  | .nil, z => (z, .nil)
  | .nd i l r, z => if f i = 0 then (z, .nd i l r) else if f i < 0 then zipOf f l ((i, 0, r) :: z) else zipOf f r ((i, 1, l) :: z)
def pre : Zip → List Nat
  | [] => []
  | (p, s, Z) :: z => pre z ++ (if s = 0 then [] else Z.no ++ [p])
def post : Zip → List Nat
  | [] => []
  | (p, s, Z) :: z => (if s = 0 then p :: Z.no else []) ++ post z
theorem plug_split : ∀ (z : Zip) (X : Tr), (plug z X).no = pre z ++ X.no ++ post z
  | [], X => by show X.no = [] ++ X.no ++ []; simp
  | (p, s, Z) :: z, X => by
    show (plug z (mk p s X Z)).no = _
    rw [plug_split z, show pre ((p, s, Z) :: z) = pre z ++ (if s = 0 then [] else Z.no ++ [p]) from rfl, show post ((p, s, Z) :: z) = (if s = 0 then p :: Z.no else []) ++ post z from rfl]
    unfold mk
    split
    · show pre z ++ (X.no ++ p :: Z.no) ++ post z = _; simp
    · show pre z ++ (Z.no ++ p :: X.no) ++ post z = _; simp
theorem way_app (z : Zip) (p s : Nat) (Z : Tr) : Zip.way ((p, s, Z) :: z) = Zip.way z ++ [(p, s)] := by unfold Zip.way; rw [List.map_cons, List.reverse_cons]
theorem zip_way (f : Nat → Int) : ∀ (T : Tr) (z : Zip), Zip.way (zipOf f T z).1 = Zip.way z ++ T.way f
  | .nil, z => by show Zip.way z = Zip.way z ++ []; simp
  | .nd i l r, z => by
    unfold zipOf Tr.way
    split
    · simp
    · split
      · rw [zip_way f l, way_app]; simp
      · rw [zip_way f r, way_app]; simp
theorem zip_plug (f : Nat → Int) : ∀ (T : Tr) (z : Zip), plug (zipOf f T z).1 (zipOf f T z).2 = plug z T
  | .nil, z => rfl
  | .nd i l r, z => by
    unfold zipOf
    split
    · rfl
    · split
      · rw [zip_plug f l]; rfl
      · rw [zip_plug f r]; rfl
theorem zip_ok {S : TS} (f : Nat → Int) : ∀ (T : Tr) (z : Zip) (j : Nat), Ok S j T → Avl T → ZOk S z → ZOk S (zipOf f T z).1 ∧ ∃ j', Ok S j' (zipOf f T z).2
  | .nil, z, j, h, _, hz => ⟨hz, j, h⟩
  | .nd i l r, z, j, h, ha, hz => by
    unfold zipOf
    split
    · exact ⟨hz, j, h⟩
    · split
      · exact zip_ok f l _ _ h.2.2.2.2.1 ha.2.2.1 ⟨by decide, h.2.1, h.2.2.1, h.2.2.2.2.2, ha.2.2.2, hz⟩
      · exact zip_ok f r _ _ h.2.2.2.2.2 ha.2.2.2 ⟨by decide, h.2.1, h.2.2.1, h.2.2.2.2.1, ha.2.2.1, hz⟩
theorem zip_found (f : Nat → Int) : ∀ (T : Tr) (z : Zip), (∀ n ∈ T.no, 0 < n) → ((T.found f = 0 → (zipOf f T z).2 = .nil) ∧ (T.found f ≠ 0 → f (T.found f) = 0 ∧ ∃ l r, (zipOf f T z).2 = .nd (T.found f) l r))
  | .nil, z, _ => ⟨fun _ => rfl, fun h => absurd rfl h⟩
  | .nd i l r, z, hp => by
    have hi : 0 < i := hp i (by show i ∈ l.no ++ i :: r.no; simp)
    have e : Tr.found f (.nd i l r) = if f i = 0 then i else if f i < 0 then l.found f else r.found f := rfl
    unfold zipOf
    rw [e]
    by_cases h1 : f i = 0
    · rw [if_pos h1, if_pos h1]; exact ⟨fun h => by omega, fun _ => ⟨h1, l, r, rfl⟩⟩
    · rw [if_neg h1, if_neg h1]
      by_cases h2 : f i < 0
      · rw [if_pos h2, if_pos h2]; exact zip_found f l _ fun n hn => hp n (by show n ∈ l.no ++ i :: r.no; simp [hn])
      · rw [if_neg h2, if_neg h2]; exact zip_found f r _ fun n hn => hp n (by show n ∈ l.no ++ i :: r.no; simp [hn])
/-- an order by a key -/
def OrdK (c : Int → Int → Int) (key : Int → Int) : Prop := ∀ x y, SpK x → SpK y → (c x y < 0 ↔ key x < key y) ∧ (0 < c x y ↔ key y < key x)
def Srt (key : Int → Int) (S : TS) (l : List Nat) : Prop := l.Pairwise fun a b => key (S.v a) < key (S.v b)
theorem zip_sides {S : TS} {c : Int → Int → Int} {key : Int → Int} (hc : OrdK c key) (x : Int) (hx : SpK x) : ∀ (T : Tr) (z : Zip), Srt key S T.no → (∀ n ∈ T.no, SpK (S.v n)) → (∀ n ∈ pre z, 0 < c x (S.v n)) → (∀ n ∈ post z, c x (S.v n) < 0) →
    (∀ n ∈ pre (zipOf (fun i => c x (S.v i)) T z).1, 0 < c x (S.v n)) ∧ (∀ n ∈ post (zipOf (fun i => c x (S.v i)) T z).1, c x (S.v n) < 0)
  | .nil, z, _, _, h1, h2 => ⟨h1, h2⟩
  | .nd i l r, z, hs, hg, h1, h2 => by
    have gi : SpK (S.v i) := hg i (by show i ∈ l.no ++ i :: r.no; simp)
    have gl : ∀ n ∈ l.no, SpK (S.v n) := fun n hn => hg n (by show n ∈ l.no ++ i :: r.no; simp [hn])
    have gr : ∀ n ∈ r.no, SpK (S.v n) := fun n hn => hg n (by show n ∈ l.no ++ i :: r.no; simp [hn])
    have hs' : (l.no ++ i :: r.no).Pairwise fun a b => key (S.v a) < key (S.v b) := hs
    rw [List.pairwise_append, List.pairwise_cons] at hs'
    obtain ⟨s1, ⟨s2, s3⟩, s4⟩ := hs'
    unfold zipOf
    split
    · exact ⟨h1, h2⟩
    · split
      · rename_i q1 q2
        have q3 := (hc x (S.v i) hx gi).1.1 q2
        refine zip_sides hc x hx l _ s1 gl (fun n hn => h1 n (by unfold pre at hn; simpa using hn)) fun n hn => ?_
        unfold post at hn
        rw [if_pos rfl] at hn
        rcases List.mem_append.1 hn with hn | hn
        · rcases List.mem_cons.1 hn with rfl | hn
          · exact q2
          · exact (hc x (S.v n) hx (gr n hn)).1.2 (by have := s2 n hn; omega)
        · exact h2 n hn
      · rename_i q1 q2
        have q4 : 0 < c x (S.v i) := by omega
        have q3 := (hc x (S.v i) hx gi).2.1 q4
        refine zip_sides hc x hx r _ s3 gr (fun n hn => ?_) fun n hn => h2 n (by unfold post at hn; simpa using hn)
        unfold pre at hn
        rw [if_neg (by decide)] at hn
        rcases List.mem_append.1 hn with hn | hn
        · exact h1 n hn
        · rcases List.mem_append.1 hn with hn | hn
          · exact (hc x (S.v n) hx (gl n hn)).2.2 (by have := s4 n hn i (by simp); omega)
          · obtain rfl := List.mem_singleton.1 hn; exact q4
theorem Tr.no_len : ∀ T : Tr, T.no.length = T.size
  | .nil => rfl
  | .nd i l r => by
    show (l.no ++ i :: r.no).length = l.size + r.size + 1
    rw [List.length_append, List.length_cons, Tr.no_len l, Tr.no_len r]; omega
theorem Tr.ht_size : ∀ T : Tr, T.ht ≤ T.size
  | .nil => Nat.le_refl _
  | .nd i l r => by
    have h1 := Tr.ht_size l; have h2 := Tr.ht_size r
    show max l.ht r.ht + 1 ≤ l.size + r.size + 1
    omega
theorem Ok.dall {S : TS} : ∀ {j : Nat} {T : Tr}, Ok S j T → ∀ n ∈ T.no, 0 ≤ S.d n ∧ S.d n ≤ (T.size : Int)
  | _, .nil, _, n, hn => by cases hn
  | _, .nd i l r, h, n, hn => by
    have hs : (Tr.nd i l r).size = l.size + r.size + 1 := rfl
    rcases List.mem_append.1 hn with hn | hn
    · have := Ok.dall h.2.2.2.2.1 n hn; omega
    · rcases List.mem_cons.1 hn with rfl | hn
      · have h1 := Tr.ht_size l
        have h2 := Tr.ht_size r; have h3 := h.2.2.2.1
        have h4 := Tr.ht_size (.nd n l r)
        rw [h3]
        omega
      · have := Ok.dall h.2.2.2.2.2 n hn; omega
/-- the set is an AVL tree whose things rise; q: how many calls there were -/
structure Inv (key : Int → Int) (S : TS) (T : Tr) (q : Nat) : Prop where
  ok : Ok S S.root T
  avl : Avl T
  nd : T.no.Nodup
  l0 : 0 < S.len
  d0 : S.d 0 = 0
  v0 : S.v 0 = 0
  kb : KB S
  dl : DL S (q + 1)
  fr : ∀ j, j < S.fl → S.fr j < S.len ∧ 0 < S.fr j ∧ S.fr j ∉ T.no
  fi : ∀ i j, i < S.fl → j < S.fl → S.fr i = S.fr j → i = j
  n : S.n = T.size
  srt : Srt key S T.no
  v64 : ∀ i, i < S.len → KIn (S.v i)
  len : S.len ≤ q + 1
  fl : S.fl ≤ q
  sz : T.size ≤ q
  sp : ∀ n ∈ T.no, SpK (S.v n)
def vals (S : TS) (T : Tr) : List Int := T.no.map S.v
theorem Inv.more {key : Int → Int} {S : TS} {T : Tr} {q : Nat} (h : Inv key S T q) : Inv key S T (q + 1) :=
  ⟨h.ok, h.avl, h.nd, h.l0, h.d0, h.v0, h.kb, h.dl.mono (by omega), h.fr, h.fi, h.n, h.srt, h.v64, by have := h.len; omega, by have := h.fl; omega, by have := h.sz; omega, h.sp⟩
theorem hang_kb {S : TS} {z : Zip} {i : Nat} (hk : KB S) (hd : ∃ B, DL S B) (hi : i < S.len) (hl : ∀ s ∈ Zip.way z, s.1 < S.len ∧ s.2 < 2) : KB (hz S i z).1 ∧ Sm S (hz S i z).1 := by
  obtain ⟨B, hd⟩ := hd
  have h := hgo_ok hk hd hi hl (Zip.way z).length (Nat.le_refl _)
  rw [hgo_hz] at h
  exact ⟨h.1, by rw [← hgo_hz]; exact Sm.hgo S i _ _⟩
theorem zok_way {S : TS} : ∀ {z : Zip}, ZOk S z → ∀ s ∈ Zip.way z, s.1 < S.len ∧ s.2 < 2
  | [], _, s, hs => by cases hs
  | (p, t, Z) :: z, h, s, hs => by
    rw [way_app] at hs
    rcases List.mem_append.1 hs with hs | hs
    · exact zok_way h.2.2.2.2.2 s hs
    · obtain rfl := List.mem_singleton.1 hs; exact ⟨h.2.2.1, h.1⟩
theorem hz_v (z : Zip) (S : TS) (i : Nat) : (hz S i z).1.v = S.v := by
  have lev : ∀ (S : TS) (i : Nat), (S.lev i).v = S.v := by
    intro S i
    have tv : ∀ (S : TS) (i s : Nat), (S.turn i s).v = S.v := fun S i s => rfl
    have bv : ∀ (S : TS) (i s : Nat), (S.bow i s).v = S.v := fun S i s => by unfold TS.bow; split <;> rfl
    unfold TS.lev
    split
    · rw [tv, bv]; rfl
    · split
      · rw [tv, bv]; rfl
      · rfl
  induction z generalizing S i with
  | nil => rfl
  | cons f z ih => obtain ⟨p, s, Z⟩ := f; show (hz _ _ z).1.v = _; rw [ih]; exact lev _ _
set_option maxHeartbeats 1000000 in
theorem put_inv {key : Int → Int} {c : Int → Int → Int} {S : TS} {T : Tr} {q : Nat} (hc : OrdK c key) (h : Inv key S T q) (x : Int) (hx : SpK x) (hn : T.found (fun i => c x (S.v i)) = 0) (g cap : Nat) :
    ∃ T' P Q, Inv key { (S.fresh x g cap).hang (T.way fun i => c x (S.v i)) S.fri with n := S.n + 1 } T' (q + 1) ∧ T.no = P ++ Q ∧ (∀ n ∈ P, key (S.v n) < key x) ∧ (∀ n ∈ Q, key x < key (S.v n)) ∧
      vals { (S.fresh x g cap).hang (T.way fun i => c x (S.v i)) S.fri with n := S.n + 1 } T' = P.map S.v ++ x :: Q.map S.v := by
 obtain ⟨f, hf⟩ : ∃ f : Nat → Int, (fun i => c x (S.v i)) = f := ⟨_, rfl⟩
 have hpos := fun n hn => (h.ok.pos n hn).1
 have hw := zip_way (fun i => c x (S.v i)) T []
 have hp := zip_plug (fun i => c x (S.v i)) T []
 obtain ⟨hzo, jY, hY⟩ := zip_ok (fun i => c x (S.v i)) T [] S.root h.ok h.avl trivial
 have hsd := zip_sides hc x hx T [] h.srt h.sp (fun n hn => by cases hn) (fun n hn => by cases hn)
 have hnil := (zip_found (fun i => c x (S.v i)) T [] hpos).1 hn
 rw [hf] at hw hp hzo hY hsd hnil hn ⊢
 obtain ⟨z, hz0⟩ : ∃ z, (zipOf f T []).1 = z := ⟨_, rfl⟩
 rw [hz0] at hw hp hzo hsd
 rw [hnil] at hp
 rw [show Zip.way [] ++ T.way f = T.way f from rfl] at hw
 rw [show plug [] T = T from rfl] at hp
 rw [← hw]
 have hsp : T.no = pre z ++ post z := by rw [← hp, plug_split]; show pre z ++ [] ++ post z = _; simp
 obtain ⟨i, hi⟩ : ∃ i, S.fri = i := ⟨_, rfl⟩
 obtain ⟨S1, hS1⟩ : ∃ S1, S.fresh x g cap = S1 := ⟨_, rfl⟩
 rw [hi, hS1]
 -- the fresh node
 have hnew : i ∉ T.no ∧ 0 < i := by
  rw [← hi]; unfold TS.fri; split
  ·exact ⟨(h.fr _ (by omega)).2.2, (h.fr _ (by omega)).2.1⟩
  ·exact ⟨fun hm => by have := (h.ok.pos _ hm).2; omega, h.l0⟩
 have sm := fresh_sm S x g cap
 have s2 := fresh_i S x g cap (fun j hj => (h.fr j hj).1)
 have s3 := h.kb.fresh h.l0 x g cap
 have s4 := h.dl.fresh (by omega) x g cap
 have kp : Kp S S1 [i] ∧ S1.v = upd S.v i x ∧ S1.k i 0 = 0 ∧ S1.k i 1 = 0 ∧ S1.d i = 1 ∧ (∀ j, j < S1.fl → j < S.fl ∧ S1.fr j = S.fr j) ∧ (∀ j, j < S1.fl → S1.fr j ≠ i) := by
  have key' : ∀ S0 : TS, S0.k = S.k → S0.d = S.d → Kp S (S0.put i x 1) [i] ∧ (S0.put i x 1).k i 0 = 0 ∧ (S0.put i x 1).k i 1 = 0 ∧ (S0.put i x 1).d i = 1 := by
   intro S0 e1 e2
   refine ⟨fun n hn => ?_, ?_, ?_, ?_⟩
   ·have hne : n ≠ i := by simpa using hn
    refine ⟨?_, ?_, ?_⟩
    ·show upd S0.k i _ n 0 = _; rw [upd_ne _ _ hne, e1]
    ·show upd S0.k i _ n 1 = _; rw [upd_ne _ _ hne, e1]
    ·show upd S0.d i _ n = _; rw [upd_ne _ _ hne, e2]
   ·show upd S0.k i _ i 0 = _; rw [upd_same]
   ·show upd S0.k i _ i 1 = _; rw [upd_same]
   ·show upd S0.d i _ i = _; rw [upd_same]
  rw [← hS1]; unfold TS.fresh; rw [hi]
  split
  ·rename_i hfl
   obtain ⟨a, b, c', d⟩ := key' { S with fl := S.fl - 1 } rfl rfl
   refine ⟨a, rfl, b, c', d, fun j hj => ?_, fun j hj e => ?_⟩
   ·have hj' : j < S.fl - 1 := hj
    exact ⟨by omega, rfl⟩
   ·have hj' : j < S.fl - 1 := hj
    have e' : S.fr j = S.fr (S.fl - 1) := by rw [show S.fr j = i from e, ← hi]; unfold TS.fri; rw [if_pos hfl]
    have := h.fi j (S.fl - 1) (by omega) (by omega) e'
    omega
  ·rename_i hfl
   obtain ⟨a, b, c', d⟩ := key' { S with nb := g, cap := cap, len := S.len + 1 } rfl rfl
   refine ⟨a, rfl, b, c', d, fun j hj => ?_, fun j hj => ?_⟩
   ·have hj' : j < S.fl := hj
    omega
   ·have hj' : j < S.fl := hj
    omega
 rw [hS1] at sm s2 s3 s4
 rw [hi] at s2
 obtain ⟨kp1, kv, ki0, ki1, kd, kfr, kfn⟩ := kp
 have hzn : ∀ n ∈ Zip.no z, n ∈ T.no := fun n hn => by rw [← hp, plug_mem]; exact .inr hn
 have hzo1 : ZOk S1 z := hzo.congr sm.2.2.2.2.1 fun n hn => kp1 n (fun e => hnew.1 (by rw [← List.mem_singleton.1 e]; exact hzn n hn))
 have hoX : Ok S1 i (.nd i .nil .nil) := ⟨rfl, hnew.2, s2, kd, ki0, ki1⟩
 have hd01 : S1.d 0 = 0 := by rw [(kp1 0 (by simp; omega)).2.2]; exact h.d0
 have hndX : (plug z (.nd i .nil .nil)).no.Nodup := by
  rw [plug_split]
  have h1 := h.nd
  rw [hsp] at h1 hnew
  have h2 := List.nodup_append.1 h1
  show (pre z ++ [i] ++ post z).Nodup
  rw [List.append_assoc, List.nodup_append]
  refine ⟨h2.1, List.nodup_cons.2 ⟨fun hm => hnew.1 (List.mem_append.2 (.inr hm)), h2.2.1⟩, fun a ha b hb e => ?_⟩
  subst e
  rcases List.mem_cons.1 hb with rfl | hb
  ·exact hnew.1 (List.mem_append.2 (.inl ha))
  ·exact h2.2.2 a ha a hb rfl
 obtain ⟨T', u1, u2, u3, _, _, u6⟩ := hz_ok z S1 i (.nd i .nil .nil) .nil hd01 hoX ⟨Nat.zero_le _, Nat.zero_le _, trivial, trivial⟩ hzo1 (by rw [hp]; exact h.avl) (by show max 0 0 + 1 ≤ 0 + 1; decide) (by show 0 ≤ _; omega) hndX
 have hT' : T'.no = pre z ++ i :: post z := by rw [u2, plug_split]; show pre z ++ [i] ++ post z = _; simp
 obtain ⟨b1, b3⟩ := hang_kb s3 ⟨_, s4⟩ s2 (zok_way hzo1)
 rw [hang_z]
 have hv' : (hz S1 i z).1.v = upd S.v i x := by rw [hz_v, kv]
 have hni : ∀ n ∈ T.no, n ≠ i := fun n hn e => hnew.1 (e ▸ hn)
 have hPQ : (∀ n ∈ pre z, key (S.v n) < key x) ∧ (∀ n ∈ post z, key x < key (S.v n)) := by
  exact ⟨fun n hn => (hc x (S.v n) hx (h.sp n (by rw [hsp]; exact List.mem_append.2 (.inl hn)))).2.1 (hsd.1 n hn), fun n hn => (hc x (S.v n) hx (h.sp n (by rw [hsp]; exact List.mem_append.2 (.inr hn)))).1.1 (hsd.2 n hn)⟩
 have hpi : ∀ n ∈ pre z, upd S.v i x n = S.v n := fun n hn => upd_ne _ _ (hni n (by rw [hsp]; exact List.mem_append.2 (.inl hn)))
 have hqi : ∀ n ∈ post z, upd S.v i x n = S.v n := fun n hn => upd_ne _ _ (hni n (by rw [hsp]; exact List.mem_append.2 (.inr hn)))
 have hsz : T'.size = T.size + 1 := by
  rw [← Tr.no_len, ← Tr.no_len, hT', hsp, List.length_append, List.length_append, List.length_cons]; omega
 have hsp' : ∀ n ∈ T'.no, SpK ((hz S1 i z).1.v n) := by
  intro n hn
  rw [hT'] at hn
  rw [hv']
  rcases List.mem_append.1 hn with hn | hn
  ·rw [hpi n hn]; exact h.sp n (by rw [hsp]; exact List.mem_append.2 (.inl hn))
  ·rcases List.mem_cons.1 hn with rfl | hn
   ·rw [upd_same]; exact hx
   ·rw [hqi n hn]; exact h.sp n (by rw [hsp]; exact List.mem_append.2 (.inr hn))
 refine ⟨T', pre z, post z, ?_, hsp, hPQ.1, hPQ.2, ?_⟩
 ·refine ⟨Ok.congr (S := (hz S1 i z).1) (S' := { (hz S1 i z).1 with root := (hz S1 i z).2, n := S.n + 1 }) (show (hz S1 i z).1.len ≤ (hz S1 i z).1.len from Nat.le_refl _) u1 fun n _ => ⟨rfl, rfl, rfl⟩, u3, by rw [u2]; exact hndX, ?_, ?_, ?_, b1, ?_, ?_, ?_, ?_, ?_, ?_, ?_, ?_, ?_, hsp'⟩
  ·show 0 < (hz S1 i z).1.len; rw [b3.1]; omega
  ·show (hz S1 i z).1.d 0 = 0
   rw [(u6 0 (fun hm => by
    rcases List.mem_append.1 hm with hm | hm
    ·have := hpos 0 (hzn 0 hm); omega
    ·have : (0 : Nat) = i := List.mem_singleton.1 hm
     omega)).2.2]; exact hd01
  ·show (hz S1 i z).1.v 0 = 0
   rw [hv', upd_ne _ _ (by omega)]; exact h.v0
  ·intro j hj
   show 0 ≤ (hz S1 i z).1.d j ∧ (hz S1 i z).1.d j ≤ _
   have hj' : j < (hz S1 i z).1.len := hj
   rw [b3.1] at hj'
   by_cases hm : j ∈ T'.no
   ·have h1 := u1.dall j hm
    have h2 := h.sz
    omega
   ·rw [(u6 j (fun hm' => hm (by
     rw [u2, plug_mem]
     rcases List.mem_append.1 hm' with hm' | hm'
     ·exact .inr hm'
     ·exact .inl hm'))).2.2]
    have h1 := s4 j hj'
    omega
  ·intro j hj
   have hj' : j < S1.fl := by have : j < (hz S1 i z).1.fl := hj; rw [b3.2.2.2.2.2.2.1] at this; exact this
   show (hz S1 i z).1.fr j < (hz S1 i z).1.len ∧ 0 < (hz S1 i z).1.fr j ∧ (hz S1 i z).1.fr j ∉ T'.no
   rw [b3.2.2.2.2.2.2.2.1, b3.1]
   obtain ⟨q1, q2⟩ := kfr j hj'
   have q3 := kfn j hj'
   obtain ⟨q4, q5, q6⟩ := h.fr j q1
   rw [q2] at q3 ⊢
   refine ⟨by omega, q5, fun hm => ?_⟩
   rw [hT'] at hm
   rcases List.mem_append.1 hm with hm | hm
   ·exact q6 (by rw [hsp]; exact List.mem_append.2 (.inl hm))
   ·rcases List.mem_cons.1 hm with hm | hm
    ·exact q3 hm
    ·exact q6 (by rw [hsp]; exact List.mem_append.2 (.inr hm))
  ·intro a b ha hb e
   have ha' : a < S1.fl := by have : a < (hz S1 i z).1.fl := ha; rw [b3.2.2.2.2.2.2.1] at this; exact this
   have hb' : b < S1.fl := by have : b < (hz S1 i z).1.fl := hb; rw [b3.2.2.2.2.2.2.1] at this; exact this
   have e' : (hz S1 i z).1.fr a = (hz S1 i z).1.fr b := e
   rw [b3.2.2.2.2.2.2.2.1, (kfr a ha').2, (kfr b hb').2] at e'
   exact h.fi a b (kfr a ha').1 (kfr b hb').1 e'
  ·show S.n + 1 = T'.size; rw [hsz, h.n]
  ·have hs := h.srt
   unfold Srt at hs ⊢
   rw [hsp, List.pairwise_append] at hs
   rw [hT', List.pairwise_append, List.pairwise_cons]
   show (pre z).Pairwise (fun a b => key ((hz S1 i z).1.v a) < key ((hz S1 i z).1.v b)) ∧ ((∀ b ∈ post z, key ((hz S1 i z).1.v i) < key ((hz S1 i z).1.v b)) ∧ (post z).Pairwise fun a b => key ((hz S1 i z).1.v a) < key ((hz S1 i z).1.v b)) ∧ _
   rw [hv']
   refine ⟨hs.1.imp_of_mem fun ha hb hr => by rw [hpi _ ha, hpi _ hb]; exact hr, ⟨fun b hb => by rw [upd_same, hqi b hb]; exact hPQ.2 b hb, hs.2.1.imp_of_mem fun ha hb hr => by rw [hqi _ ha, hqi _ hb]; exact hr⟩, fun a ha b hb => ?_⟩
   rw [hpi a ha]
   rcases List.mem_cons.1 hb with rfl | hb
   ·rw [upd_same]; exact hPQ.1 a ha
   ·rw [hqi b hb]; exact hs.2.2 a ha b hb
  ·intro j hj; trivial
  ·show (hz S1 i z).1.len ≤ q + 1 + 1; rw [b3.1]; have := sm.2.2.2.2.2; have := h.len; omega
  ·show (hz S1 i z).1.fl ≤ q + 1
   rw [b3.2.2.2.2.2.2.1]
   have : S1.fl ≤ S.fl := by
    rcases Nat.lt_or_ge S.fl S1.fl with hlt | hge
    ·have := (kfr S.fl hlt).1; omega
    ·exact hge
   have := h.fl; omega
  ·rw [hsz]; have := h.sz; omega
 ·show T'.no.map (hz S1 i z).1.v = _
  rw [hv', hT', List.map_append, List.map_cons, upd_same]
  congr 1
  ·exact List.map_congr_left hpi
  ·congr 1; exact List.map_congr_left hqi
end Go.Proofs.Ytkaolhlmimalkaa

namespace Go.Proofs.Ytkaolhlmimalkaa
open Go.RowKit

def UpK (key : Int → Int) (l : List Int) : Prop := l.Pairwise fun a b => key a < key b
theorem srt_up {key : Int → Int} {S : TS} {l : List Nat} : Srt key S l ↔ UpK key (l.map S.v) := by unfold Srt UpK; rw [List.pairwise_map]
set_option maxHeartbeats 1000000 in
theorem drop_inv {key : Int → Int} {S S0 : TS} {T : Tr} {q : Nat} (h : Inv key S T q) (e1 : S0.k = S.k) (e2 : S0.d = S.d) (e3 : S0.len = S.len) (e4 : S0.fl = S.fl) (e5 : S0.fr = S.fr) (e6 : S0.n = S.n) (hv0 : S0.v 0 = 0) (_hv64 : ∀ i, i < S0.len → KIn (S0.v i))
    {z : Zip} {X Y : Tr} {x gone : Nat} (hz0 : ZOk S0 z) (hX : Ok S0 x X) (bX : Avl X) (hav : Avl (plug z Y)) (h1 : X.ht ≤ Y.ht + 1) (h2 : Y.ht ≤ X.ht + 1) (hnd : (plug z X).no.Nodup) (hg : gone ∈ T.no) (hgn : gone ∉ (plug z X).no)
    (hsub : ∀ n ∈ (plug z X).no, n ∈ T.no) (hlen : (plug z X).no.length + 1 = T.size) (hup : UpK key ((plug z X).no.map S0.v)) (hsp0 : ∀ n ∈ (plug z X).no, SpK (S0.v n)) (g cap : Nat) :
    ∃ T', Inv key ((S0.hang (Zip.way z) x).drop gone g cap) T' (q + 1) ∧ vals ((S0.hang (Zip.way z) x).drop gone g cap) T' = (plug z X).no.map S0.v := by
 have hd0 : S0.d 0 = 0 := by rw [e2]; exact h.d0
 have hxl : x < S0.len := by
  rcases hX.root with e | e
  ·rw [e, e3]; exact h.l0
  ·exact (hX.pos x e).2
 obtain ⟨T', u1, u2, u3, _, _, u6⟩ := hz_ok z S0 x X Y hd0 hX bX hz0 hav h1 h2 hnd
 have hk0 : KB S0 := by intro j hj s hs; rw [e1, e3]; exact h.kb j (by omega) s hs
 have hdl0 : DL S0 (q + 1) := by intro j hj; rw [e2]; exact h.dl j (by omega)
 obtain ⟨b1, b3⟩ := hang_kb hk0 ⟨_, hdl0⟩ hxl (zok_way hz0)
 have gp := h.ok.pos gone hg
 have hgT : gone ∉ T'.no := by rw [u2]; exact hgn
 rw [hang_z]
 obtain ⟨S1, hS1⟩ : ∃ S1, (hz S0 x z).1 = S1 := ⟨_, rfl⟩
 obtain ⟨r1, hr1⟩ : ∃ r1, (hz S0 x z).2 = r1 := ⟨_, rfl⟩
 have hvS : S1.v = S0.v := by rw [← hS1]; exact hz_v z S0 x
 rw [hS1] at u1 b1 b3 u6 ⊢
 rw [hr1] at u1 ⊢
 have fv : ∀ n, ((({ S1 with root := r1 } : TS).drop gone g cap).v n) = upd S0.v gone 0 n := fun n => by show upd S1.v gone 0 n = _; rw [hvS]
 have hmap : T'.no.map (upd S0.v gone 0) = (plug z X).no.map S0.v := by
  rw [u2]; exact List.map_congr_left fun n hn => upd_ne _ _ (fun e => hgn (e ▸ hn))
 have hT0 : (0 : Nat) ∉ T'.no := fun hm => by have := (u1.pos 0 hm).1; omega
 have hsz : T'.size + 1 = T.size := by rw [← Tr.no_len, u2]; exact hlen
 have l1 : S1.len = S.len := b3.1.trans e3; have f1 : S1.fl = S.fl := b3.2.2.2.2.2.2.1.trans e4; have f2 : S1.fr = S.fr := b3.2.2.2.2.2.2.2.1.trans e5; have n1 : S1.n = S.n := b3.2.2.2.2.2.2.2.2.2.trans e6
 have hdl1 : DL S1 ((q + 1 : Nat) + 1) := by
  intro j hj
  by_cases hm : j ∈ T'.no
  ·have h1 := u1.dall j hm
   have h2 := h.sz
   omega
  ·rw [(u6 j (fun hm' => hm (by
    rw [u2, plug_mem]
    rcases List.mem_append.1 hm' with hm' | hm'
    ·exact .inr hm'
    ·exact .inl hm'))).2.2]
   have h1 := hdl0 j (by rw [← b3.1]; exact hj)
   omega
 refine ⟨T', ⟨?_, u3, by rw [u2]; exact hnd, ?_, ?_, ?_, ?_, ?_, ?_, ?_, ?_, ?_, ?_, ?_, ?_, ?_, fun n hn => by
  have hne : n ≠ gone := fun e => hgT (by rw [← e]; exact hn)
  rw [fv, upd_ne _ _ hne]; exact hsp0 n (by rw [← u2]; exact hn)⟩, ?_⟩
 ·refine Ok.congr (S := S1) (S' := ({ S1 with root := r1 } : TS).drop gone g cap) (show S1.len ≤ S1.len from Nat.le_refl _) u1 fun n hn => ?_
  have hne : n ≠ gone := fun e => hgT (e ▸ hn)
  refine ⟨?_, ?_, ?_⟩
  ·show upd S1.k gone _ n 0 = _; rw [upd_ne _ _ hne]
  ·show upd S1.k gone _ n 1 = _; rw [upd_ne _ _ hne]
  ·show upd S1.d gone _ n = _; rw [upd_ne _ _ hne]
 ·show 0 < S1.len; rw [l1]; exact h.l0
 ·show upd S1.d gone 0 0 = 0
  rw [upd_ne _ _ (by omega)]
  rw [(u6 0 (fun hm => by
   have : (0 : Nat) ∈ (plug z X).no := by rw [plug_mem]; rcases List.mem_append.1 hm with hm | hm; exact .inr hm; exact .inl hm
   rw [← u2] at this; exact hT0 this)).2.2]; exact hd0
 ·rw [fv, upd_ne _ _ (by omega)]; exact hv0
 ·exact KB.put (S := { S1 with root := r1 }) b1 (by show 0 < S1.len; rw [l1]; exact h.l0) gone 0 0
 ·exact DL.put (S := { S1 with root := r1 }) hdl1 gone 0 0 (by decide) (by omega)
 ·intro j hj
  have hj' : j < S1.fl + 1 := hj
  show upd S1.fr S1.fl gone j < S1.len ∧ 0 < upd S1.fr S1.fl gone j ∧ upd S1.fr S1.fl gone j ∉ T'.no
  rw [l1]
  by_cases e : j = S1.fl
  ·rw [e, upd_same]; exact ⟨gp.2, gp.1, hgT⟩
  ·rw [upd_ne _ _ e, f2]
   obtain ⟨a, b, c⟩ := h.fr j (by omega)
   exact ⟨a, b, fun hm => c (hsub _ (by rw [← u2]; exact hm))⟩
 ·intro i j hi hj e
  have hi' : i < S1.fl + 1 := hi; have hj' : j < S1.fl + 1 := hj; have e' : upd S1.fr S1.fl gone i = upd S1.fr S1.fl gone j := e
  by_cases a : i = S1.fl
  ·by_cases b : j = S1.fl
   ·omega
   ·rw [a, upd_same, upd_ne _ _ b, f2] at e'
    exact absurd hg (e' ▸ (h.fr j (by omega)).2.2)
  ·by_cases b : j = S1.fl
   ·rw [b, upd_same, upd_ne _ _ a, f2] at e'
    exact absurd hg (e'.symm ▸ (h.fr i (by omega)).2.2)
   ·rw [upd_ne _ _ a, upd_ne _ _ b, f2] at e'
    exact h.fi i j (by omega) (by omega) e'
 ·show S1.n - 1 = T'.size; rw [n1, h.n]; omega
 ·rw [srt_up]
  show UpK key (T'.no.map (upd S1.v gone 0))
  rw [hvS, hmap]; exact hup
 ·intro j hj; trivial
 ·show S1.len ≤ q + 1 + 1; rw [l1]; have := h.len; omega
 ·show S1.fl + 1 ≤ q + 1; rw [f1]; have := h.fl; omega
 ·have := h.sz; omega
 ·show T'.no.map (upd S1.v gone 0) = _; rw [hvS, hmap]
/-- what stands around a thing that is found -/
theorem found_split {key : Int → Int} {c : Int → Int → Int} {S : TS} {T : Tr} {q : Nat} (hc : OrdK c key) (h : Inv key S T q) (x : Int) (hx : SpK x) (n : Nat) (hn : T.found (fun i => c x (S.v i)) = n) (h0 : n ≠ 0) :
    ∃ (z : Zip) (l r : Tr), Zip.way z = T.way (fun i => c x (S.v i)) ∧ plug z (.nd n l r) = T ∧ ZOk S z ∧ Ok S n (.nd n l r) ∧ key (S.v n) = key x ∧ (∀ m ∈ pre z ++ l.no, key (S.v m) < key x) ∧ (∀ m ∈ r.no ++ post z, key x < key (S.v m)) := by
  obtain ⟨f, hf⟩ : ∃ f : Nat → Int, (fun i => c x (S.v i)) = f := ⟨_, rfl⟩
  have hpos := fun n hn => (h.ok.pos n hn).1
  have hw := zip_way (fun i => c x (S.v i)) T []
  have hp := zip_plug (fun i => c x (S.v i)) T []
  obtain ⟨hzo, jY, hY⟩ := zip_ok (fun i => c x (S.v i)) T [] S.root h.ok h.avl trivial
  obtain ⟨h1, l, r, h2⟩ := (zip_found (fun i => c x (S.v i)) T [] hpos).2 (by rw [hn]; exact h0)
  rw [hn] at h1 h2
  have h1' : c x (S.v n) = 0 := h1
  rw [hf] at hw hp hzo hY h2 ⊢
  rw [h2] at hp hY
  obtain ⟨z, hz0⟩ : ∃ z, (zipOf f T []).1 = z := ⟨_, rfl⟩
  rw [hz0] at hw hp hzo
  have hgn : SpK (S.v n) := h.sp n (by
    have hpT : plug z (.nd n l r) = T := hp
    rw [← hpT, plug_mem]; left; show n ∈ l.no ++ n :: r.no; simp)
  have hkx : key (S.v n) = key x := by
    have a := (hc x (S.v n) hx hgn).1
    have b := (hc x (S.v n) hx hgn).2
    rcases Int.lt_trichotomy (key x) (key (S.v n)) with q1 | q1 | q1
    · have := a.2 q1; omega
    · exact q1.symm
    · have := b.2 q1; omega
  have hpT : plug z (.nd n l r) = T := hp
  have hs : Srt key S (plug z (.nd n l r)).no := by rw [hpT]; exact h.srt
  rw [plug_split] at hs
  have hs2 : (pre z ++ l.no ++ (n :: (r.no ++ post z))).Pairwise fun a b => key (S.v a) < key (S.v b) := by
    have e : pre z ++ (Tr.nd n l r).no ++ post z = pre z ++ l.no ++ (n :: (r.no ++ post z)) := by show pre z ++ (l.no ++ n :: r.no) ++ post z = _; simp
    rw [← e]; exact hs
  rw [List.pairwise_append, List.pairwise_cons] at hs2
  obtain ⟨_, ⟨s2, _⟩, s4⟩ := hs2
  refine ⟨z, l, r, by rw [hw]; rfl, hpT, hzo, ⟨rfl, hY.2⟩, hkx, fun m hm => by rw [← hkx]; exact s4 m hm n (by simp), fun m hm => by rw [← hkx]; exact s2 m hm⟩
end Go.Proofs.Ytkaolhlmimalkaa

namespace Go.Proofs.Ytkaolhlmimalkaa
open Go.RowKit

theorem avl_plug : ∀ (z : Zip) (Y : Tr), Avl (plug z Y) → Avl Y
  | [], _, h => h
  | (_, _, _) :: z, _, h => (Avl.mk.1 (avl_plug z _ h)).2.2.1
theorem nd_no (n : Nat) (l r : Tr) : (Tr.nd n l r).no = l.no ++ n :: r.no := rfl
/-- what a call of Del leaves: the set without a thing -/
def DelTo (key : Int → Int) (S : TS) (T : Tr) (q : Nat) (x : Int) (S' : TS) : Prop :=
  ∃ (T' : Tr) (n : Nat) (P Q : List Nat), Inv key S' T' (q + 1) ∧ T.no = P ++ n :: Q ∧ key (S.v n) = key x ∧ (∀ m ∈ P, key (S.v m) < key x) ∧ (∀ m ∈ Q, key x < key (S.v m)) ∧ vals S' T' = P.map S.v ++ Q.map S.v
set_option maxHeartbeats 1000000 in
theorem Del_ok (t : Nat) {key : Int → Int} {c : Int → Int → Int} {S : TS} {T : Tr} {q : Nat} (hc : OrdK c key) (h : Inv key S T q) (x : Int) (hx : SpK x) (hn0 : T.found (fun i => c x (S.v i)) ≠ 0) (hk0 : ∀ n, T.found (fun i => c x (S.v i)) = n → S.k n 0 = 0) (hq : q < 100000) (w : World) (hw : TM2 w t S) (ho : OrdOk S.ord c) :
    Calls Try.prog 18 #[ptr t 0, pK x] w fun e w' => e = .returned (.bool true) ∧ ∃ S', DelTo key S T q x S' ∧ S'.ord = S.ord ∧ TM2 w' t S' ∧ Fr t S S' w w' := by
 obtain ⟨n, hn⟩ : ∃ n, T.found (fun i => c x (S.v i)) = n := ⟨_, rfl⟩
 rw [hn] at hn0
 obtain ⟨z, l, r, z1, z2, z3, z4, z5, z6, z7⟩ := found_split hc h x hx n hn hn0
 have hR := h.ok.rep
 have hav : Avl (plug z (.nd n l r)) := by rw [z2]; exact h.avl
 obtain ⟨a1, a2, a3, a4⟩ := avl_plug z _ hav
 have hno : T.no = (pre z ++ l.no) ++ n :: (r.no ++ post z) := by rw [← z2, plug_split, nd_no]; simp
 have hnd := h.nd
 have hgT : n ∈ T.no := by rw [hno]; simp
 have hnl : n < S.len := z4.2.2.1; have hsz := h.sz; have hln := h.len; have hfl := h.fl; have hnn := h.n
 have hpos : 0 < S.n := by
  have : 0 < T.no.length := List.length_pos_of_mem hgT
  rw [Tr.no_len] at this; omega
 have hsub : ∀ m, m ∈ pre z ++ l.no ++ (r.no ++ post z) → m ∈ T.no := fun m hm => by
  rw [hno]
  rcases List.mem_append.1 hm with hm | hm
  ·exact List.mem_append.2 (.inl hm)
  ·exact List.mem_append.2 (.inr (List.mem_cons_of_mem _ hm))
 have hlen0 : (pre z ++ l.no).length + (r.no ++ post z).length + 1 = T.size := by rw [← Tr.no_len, hno]; simp; omega
 have hsub2 : (pre z ++ l.no ++ (r.no ++ post z)).Sublist T.no := by
  rw [hno]; exact List.Sublist.append (List.Sublist.refl _) (List.sublist_cons_self _ _)
 have hup : UpK key ((pre z ++ l.no).map S.v ++ (r.no ++ post z).map S.v) := by
  have := (srt_up.1 h.srt).sublist (hsub2.map S.v)
  rw [List.map_append] at this; exact this
 have hnn2 : n ∉ pre z ++ l.no ++ (r.no ++ post z) := by
  intro hm
  rw [hno, List.nodup_append, List.nodup_cons] at hnd
  rcases List.mem_append.1 hm with hm | hm
  ·exact hnd.2.2 n hm n (by simp) rfl
  ·exact hnd.2.1.1 hm
 have hk0 : S.k n 0 = 0 := hk0 n hn
 have hl0 : l = .nil := by
  cases l with
  | nil => rfl
  | nd a b d => have h1 := z4.2.2.2.2.1.1; have h2 := z4.2.2.2.2.1.2.1; omega
 subst hl0
 refine (Del_left t S c x T _ rfl n hn hn0 _ z1.symm (q + 1) w hw ho trivial hR h.v64 (by omega) h.l0 (by omega) (by omega) h.kb h.dl (by omega) hpos (by omega) hk0).mono ?_
 rintro e w' ⟨rfl, g, cap, S', hS', g1, g2⟩
 have hX : (plug z r).no = pre z ++ r.no ++ post z := plug_split z r
 have hX2 : (plug z r).no = (pre z ++ Tr.nil.no) ++ (r.no ++ post z) := by rw [hX]; show _ = pre z ++ [] ++ _; simp
 obtain ⟨T', i1, i2⟩ := drop_inv (S0 := S) h rfl rfl rfl rfl rfl rfl h.v0 h.v64 (z := z) (X := r) (Y := .nd n .nil r) z3 z4.2.2.2.2.2 a4 hav (by show r.ht ≤ max 0 r.ht + 1 + 1; omega) (by show max 0 r.ht + 1 ≤ r.ht + 1; omega)
  (by rw [hX2]; exact hnd.sublist hsub2) hgT (by rw [hX2]; exact hnn2) (fun m hm => hsub m (by rw [← hX2]; exact hm)) (by rw [hX2, List.length_append]; exact hlen0) (by rw [hX2, List.map_append]; exact hup) (fun m hm => h.sp m (hsub m (by rw [← hX2]; exact hm))) g cap
 refine ⟨rfl, S', ⟨T', n, pre z ++ Tr.nil.no, r.no ++ post z, by rw [hS']; exact i1, hno, z5, z6, z7, ?_⟩, by rw [hS']; exact (hang_sm S _ _).2.2.2.2.2.2.1, g1, g2⟩
 rw [hS', i2, hX2, List.map_append]
/-- what Put makes of a set, as its list says -/
theorem Put_ok (t : Nat) {key : Int → Int} {c : Int → Int → Int} {S : TS} {T : Tr} {q : Nat} (hc : OrdK c key) (h : Inv key S T q) (x : Int) (hx : SpK x) (hn : T.found (fun i => c x (S.v i)) = 0) (hq : q < 100000) (w : World) (hw : TM2 w t S) (ho : OrdOk S.ord c) :
    Calls Try.prog 36 #[ptr t 0, pK x] w fun e w' => e = .returned (.bool true) ∧ ∃ S', (∃ T' P Q, Inv key S' T' (q + 1) ∧ T.no = P ++ Q ∧ (∀ n ∈ P, key (S.v n) < key x) ∧ (∀ n ∈ Q, key x < key (S.v n)) ∧ vals S' T' = P.map S.v ++ x :: Q.map S.v) ∧ S'.ord = S.ord ∧ TM2 w' t S' ∧ Fr t S S' w w' := by
  have hsz := h.sz; have hln := h.len; have hfl := h.fl; have hnn := h.n
  refine (Put_new t S c x T _ rfl hn _ rfl (q + 1) w hw ho trivial h.ok.rep h.v64 (by omega) h.l0 (by omega) (fun j hj => (h.fr j hj).1) h.kb h.dl (by omega) (by omega) (by omega)).mono ?_
  rintro e w' ⟨rfl, g, cap, S', hS', g1, g2⟩
  obtain ⟨T', P, Q, i1, i2, i3, i4, i5⟩ := put_inv hc h x hx hn g cap
  rw [← hS'] at i1 i5
  refine ⟨rfl, S', ⟨T', P, Q, i1, i2, i3, i4, i5⟩, ?_, g1, g2⟩
  rw [hS']
  show ((S.fresh x g cap).hang _ _).ord = _
  rw [(hang_sm (S.fresh x g cap) _ _).2.2.2.2.2.2.1, (fresh_sm S x g cap).2.2.2.1]
end Go.Proofs.Ytkaolhlmimalkaa

namespace Go.Proofs.Ytkaolhlmimalkaa
open Go.RowKit Go.Shelf

/-- a set without things -/
def TS.new (ord : Value) (nb : Nat) : TS := ⟨ord, nb, 1, 1, fun _ => 0, fun _ _ => 0, fun _ => 0, nb, 0, 0, fun _ => 0, 0, 0⟩
theorem New_is (fid : Nat) (w : World) :
    Calls Try.prog 35 #[.func (.func fid) #[] #[]] w fun e w' => ∃ t nb, e = .returned (ptr t 0) ∧ TM2 w' t (TS.new (.func (.func fid) #[] #[]) nb) ∧ w.heap.size ≤ t ∧ w.heap.size ≤ nb ∧ Below w.heap.size w w' := by
  go_enter Try.func35, Try.ntmps35
  obtain ⟨i0, hi, hz0, hz1, hz2⟩ := info_parts info_node
  go_wp2_with (at_make; refine wpList_make_full _ rfl _ _ 94 rfl w.heap.size 87 i0 (.agg #[.int .u64 0, .int .u64 0, .int .u64 0, .int .u64 0, .int .u64 0, .int .u64 0, .int .u64 0, .int .u64 0, .int .u64 0, .int .u64 0, .int .u64 0, .int .u64 0, .int .i64 0, .int .i64 0, .int .i64 0]) 15 Try.underlying94 hi hz0 hz1 .i64 .i64 1 1 1 rfl rfl rfl rfl (by rw [hz2]; decide) (by decide) (Nat.le_refl _) ?_; intro w1 own1 gr1)
  have own1 : w1.ownsRow w.heap.size 87 15 (.slice (some ⟨w.heap.size, 0, none⟩) 1 1) 1 (flat 15 (TS.new (.func (.func fid) #[] #[]) w.heap.size).nd 1) := by
    have e : (madeCells (Value.agg #[.int .u64 0, .int .u64 0, .int .u64 0, .int .u64 0, .int .u64 0, .int .u64 0, .int .u64 0, .int .u64 0, .int .u64 0, .int .u64 0, .int .u64 0, .int .u64 0, .int .i64 0, .int .i64 0, .int .i64 0]).cells (1 * 15)).toList = flat 15 (TS.new (.func (.func fid) #[] #[]) w.heap.size).nd 1 := by kernel_rfl
    rw [← e]; exact own1
  obtain ⟨g, cap, hq, hb, hrow⟩ := Row.ofOwns own1 (by decide)
  cases hq
  have hlt := hrow.lt
  have hbel : Below w.heap.size w w1 := (Below.refl _ _).grown gr1 (Nat.le_refl _) (fun k hk => by cases hk)
  have T : TM2 (w1.alloc (.cells #[.func (.func fid) #[] #[], .slice (some ⟨w.heap.size, 0, none⟩) 1 1, .slice none 0 0, .int .i64 0, .int .i64 0] 96)) w1.heap.size (TS.new (.func (.func fid) #[] #[]) w.heap.size) := by
    refine ⟨⟨Blk.new _ _ _, hrow.alloc _, .inl ⟨rfl, rfl⟩, by show w1.heap.size ≠ w.heap.size; omega⟩, by show w.heap.size < _; simp; omega⟩
  have HT := Lib.hid T
  have HB := Lib.hid (hbel.alloc hbel.size (.cells #[.func (.func fid) #[] #[], .slice (some ⟨w.heap.size, 0, none⟩) 1 1, .slice none 0 0, .int .i64 0, .int .i64 0] 96))
  have hsz := hbel.size; clear own1 gr1 hrow T hbel
  go_wp2
  go_ret
  exact ⟨_, _, rfl, HT.out, hsz, Nat.le_refl _, HB.out⟩
end Go.Proofs.Ytkaolhlmimalkaa

namespace Go.Proofs.Ytkaolhlmimalkaa
open Go.RowKit

set_option maxRecDepth 100000 in
set_option maxHeartbeats 4000000 in

theorem crtimes_is (x : Int) (y : Int)  (R0 : Int) (hR0 : mulv x y = R0) (_ix : InI x) (_iy : InI y)  (w : World)  :
    Calls Try.prog 22 #[.agg #[.int .u64 (wd0 x), .int .u64 (wd1 x), .int .u64 (wd2 x), .int .u64 (wd3 x)], .agg #[.int .u64 (wd0 y), .int .u64 (wd1 y), .int .u64 (wd2 y), .int .u64 (wd3 y)]] w fun e w' => e = .returned (.agg #[.int .u64 (wd0 R0), .int .u64 (wd1 R0), .int .u64 (wd2 R0), .int .u64 (wd3 R0)]) ∧ Below w.heap.size w w' := by

  have HR0 := Lib.hid hR0; clear hR0
  go_enter Try.func22, Try.ntmps22
  go_wp2_with fail
  first | refine calls_w ?_ | refine name_world ?_ | refine list_world ?_ | refine post_world ?_
  intro V1 hV1
  have hn : Below w.heap.size w V1 := by rw [hV1]; exact below_a3 _ _ _ _
  have nhb0 := hn
  have k1 : Blk V1 w.heap.size #[.int .u64 (wd0 x), .int .u64 (wd1 x), .int .u64 (wd2 x), .int .u64 (wd3 x)] 34 := by rw [hV1]; exact (((Blk.new _ _ _).alloc _).alloc _)
  have k2 : Blk V1 (w.heap.size + 1) #[.int .u64 (wd0 y), .int .u64 (wd1 y), .int .u64 (wd2 y), .int .u64 (wd3 y)] 34 := by rw [hV1]; exact ((Blk.new1 _ _ _ _).alloc _)
  have k3 : Blk V1 (w.heap.size + 1 + 1) #[.int .u64 0, .int .u64 0, .int .u64 0, .int .u64 0] 34 := by rw [hV1]; exact (Blk.new2 _ _ _ _ _)
  clear hV1; have hb0 := nhb0; clear nhb0
  obtain ⟨r1, hr1⟩ : ∃ o_o : Int, mulv x y = o_o := ⟨_, rfl⟩
  have Hr1 := Lib.hid hr1; clear hr1
  obtain ⟨z2, hz2⟩ : ∃ o_o : Bool, okI (x * y) = o_o := ⟨_, rfl⟩
  have Hz2 := Lib.hid hz2; clear hz2
  refine (Mul_v x y r1 z2 Hr1.out Hz2.out _ix _iy _).mono ?_
  rintro e U2 ⟨rfl, hn⟩
  clear k1 k2; replace k3 := k3.of hn
  replace hb0 := hb0.trans (hn.mono hb0.size)
  clear hn; have c3_0 : U2.cell? ⟨w.heap.size + 1 + 1, 0, none⟩ = some (.int .u64 0) := k3.cell 0; have c3_1 : U2.cell? ⟨w.heap.size + 1 + 1, 1, none⟩ = some (.int .u64 0) := k3.cell 1; have c3_2 : U2.cell? ⟨w.heap.size + 1 + 1, 2, none⟩ = some (.int .u64 0) := k3.cell 2; have c3_3 : U2.cell? ⟨w.heap.size + 1 + 1, 3, none⟩ = some (.int .u64 0) := k3.cell 3; obtain ⟨f3_0, f3_1, f3_2, f3_3⟩ := fre4 k3; have l3 := k3.lt
  have l3_0 : w.heap.size < U2.heap.size := by have := k3.lt; omega
  have l3_1 : w.heap.size + 1 < U2.heap.size := by have := k3.lt; omega
  have e0 : r1 = R0 := by rw [← HR0.out]; (try rw [Hr1.out]); (try rw [Hz2.out]); all_goals first | rfl | simp
  subst e0
  go_wp2
  clear c3_0 c3_1 c3_2 c3_3 f3_0 f3_1 f3_2 f3_3 l3 l3_0 l3_1
  first | refine post_world ?_
  intro V3 hV3
  have D1 := Lib.hid k3.lt; have D2 := Lib.hid hb0.size
  have nk3 : Blk V3 (w.heap.size + 1 + 1) #[.int .u64 (wd0 r1), .int .u64 (wd1 r1), .int .u64 (wd2 r1), .int .u64 (wd3 r1)] 34 := by rw [hV3]; exact ((blk_full _ [.int .u64 (wd0 r1), .int .u64 (wd1 r1), .int .u64 (wd2 r1), .int .u64 (wd3 r1)] k3 rfl).alloc _)
  have nhb0 : Below w.heap.size w V3 := by rw [hV3]; exact (blw_al (blw_setL hb0 (by omega) 0 [.int .u64 (wd0 r1), .int .u64 (wd1 r1), .int .u64 (wd2 r1), .int .u64 (wd3 r1)]) _)
  clear k3; clear hb0; clear hV3; have k3 := nk3; clear nk3; have hb0 := nhb0; clear nhb0; have g3_0 : V3.cell? ⟨w.heap.size + 1 + 1, 0, none⟩ = some (.int .u64 (wd0 r1)) := k3.cell 0; have g3_1 : V3.cell? ⟨w.heap.size + 1 + 1, 1, none⟩ = some (.int .u64 (wd1 r1)) := k3.cell 1; have g3_2 : V3.cell? ⟨w.heap.size + 1 + 1, 2, none⟩ = some (.int .u64 (wd2 r1)) := k3.cell 2; have g3_3 : V3.cell? ⟨w.heap.size + 1 + 1, 3, none⟩ = some (.int .u64 (wd3 r1)) := k3.cell 3; clear k3
  simp [bodyPost, results, Try.results22, go_sem, g3_0, g3_1, g3_2, g3_3]
  first | exact hb0 | exact ⟨rfl, hb0⟩

set_option maxRecDepth 100000 in
set_option maxHeartbeats 4000000 in

theorem crless_is (x : Int) (y : Int)  (R0 : Int) (hR0 : subv x y = R0) (_ix : InI x) (_iy : InI y)  (w : World)  :
    Calls Try.prog 53 #[.agg #[.int .u64 (wd0 x), .int .u64 (wd1 x), .int .u64 (wd2 x), .int .u64 (wd3 x)], .agg #[.int .u64 (wd0 y), .int .u64 (wd1 y), .int .u64 (wd2 y), .int .u64 (wd3 y)]] w fun e w' => e = .returned (.agg #[.int .u64 (wd0 R0), .int .u64 (wd1 R0), .int .u64 (wd2 R0), .int .u64 (wd3 R0)]) ∧ Below w.heap.size w w' := by

  have HR0 := Lib.hid hR0; clear hR0
  go_enter Try.func53, Try.ntmps53
  go_wp2_with fail
  first | refine calls_w ?_ | refine name_world ?_ | refine list_world ?_ | refine post_world ?_
  intro V1 hV1
  have hn : Below w.heap.size w V1 := by rw [hV1]; exact below_a3 _ _ _ _
  have nhb0 := hn
  have k1 : Blk V1 w.heap.size #[.int .u64 (wd0 x), .int .u64 (wd1 x), .int .u64 (wd2 x), .int .u64 (wd3 x)] 34 := by rw [hV1]; exact (((Blk.new _ _ _).alloc _).alloc _)
  have k2 : Blk V1 (w.heap.size + 1) #[.int .u64 (wd0 y), .int .u64 (wd1 y), .int .u64 (wd2 y), .int .u64 (wd3 y)] 34 := by rw [hV1]; exact ((Blk.new1 _ _ _ _).alloc _)
  have k3 : Blk V1 (w.heap.size + 1 + 1) #[.int .u64 0, .int .u64 0, .int .u64 0, .int .u64 0] 34 := by rw [hV1]; exact (Blk.new2 _ _ _ _ _)
  clear hV1; have hb0 := nhb0; clear nhb0
  obtain ⟨r1, hr1⟩ : ∃ o_o : Int, subv x y = o_o := ⟨_, rfl⟩
  have Hr1 := Lib.hid hr1; clear hr1
  obtain ⟨z2, hz2⟩ : ∃ o_o : Bool, okI (x - y) = o_o := ⟨_, rfl⟩
  have Hz2 := Lib.hid hz2; clear hz2
  refine (Sub_v x y r1 z2 Hr1.out Hz2.out _ix _iy _).mono ?_
  rintro e U2 ⟨rfl, hn⟩
  clear k1 k2; replace k3 := k3.of hn
  replace hb0 := hb0.trans (hn.mono hb0.size)
  clear hn; have c3_0 : U2.cell? ⟨w.heap.size + 1 + 1, 0, none⟩ = some (.int .u64 0) := k3.cell 0; have c3_1 : U2.cell? ⟨w.heap.size + 1 + 1, 1, none⟩ = some (.int .u64 0) := k3.cell 1; have c3_2 : U2.cell? ⟨w.heap.size + 1 + 1, 2, none⟩ = some (.int .u64 0) := k3.cell 2; have c3_3 : U2.cell? ⟨w.heap.size + 1 + 1, 3, none⟩ = some (.int .u64 0) := k3.cell 3; obtain ⟨f3_0, f3_1, f3_2, f3_3⟩ := fre4 k3; have l3 := k3.lt
  have l3_0 : w.heap.size < U2.heap.size := by have := k3.lt; omega
  have l3_1 : w.heap.size + 1 < U2.heap.size := by have := k3.lt; omega
  have e0 : r1 = R0 := by rw [← HR0.out]; (try rw [Hr1.out]); (try rw [Hz2.out]); all_goals first | rfl | simp
  subst e0
  go_wp2
  clear c3_0 c3_1 c3_2 c3_3 f3_0 f3_1 f3_2 f3_3 l3 l3_0 l3_1
  first | refine post_world ?_
  intro V3 hV3
  have D1 := Lib.hid k3.lt; have D2 := Lib.hid hb0.size
  have nk3 : Blk V3 (w.heap.size + 1 + 1) #[.int .u64 (wd0 r1), .int .u64 (wd1 r1), .int .u64 (wd2 r1), .int .u64 (wd3 r1)] 34 := by rw [hV3]; exact ((blk_full _ [.int .u64 (wd0 r1), .int .u64 (wd1 r1), .int .u64 (wd2 r1), .int .u64 (wd3 r1)] k3 rfl).alloc _)
  have nhb0 : Below w.heap.size w V3 := by rw [hV3]; exact (blw_al (blw_setL hb0 (by omega) 0 [.int .u64 (wd0 r1), .int .u64 (wd1 r1), .int .u64 (wd2 r1), .int .u64 (wd3 r1)]) _)
  clear k3; clear hb0; clear hV3; have k3 := nk3; clear nk3; have hb0 := nhb0; clear nhb0; have g3_0 : V3.cell? ⟨w.heap.size + 1 + 1, 0, none⟩ = some (.int .u64 (wd0 r1)) := k3.cell 0; have g3_1 : V3.cell? ⟨w.heap.size + 1 + 1, 1, none⟩ = some (.int .u64 (wd1 r1)) := k3.cell 1; have g3_2 : V3.cell? ⟨w.heap.size + 1 + 1, 2, none⟩ = some (.int .u64 (wd2 r1)) := k3.cell 2; have g3_3 : V3.cell? ⟨w.heap.size + 1 + 1, 3, none⟩ = some (.int .u64 (wd3 r1)) := k3.cell 3; clear k3
  simp [bodyPost, results, Try.results53, go_sem, g3_0, g3_1, g3_2, g3_3]
  first | exact hb0 | exact ⟨rfl, hb0⟩

set_option maxRecDepth 100000 in
set_option maxHeartbeats 4000000 in

theorem crplus_is (x : Int) (y : Int)  (R0 : Int) (hR0 : addv x y = R0) (_ix : InI x) (_iy : InI y)  (w : World)  :
    Calls Try.prog 97 #[.agg #[.int .u64 (wd0 x), .int .u64 (wd1 x), .int .u64 (wd2 x), .int .u64 (wd3 x)], .agg #[.int .u64 (wd0 y), .int .u64 (wd1 y), .int .u64 (wd2 y), .int .u64 (wd3 y)]] w fun e w' => e = .returned (.agg #[.int .u64 (wd0 R0), .int .u64 (wd1 R0), .int .u64 (wd2 R0), .int .u64 (wd3 R0)]) ∧ Below w.heap.size w w' := by

  have HR0 := Lib.hid hR0; clear hR0
  go_enter Try.func97, Try.ntmps97
  go_wp2_with fail
  first | refine calls_w ?_ | refine name_world ?_ | refine list_world ?_ | refine post_world ?_
  intro V1 hV1
  have hn : Below w.heap.size w V1 := by rw [hV1]; exact below_a3 _ _ _ _
  have nhb0 := hn
  have k1 : Blk V1 w.heap.size #[.int .u64 (wd0 x), .int .u64 (wd1 x), .int .u64 (wd2 x), .int .u64 (wd3 x)] 34 := by rw [hV1]; exact (((Blk.new _ _ _).alloc _).alloc _)
  have k2 : Blk V1 (w.heap.size + 1) #[.int .u64 (wd0 y), .int .u64 (wd1 y), .int .u64 (wd2 y), .int .u64 (wd3 y)] 34 := by rw [hV1]; exact ((Blk.new1 _ _ _ _).alloc _)
  have k3 : Blk V1 (w.heap.size + 1 + 1) #[.int .u64 0, .int .u64 0, .int .u64 0, .int .u64 0] 34 := by rw [hV1]; exact (Blk.new2 _ _ _ _ _)
  clear hV1; have hb0 := nhb0; clear nhb0
  obtain ⟨r1, hr1⟩ : ∃ o_o : Int, addv x y = o_o := ⟨_, rfl⟩
  have Hr1 := Lib.hid hr1; clear hr1
  obtain ⟨z2, hz2⟩ : ∃ o_o : Bool, okI (x + y) = o_o := ⟨_, rfl⟩
  have Hz2 := Lib.hid hz2; clear hz2
  refine (Add_v x y r1 z2 Hr1.out Hz2.out _ix _iy _).mono ?_
  rintro e U2 ⟨rfl, hn⟩
  clear k1 k2; replace k3 := k3.of hn
  replace hb0 := hb0.trans (hn.mono hb0.size)
  clear hn; have c3_0 : U2.cell? ⟨w.heap.size + 1 + 1, 0, none⟩ = some (.int .u64 0) := k3.cell 0; have c3_1 : U2.cell? ⟨w.heap.size + 1 + 1, 1, none⟩ = some (.int .u64 0) := k3.cell 1; have c3_2 : U2.cell? ⟨w.heap.size + 1 + 1, 2, none⟩ = some (.int .u64 0) := k3.cell 2; have c3_3 : U2.cell? ⟨w.heap.size + 1 + 1, 3, none⟩ = some (.int .u64 0) := k3.cell 3; obtain ⟨f3_0, f3_1, f3_2, f3_3⟩ := fre4 k3; have l3 := k3.lt
  have l3_0 : w.heap.size < U2.heap.size := by have := k3.lt; omega
  have l3_1 : w.heap.size + 1 < U2.heap.size := by have := k3.lt; omega
  have e0 : r1 = R0 := by rw [← HR0.out]; (try rw [Hr1.out]); (try rw [Hz2.out]); all_goals first | rfl | simp
  subst e0
  go_wp2
  clear c3_0 c3_1 c3_2 c3_3 f3_0 f3_1 f3_2 f3_3 l3 l3_0 l3_1
  first | refine post_world ?_
  intro V3 hV3
  have D1 := Lib.hid k3.lt; have D2 := Lib.hid hb0.size
  have nk3 : Blk V3 (w.heap.size + 1 + 1) #[.int .u64 (wd0 r1), .int .u64 (wd1 r1), .int .u64 (wd2 r1), .int .u64 (wd3 r1)] 34 := by rw [hV3]; exact ((blk_full _ [.int .u64 (wd0 r1), .int .u64 (wd1 r1), .int .u64 (wd2 r1), .int .u64 (wd3 r1)] k3 rfl).alloc _)
  have nhb0 : Below w.heap.size w V3 := by rw [hV3]; exact (blw_al (blw_setL hb0 (by omega) 0 [.int .u64 (wd0 r1), .int .u64 (wd1 r1), .int .u64 (wd2 r1), .int .u64 (wd3 r1)]) _)
  clear k3; clear hb0; clear hV3; have k3 := nk3; clear nk3; have hb0 := nhb0; clear nhb0; have g3_0 : V3.cell? ⟨w.heap.size + 1 + 1, 0, none⟩ = some (.int .u64 (wd0 r1)) := k3.cell 0; have g3_1 : V3.cell? ⟨w.heap.size + 1 + 1, 1, none⟩ = some (.int .u64 (wd1 r1)) := k3.cell 1; have g3_2 : V3.cell? ⟨w.heap.size + 1 + 1, 2, none⟩ = some (.int .u64 (wd2 r1)) := k3.cell 2; have g3_3 : V3.cell? ⟨w.heap.size + 1 + 1, 3, none⟩ = some (.int .u64 (wd3 r1)) := k3.cell 3; clear k3
  simp [bodyPost, results, Try.results97, go_sem, g3_0, g3_1, g3_2, g3_3]
  first | exact hb0 | exact ⟨rfl, hb0⟩

def sgR (ax : Int) (ay : Int) (bx : Int) (b_y : Int) : Bool := (bif (rp ax ay) then (rp bx b_y) else false)

set_option maxRecDepth 100000 in
set_option maxHeartbeats 4000000 in

theorem SegRight_is (ax : Int) (ay : Int) (bx : Int) (b_y : Int)  (R0 : Bool) (hR0 : sgR ax ay bx b_y = R0) (_iax : In64 ax) (_iay : In64 ay) (_ibx : In64 bx) (_ib_y : In64 b_y)  (w : World)  :
    Calls Try.prog 33 #[.agg #[.int .i64 ax, .int .i64 ay, .int .i64 bx, .int .i64 b_y]] w fun e w' => e = .returned (.bool R0) ∧ Below w.heap.size w w' := by

  have HR0 := Lib.hid hR0; clear hR0
  go_enter Try.func33, Try.ntmps33
  go_wp2_with fail
  first | refine calls_w ?_ | refine name_world ?_ | refine list_world ?_ | refine post_world ?_
  intro V1 hV1
  have hn : Below w.heap.size w V1 := by rw [hV1]; exact below_a1 _ _
  have nhb0 := hn
  have k1 : Blk V1 w.heap.size #[.int .i64 ax, .int .i64 ay, .int .i64 bx, .int .i64 b_y] 46 := by rw [hV1]; exact (Blk.new _ _ _)
  clear hV1; have hb0 := nhb0; clear nhb0
  obtain ⟨z1, hz1⟩ : ∃ o_o : Bool, rp ax ay = o_o := ⟨_, rfl⟩
  have Hz1 := Lib.hid hz1; clear hz1
  refine (PtRight_v ax ay z1 Hz1.out _).mono ?_
  rintro e U2 ⟨rfl, hn⟩
  replace k1 := k1.of hn
  replace hb0 := hb0.trans (hn.mono hb0.size)
  clear hn
  cases z1
  · have e0 : false = R0 := by rw [← HR0.out]; unfold sgR; (try rw [Hz1.out]); all_goals first | rfl | simp
    subst e0
    go_wp2
    first | go_ret | go_ret2
    exact ⟨by first | rfl | simp, hb0⟩
  · have c1_2 : U2.cell? ⟨w.heap.size, 2, none⟩ = some (.int .i64 bx) := k1.cell 2
    have c1_3 : U2.cell? ⟨w.heap.size, 3, none⟩ = some (.int .i64 b_y) := k1.cell 3; have l1 := k1.lt
    go_wp2_with fail
    clear c1_2 c1_3 l1
    obtain ⟨z2, hz2⟩ : ∃ o_o : Bool, rp bx b_y = o_o := ⟨_, rfl⟩
    have Hz2 := Lib.hid hz2; clear hz2
    refine (PtRight_v bx b_y z2 Hz2.out _).mono ?_
    rintro e U3 ⟨rfl, hn⟩
    clear k1
    replace hb0 := hb0.trans (hn.mono hb0.size)
    clear hn
    have e0 : z2 = R0 := by rw [← HR0.out]; unfold sgR; (try rw [Hz1.out]); (try rw [Hz2.out]); all_goals first | rfl | simp
    subst e0
    go_wp2
    first | go_ret | go_ret2
    exact ⟨by first | rfl | simp, hb0⟩

def lwx (ax : Int) (ay : Int) (bx : Int) (b_y : Int) : Int := (bif decide ((cmpP bx b_y ax ay) < 0) then bx else ax)

def lwy (ax : Int) (ay : Int) (bx : Int) (b_y : Int) : Int := (bif decide ((cmpP bx b_y ax ay) < 0) then b_y else ay)

def hgx (ax : Int) (ay : Int) (bx : Int) (b_y : Int) : Int := (bif decide ((cmpP bx b_y ax ay) < 0) then ax else bx)

def hgy (ax : Int) (ay : Int) (bx : Int) (b_y : Int) : Int := (bif decide ((cmpP bx b_y ax ay) < 0) then ay else b_y)

theorem lwx_in (ax : Int) (ay : Int) (bx : Int) (b_y : Int) (_iax : In64 ax) (_iay : In64 ay) (_ibx : In64 bx) (_ib_y : In64 b_y) : In64 (lwx ax ay bx b_y) := by
  unfold lwx
  exact (cond_64 _ibx _iax)

theorem lwy_in (ax : Int) (ay : Int) (bx : Int) (b_y : Int) (_iax : In64 ax) (_iay : In64 ay) (_ibx : In64 bx) (_ib_y : In64 b_y) : In64 (lwy ax ay bx b_y) := by
  unfold lwy
  exact (cond_64 _ib_y _iay)

theorem hgx_in (ax : Int) (ay : Int) (bx : Int) (b_y : Int) (_iax : In64 ax) (_iay : In64 ay) (_ibx : In64 bx) (_ib_y : In64 b_y) : In64 (hgx ax ay bx b_y) := by
  unfold hgx
  exact (cond_64 _iax _ibx)

theorem hgy_in (ax : Int) (ay : Int) (bx : Int) (b_y : Int) (_iax : In64 ax) (_iay : In64 ay) (_ibx : In64 bx) (_ib_y : In64 b_y) : In64 (hgy ax ay bx b_y) := by
  unfold hgy
  exact (cond_64 _iay _ib_y)

set_option maxRecDepth 100000 in
set_option maxHeartbeats 4000000 in

theorem Ends_is (ax : Int) (ay : Int) (bx : Int) (b_y : Int)  (R0 : Int) (R1 : Int) (R2 : Int) (R3 : Int) (hR0 : lwx ax ay bx b_y = R0) (hR1 : lwy ax ay bx b_y = R1) (hR2 : hgx ax ay bx b_y = R2) (hR3 : hgy ax ay bx b_y = R3) (_iax : In64 ax) (_iay : In64 ay) (_ibx : In64 bx) (_ib_y : In64 b_y)  (w : World)  :
    Calls Try.prog 62 #[.agg #[.int .i64 ax, .int .i64 ay, .int .i64 bx, .int .i64 b_y]] w fun e w' => e = .returned (.tuple #[.agg #[.int .i64 R0, .int .i64 R1], .agg #[.int .i64 R2, .int .i64 R3]]) ∧ Below w.heap.size w w' := by

  have HR0 := Lib.hid hR0; clear hR0; have HR1 := Lib.hid hR1; clear hR1; have HR2 := Lib.hid hR2; clear hR2; have HR3 := Lib.hid hR3; clear hR3
  go_enter Try.func62, Try.ntmps62
  go_wp2_with fail
  first | refine calls_w ?_ | refine name_world ?_ | refine list_world ?_ | refine post_world ?_
  intro V1 hV1
  have hn : Below w.heap.size w V1 := by rw [hV1]; exact below_a3 _ _ _ _
  have nhb0 := hn
  have k1 : Blk V1 w.heap.size #[.int .i64 ax, .int .i64 ay, .int .i64 bx, .int .i64 b_y] 46 := by rw [hV1]; exact (((Blk.new _ _ _).alloc _).alloc _)
  have k2 : Blk V1 (w.heap.size + 1) #[.int .i64 0, .int .i64 0] 44 := by rw [hV1]; exact ((Blk.new1 _ _ _ _).alloc _)
  have k3 : Blk V1 (w.heap.size + 1 + 1) #[.int .i64 0, .int .i64 0] 44 := by rw [hV1]; exact (Blk.new2 _ _ _ _ _)
  clear hV1; have hb0 := nhb0; clear nhb0
  obtain ⟨r1, hr1⟩ : ∃ o_o : Int, cmpP bx b_y ax ay = o_o := ⟨_, rfl⟩
  have Hr1 := Lib.hid hr1; clear hr1
  refine (PtCmp_v bx b_y ax ay r1 Hr1.out _).mono ?_
  rintro e U2 ⟨rfl, hn⟩
  replace k1 := k1.of hn; replace k2 := k2.of hn; replace k3 := k3.of hn
  replace hb0 := hb0.trans (hn.mono hb0.size)
  clear hn
  obtain ⟨z2, hz2⟩ : ∃ o_o : Bool, decide (r1 < 0) = o_o := ⟨_, rfl⟩
  cases z2
  · go_wp2_with fail
    have c1_0 : U2.cell? ⟨w.heap.size, 0, none⟩ = some (.int .i64 ax) := k1.cell 0; have c1_1 : U2.cell? ⟨w.heap.size, 1, none⟩ = some (.int .i64 ay) := k1.cell 1; have c1_2 : U2.cell? ⟨w.heap.size, 2, none⟩ = some (.int .i64 bx) := k1.cell 2; have c1_3 : U2.cell? ⟨w.heap.size, 3, none⟩ = some (.int .i64 b_y) := k1.cell 3; have l1 := k1.lt; have c2_0 : U2.cell? ⟨w.heap.size + 1, 0, none⟩ = some (.int .i64 0) := k2.cell 0; have c2_1 : U2.cell? ⟨w.heap.size + 1, 1, none⟩ = some (.int .i64 0) := k2.cell 1; have f2_0 := k2.free 0; have f2_1 := k2.free 1; have l2 := k2.lt
    have c3_0 : U2.cell? ⟨w.heap.size + 1 + 1, 0, none⟩ = some (.int .i64 0) := k3.cell 0; have c3_1 : U2.cell? ⟨w.heap.size + 1 + 1, 1, none⟩ = some (.int .i64 0) := k3.cell 1; have f3_0 := k3.free 0; have f3_1 := k3.free 1; have l3 := k3.lt
    have p1_2 : w.heap.size ≠ (w.heap.size + 1) := (by omega)
    have p1_3 : w.heap.size ≠ (w.heap.size + 1 + 1) := (by omega)
    have p2_3 : (w.heap.size + 1) ≠ (w.heap.size + 1 + 1) := (by omega)
    have Kk1 := Lib.hid k1; clear k1; have Kk2 := Lib.hid k2; clear k2; have Kk3 := Lib.hid k3; clear k3
    go_region
    first | refine name_q ?_ | refine calls_w ?_ | refine name_world ?_ | refine list_world ?_ | refine post_world ?_
    intro U3 hU3
    clear c1_0 c1_1 c1_2 c1_3 l1 c2_0 c2_1 f2_0 f2_1 l2 c3_0 c3_1 f3_0 f3_1 l3 p1_2 p1_3 p2_3
    have k1 : Blk U3 w.heap.size #[.int .i64 ax, .int .i64 ay, .int .i64 bx, .int .i64 b_y] 46 := by rw [hU3]; exact Blk.drew (blk_setL (blk_setL Kk1.out (by omega) 0 [.int .i64 ax, .int .i64 ay]) (by omega) 0 [.int .i64 bx, .int .i64 b_y])
    clear Kk1
    have k2 : Blk U3 (w.heap.size + 1) #[.int .i64 ax, .int .i64 ay] 44 := by rw [hU3]; exact Blk.drew (blk_setL (blk_full _ [.int .i64 ax, .int .i64 ay] Kk2.out rfl) (by omega) 0 [.int .i64 bx, .int .i64 b_y])
    clear Kk2
    have k3 : Blk U3 (w.heap.size + 1 + 1) #[.int .i64 bx, .int .i64 b_y] 44 := by rw [hU3]; exact Blk.drew (blk_full _ [.int .i64 bx, .int .i64 b_y] (blk_setL Kk3.out (by omega) 0 [.int .i64 ax, .int .i64 ay]) rfl)
    clear Kk3
    replace hb0 : Below w.heap.size w U3 := by rw [hU3]; exact Below.drew (blw_setL (blw_setL hb0 (by omega) 0 [.int .i64 ax, .int .i64 ay]) (by omega) 0 [.int .i64 bx, .int .i64 b_y])
    clear hU3
    have e0 : ax = R0 := by rw [← HR0.out]; unfold lwx; (try rw [Hr1.out]); (try rw [hz2]); all_goals first | rfl | simp
    have e1 : ay = R1 := by rw [← HR1.out]; unfold lwy; (try rw [Hr1.out]); (try rw [hz2]); all_goals first | rfl | simp
    have e2 : bx = R2 := by rw [← HR2.out]; unfold hgx; (try rw [Hr1.out]); (try rw [hz2]); all_goals first | rfl | simp
    have e3 : b_y = R3 := by rw [← HR3.out]; unfold hgy; (try rw [Hr1.out]); (try rw [hz2]); all_goals first | rfl | simp
    subst e0; subst e1; subst e2; subst e3
    go_wp2
    have g2_0 : U3.cell? ⟨w.heap.size + 1, 0, none⟩ = some (.int .i64 ax) := k2.cell 0; have g2_1 : U3.cell? ⟨w.heap.size + 1, 1, none⟩ = some (.int .i64 ay) := k2.cell 1; have g3_0 : U3.cell? ⟨w.heap.size + 1 + 1, 0, none⟩ = some (.int .i64 bx) := k3.cell 0; have g3_1 : U3.cell? ⟨w.heap.size + 1 + 1, 1, none⟩ = some (.int .i64 b_y) := k3.cell 1; clear k1 k2 k3
    simp [bodyPost, results, Try.results62, go_sem, g2_0, g2_1, g3_0, g3_1]
    first | exact hb0 | exact ⟨rfl, hb0⟩
  · go_wp2_with fail
    have c1_0 : U2.cell? ⟨w.heap.size, 0, none⟩ = some (.int .i64 ax) := k1.cell 0; have c1_1 : U2.cell? ⟨w.heap.size, 1, none⟩ = some (.int .i64 ay) := k1.cell 1; have c1_2 : U2.cell? ⟨w.heap.size, 2, none⟩ = some (.int .i64 bx) := k1.cell 2; have c1_3 : U2.cell? ⟨w.heap.size, 3, none⟩ = some (.int .i64 b_y) := k1.cell 3; have l1 := k1.lt; have c2_0 : U2.cell? ⟨w.heap.size + 1, 0, none⟩ = some (.int .i64 0) := k2.cell 0; have c2_1 : U2.cell? ⟨w.heap.size + 1, 1, none⟩ = some (.int .i64 0) := k2.cell 1; have f2_0 := k2.free 0; have f2_1 := k2.free 1; have l2 := k2.lt
    have c3_0 : U2.cell? ⟨w.heap.size + 1 + 1, 0, none⟩ = some (.int .i64 0) := k3.cell 0; have c3_1 : U2.cell? ⟨w.heap.size + 1 + 1, 1, none⟩ = some (.int .i64 0) := k3.cell 1; have f3_0 := k3.free 0; have f3_1 := k3.free 1; have l3 := k3.lt
    have p1_2 : w.heap.size ≠ (w.heap.size + 1) := (by omega)
    have p1_3 : w.heap.size ≠ (w.heap.size + 1 + 1) := (by omega)
    have p2_3 : (w.heap.size + 1) ≠ (w.heap.size + 1 + 1) := (by omega)
    have Kk1 := Lib.hid k1; clear k1; have Kk2 := Lib.hid k2; clear k2; have Kk3 := Lib.hid k3; clear k3
    go_region
    first | refine name_q ?_ | refine calls_w ?_ | refine name_world ?_ | refine list_world ?_ | refine post_world ?_
    intro U4 hU4
    clear c1_0 c1_1 c1_2 c1_3 l1 c2_0 c2_1 f2_0 f2_1 l2 c3_0 c3_1 f3_0 f3_1 l3 p1_2 p1_3 p2_3
    have k1 : Blk U4 w.heap.size #[.int .i64 ax, .int .i64 ay, .int .i64 bx, .int .i64 b_y] 46 := by rw [hU4]; exact Blk.drew (blk_setL (blk_setL Kk1.out (by omega) 0 [.int .i64 bx, .int .i64 b_y]) (by omega) 0 [.int .i64 ax, .int .i64 ay])
    clear Kk1
    have k2 : Blk U4 (w.heap.size + 1) #[.int .i64 bx, .int .i64 b_y] 44 := by rw [hU4]; exact Blk.drew (blk_setL (blk_full _ [.int .i64 bx, .int .i64 b_y] Kk2.out rfl) (by omega) 0 [.int .i64 ax, .int .i64 ay])
    clear Kk2
    have k3 : Blk U4 (w.heap.size + 1 + 1) #[.int .i64 ax, .int .i64 ay] 44 := by rw [hU4]; exact Blk.drew (blk_full _ [.int .i64 ax, .int .i64 ay] (blk_setL Kk3.out (by omega) 0 [.int .i64 bx, .int .i64 b_y]) rfl)
    clear Kk3
    replace hb0 : Below w.heap.size w U4 := by rw [hU4]; exact Below.drew (blw_setL (blw_setL hb0 (by omega) 0 [.int .i64 bx, .int .i64 b_y]) (by omega) 0 [.int .i64 ax, .int .i64 ay])
    clear hU4
    have e0 : bx = R0 := by rw [← HR0.out]; unfold lwx; (try rw [Hr1.out]); (try rw [hz2]); all_goals first | rfl | simp
    have e1 : b_y = R1 := by rw [← HR1.out]; unfold lwy; (try rw [Hr1.out]); (try rw [hz2]); all_goals first | rfl | simp
    have e2 : ax = R2 := by rw [← HR2.out]; unfold hgx; (try rw [Hr1.out]); (try rw [hz2]); all_goals first | rfl | simp
    have e3 : ay = R3 := by rw [← HR3.out]; unfold hgy; (try rw [Hr1.out]); (try rw [hz2]); all_goals first | rfl | simp
    subst e0; subst e1; subst e2; subst e3
    go_wp2
    have g2_0 : U4.cell? ⟨w.heap.size + 1, 0, none⟩ = some (.int .i64 bx) := k2.cell 0; have g2_1 : U4.cell? ⟨w.heap.size + 1, 1, none⟩ = some (.int .i64 b_y) := k2.cell 1; have g3_0 : U4.cell? ⟨w.heap.size + 1 + 1, 0, none⟩ = some (.int .i64 ax) := k3.cell 0; have g3_1 : U4.cell? ⟨w.heap.size + 1 + 1, 1, none⟩ = some (.int .i64 ay) := k3.cell 1; clear k1 k2 k3
    simp [bodyPost, results, Try.results62, go_sem, g2_0, g2_1, g3_0, g3_1]
    first | exact hb0 | exact ⟨rfl, hb0⟩
end Go.Proofs.Ytkaolhlmimalkaa

namespace Go.Proofs.Ytkaolhlmimalkaa
open Go.RowKit

def atx (x : Int) (y : Int) : Int := (bif (rp x y) then x else 0)

def aty (x : Int) (y : Int) : Int := (bif (rp x y) then y else 0)

def atw (x : Int) (y : Int) : Int := (bif (rp x y) then 1 else 0)

theorem atx_in (x : Int) (y : Int) (_ix : In64 x) (_iy : In64 y) : InI (atx x y) := by
  unfold atx
  exact (cond_in (in64_I' _ix) in_0)

theorem aty_in (x : Int) (y : Int) (_ix : In64 x) (_iy : In64 y) : InI (aty x y) := by
  unfold aty
  exact (cond_in (in64_I' _iy) in_0)

theorem atw_in (x : Int) (y : Int) (_ix : In64 x) (_iy : In64 y) : InI (atw x y) := by
  unfold atw
  exact (cond_in (by unfold InI b255; omega) in_0)

set_option maxRecDepth 100000 in
set_option maxHeartbeats 4000000 in

theorem crAt_is (x : Int) (y : Int)  (R0 : Int) (R1 : Int) (R2 : Int) (hR0 : atx x y = R0) (hR1 : aty x y = R1) (hR2 : atw x y = R2) (_ix : In64 x) (_iy : In64 y)  (w : World)  :
    Calls Try.prog 11 #[.agg #[.int .i64 x, .int .i64 y]] w fun e w' => e = .returned (.agg #[.int .u64 (wd0 R0), .int .u64 (wd1 R0), .int .u64 (wd2 R0), .int .u64 (wd3 R0), .int .u64 (wd0 R1), .int .u64 (wd1 R1), .int .u64 (wd2 R1), .int .u64 (wd3 R1), .int .u64 (wd0 R2), .int .u64 (wd1 R2), .int .u64 (wd2 R2), .int .u64 (wd3 R2)]) ∧ Below w.heap.size w w' := by

  have HR0 := Lib.hid hR0; clear hR0; have HR1 := Lib.hid hR1; clear hR1; have HR2 := Lib.hid hR2; clear hR2
  go_enter Try.func11, Try.ntmps11
  go_wp2_with fail
  first | refine calls_w ?_ | refine name_world ?_ | refine list_world ?_ | refine post_world ?_
  intro V1 hV1
  have hn : Below w.heap.size w V1 := by rw [hV1]; exact below_a2 _ _ _
  have nhb0 := hn
  have k1 : Blk V1 w.heap.size #[.int .i64 x, .int .i64 y] 44 := by rw [hV1]; exact ((Blk.new _ _ _).alloc _)
  have k2 : Blk V1 (w.heap.size + 1) #[.int .u64 0, .int .u64 0, .int .u64 0, .int .u64 0, .int .u64 0, .int .u64 0, .int .u64 0, .int .u64 0, .int .u64 0, .int .u64 0, .int .u64 0, .int .u64 0] 36 := by rw [hV1]; exact (Blk.new1 _ _ _ _)
  clear hV1; have hb0 := nhb0; clear nhb0
  obtain ⟨z1, hz1⟩ : ∃ o_o : Bool, rp x y = o_o := ⟨_, rfl⟩
  have Hz1 := Lib.hid hz1; clear hz1
  refine (PtRight_v x y z1 Hz1.out _).mono ?_
  rintro e U2 ⟨rfl, hn⟩
  replace k1 := k1.of hn; replace k2 := k2.of hn
  replace hb0 := hb0.trans (hn.mono hb0.size)
  clear hn
  cases z1
  · have c2_0 : U2.cell? ⟨w.heap.size + 1, 0, none⟩ = some (.int .u64 0) := k2.cell 0
    have c2_1 : U2.cell? ⟨w.heap.size + 1, 1, none⟩ = some (.int .u64 0) := k2.cell 1; have c2_2 : U2.cell? ⟨w.heap.size + 1, 2, none⟩ = some (.int .u64 0) := k2.cell 2; have c2_3 : U2.cell? ⟨w.heap.size + 1, 3, none⟩ = some (.int .u64 0) := k2.cell 3; have c2_4 : U2.cell? ⟨w.heap.size + 1, 4, none⟩ = some (.int .u64 0) := k2.cell 4; have c2_5 : U2.cell? ⟨w.heap.size + 1, 5, none⟩ = some (.int .u64 0) := k2.cell 5; have c2_6 : U2.cell? ⟨w.heap.size + 1, 6, none⟩ = some (.int .u64 0) := k2.cell 6; have c2_7 : U2.cell? ⟨w.heap.size + 1, 7, none⟩ = some (.int .u64 0) := k2.cell 7
    have c2_8 : U2.cell? ⟨w.heap.size + 1, 8, none⟩ = some (.int .u64 0) := k2.cell 8; have c2_9 : U2.cell? ⟨w.heap.size + 1, 9, none⟩ = some (.int .u64 0) := k2.cell 9; have c2_10 : U2.cell? ⟨w.heap.size + 1, 10, none⟩ = some (.int .u64 0) := k2.cell 10; have c2_11 : U2.cell? ⟨w.heap.size + 1, 11, none⟩ = some (.int .u64 0) := k2.cell 11; obtain ⟨f2_0, f2_1, f2_2, f2_3, f2_4, f2_5, f2_6, f2_7, f2_8, f2_9, f2_10, f2_11⟩ := fre12 k2; have l2 := k2.lt
    have e0 : 0 = R0 := by rw [← HR0.out]; unfold atx; (try rw [Hz1.out]); all_goals first | rfl | simp
    have e1 : 0 = R1 := by rw [← HR1.out]; unfold aty; (try rw [Hz1.out]); all_goals first | rfl | simp
    have e2 : 0 = R2 := by rw [← HR2.out]; unfold atw; (try rw [Hz1.out]); all_goals first | rfl | simp
    subst e0; subst e1; subst e2
    go_wp2
    clear c2_0 c2_1 c2_2 c2_3 c2_4 c2_5 c2_6 c2_7 c2_8 c2_9 c2_10 c2_11 f2_0 f2_1 f2_2 f2_3 f2_4 f2_5 f2_6 f2_7 f2_8 f2_9 f2_10 f2_11 l2
    first | refine post_world ?_
    intro V3 hV3
    have D1 := Lib.hid k1.lt; have D2 := Lib.hid k2.lt; have D3 := Lib.hid hb0.size; clear k1
    have nk2 : Blk V3 (w.heap.size + 1) #[.int .u64 0, .int .u64 0, .int .u64 0, .int .u64 0, .int .u64 0, .int .u64 0, .int .u64 0, .int .u64 0, .int .u64 0, .int .u64 0, .int .u64 0, .int .u64 0] 36 := by rw [hV3]; exact (blk_full _ [.int .u64 0, .int .u64 0, .int .u64 0, .int .u64 0, .int .u64 0, .int .u64 0, .int .u64 0, .int .u64 0, .int .u64 0, .int .u64 0, .int .u64 0, .int .u64 0] k2 rfl)
    have nhb0 : Below w.heap.size w V3 := by rw [hV3]; exact (blw_setL hb0 (by omega) 0 [.int .u64 0, .int .u64 0, .int .u64 0, .int .u64 0, .int .u64 0, .int .u64 0, .int .u64 0, .int .u64 0, .int .u64 0, .int .u64 0, .int .u64 0, .int .u64 0])
    clear k2; clear hb0; clear hV3; have k2 := nk2; clear nk2; have hb0 := nhb0; clear nhb0; obtain ⟨g2_0, g2_1, g2_2, g2_3, g2_4, g2_5, g2_6, g2_7, g2_8, g2_9, g2_10, g2_11⟩ := cel12 k2; clear k2
    simp [bodyPost, results, Try.results11, go_sem, g2_0, g2_1, g2_2, g2_3, g2_4, g2_5, g2_6, g2_7, g2_8, g2_9, g2_10, g2_11, wd0_0, wd1_0, wd2_0, wd3_0]
    first | exact hb0 | exact ⟨rfl, hb0⟩
  · go_wp2_with fail
    have c1_0 : U2.cell? ⟨w.heap.size, 0, none⟩ = some (.int .i64 x) := k1.cell 0; have c1_1 : U2.cell? ⟨w.heap.size, 1, none⟩ = some (.int .i64 y) := k1.cell 1; have l1 := k1.lt; have Kk1 := Lib.hid k1; clear k1; have Kk2 := Lib.hid k2; clear k2
    refine wp_region_up U2.heap.size 5 [(true, 0), (true, 1), (true, 3), (true, 4), (false, 2)] (by kernel_rfl) (by kernel_rfl) (fun _ _ d _ _ h => by cases d <;> exact h) ?_
    have hb : Below U2.heap.size U2 U2.drew := (Below.refl _ _).drew
    iterate 4
      refine wpS_takeL rfl rfl ?_
      go_big_quiet_step (rfl)
      refine wpQuiet_nil ?_
    refine wpS_doL rfl ?_
    intro K hK
    go_wp2_with ((go_at_call 27; (with_reducible refine (Of_v x x rfl _ix _).mono ?_); rintro e w2 ⟨rfl, hn⟩))
    replace hb := hb.trans (hn.mono hb.size)
    refine hK.out _ _ (up_iff.2 hb) ?_
    clear hK K; clear hn
    refine wpS_nil ?_
    simp only [List.drop_succ_cons, List.drop_zero]
    first | refine calls_w ?_ | refine name_world ?_ | refine list_world ?_ | refine post_world ?_
    intro U4 hU4
    first | subst hU4 | (rw [← hU4] at hb; clear hU4)
    clear c1_0 c1_1 l1; have k1 := Kk1.out.of hb; clear Kk1; have k2 := Kk2.out.of hb; clear Kk2
    replace hb0 := hb0.trans (hb.mono hb0.size)
    clear hb
    go_wp2_with fail
    refine (Of_v y y rfl _iy _).mono ?_
    rintro e U5 ⟨rfl, hn⟩
    clear k1; replace k2 := k2.of hn
    replace hb0 := hb0.trans (hn.mono hb0.size)
    clear hn
    go_wp2_with fail
    refine (Of_v 1 1 rfl (by unfold In64; omega) _).mono ?_
    rintro e U6 ⟨rfl, hn⟩
    replace k2 := k2.of hn
    replace hb0 := hb0.trans (hn.mono hb0.size)
    clear hn; obtain ⟨c2_0, c2_1, c2_2, c2_3, c2_4, c2_5, c2_6, c2_7, c2_8, c2_9, c2_10, c2_11⟩ := cel12 k2; obtain ⟨f2_0, f2_1, f2_2, f2_3, f2_4, f2_5, f2_6, f2_7, f2_8, f2_9, f2_10, f2_11⟩ := fre12 k2; have l2 := k2.lt
    have e0 : x = R0 := by rw [← HR0.out]; unfold atx; (try rw [Hz1.out]); all_goals first | rfl | simp
    have e1 : y = R1 := by rw [← HR1.out]; unfold aty; (try rw [Hz1.out]); all_goals first | rfl | simp
    have e2 : 1 = R2 := by rw [← HR2.out]; unfold atw; (try rw [Hz1.out]); all_goals first | rfl | simp
    subst e0; subst e1; subst e2
    go_wp2
    clear c2_0 c2_1 c2_2 c2_3 c2_4 c2_5 c2_6 c2_7 c2_8 c2_9 c2_10 c2_11 f2_0 f2_1 f2_2 f2_3 f2_4 f2_5 f2_6 f2_7 f2_8 f2_9 f2_10 f2_11 l2
    first | refine post_world ?_
    intro V7 hV7
    have D4 := Lib.hid k2.lt; have D5 := Lib.hid hb0.size
    have nk2 : Blk V7 (w.heap.size + 1) #[.int .u64 (wd0 x), .int .u64 (wd1 x), .int .u64 (wd2 x), .int .u64 (wd3 x), .int .u64 (wd0 y), .int .u64 (wd1 y), .int .u64 (wd2 y), .int .u64 (wd3 y), .int .u64 (wd0 1), .int .u64 (wd1 1), .int .u64 (wd2 1), .int .u64 (wd3 1)] 36 := by rw [hV7]; exact (blk_full _ [.int .u64 (wd0 x), .int .u64 (wd1 x), .int .u64 (wd2 x), .int .u64 (wd3 x), .int .u64 (wd0 y), .int .u64 (wd1 y), .int .u64 (wd2 y), .int .u64 (wd3 y), .int .u64 (wd0 1), .int .u64 (wd1 1), .int .u64 (wd2 1), .int .u64 (wd3 1)] k2 rfl)
    have nhb0 : Below w.heap.size w V7 := by rw [hV7]; exact (blw_setL hb0 (by omega) 0 [.int .u64 (wd0 x), .int .u64 (wd1 x), .int .u64 (wd2 x), .int .u64 (wd3 x), .int .u64 (wd0 y), .int .u64 (wd1 y), .int .u64 (wd2 y), .int .u64 (wd3 y), .int .u64 (wd0 1), .int .u64 (wd1 1), .int .u64 (wd2 1), .int .u64 (wd3 1)])
    clear k2; clear hb0; clear hV7; have k2 := nk2; clear nk2; have hb0 := nhb0; clear nhb0; obtain ⟨g2_0, g2_1, g2_2, g2_3, g2_4, g2_5, g2_6, g2_7, g2_8, g2_9, g2_10, g2_11⟩ := cel12 k2; clear k2
    simp [bodyPost, results, Try.results11, go_sem, g2_0, g2_1, g2_2, g2_3, g2_4, g2_5, g2_6, g2_7, g2_8, g2_9, g2_10, g2_11]
    first | exact hb0 | exact ⟨rfl, hb0⟩

theorem alCr1_0 : AllocRuns Try.prog 34 #[.int .u64 0, .int .u64 0, .int .u64 0, .int .u64 0] := fun w => by kernel_rfl

def spR (x : Int) (y : Int) (v : Int) : Bool := (bif decide ((v.sign) ≤ 0) then false else (bif decide (0 < (cmpI v (mulv 35184372088832 35184372088832))) then false else (bif decide (0 ≤ (cmpI x (subv 0 (mulv v 2199023255552)))) then (bif decide ((cmpI x (mulv v 2199023255552)) ≤ 0) then (bif decide (0 ≤ (cmpI y (subv 0 (mulv v 2199023255552)))) then decide ((cmpI y (mulv v 2199023255552)) ≤ 0) else false) else false) else false)))

set_option maxRecDepth 100000 in
set_option maxHeartbeats 4000000 in

theorem SpRight_is (x : Int) (y : Int) (v : Int)  (R0 : Bool) (hR0 : spR x y v = R0) (_ix : InI x) (_iy : InI y) (_iv : InI v)  (w : World)  :
    Calls Try.prog 20 #[.agg #[.int .u64 (wd0 x), .int .u64 (wd1 x), .int .u64 (wd2 x), .int .u64 (wd3 x), .int .u64 (wd0 y), .int .u64 (wd1 y), .int .u64 (wd2 y), .int .u64 (wd3 y), .int .u64 (wd0 v), .int .u64 (wd1 v), .int .u64 (wd2 v), .int .u64 (wd3 v)]] w fun e w' => e = .returned (.bool R0) ∧ Below w.heap.size w w' := by

  have HR0 := Lib.hid hR0; clear hR0
  go_enter Try.func20, Try.ntmps20
  go_wp2_with fail
  first | refine calls_w ?_ | refine name_world ?_ | refine list_world ?_ | refine post_world ?_
  intro V1 hV1
  have hn : Below w.heap.size w V1 := by rw [hV1]; exact below_a1 _ _
  have nhb0 := hn
  have k1 : Blk V1 w.heap.size #[.int .u64 (wd0 x), .int .u64 (wd1 x), .int .u64 (wd2 x), .int .u64 (wd3 x), .int .u64 (wd0 y), .int .u64 (wd1 y), .int .u64 (wd2 y), .int .u64 (wd3 y), .int .u64 (wd0 v), .int .u64 (wd1 v), .int .u64 (wd2 v), .int .u64 (wd3 v)] 36 := by rw [hV1]; exact (Blk.new _ _ _)
  clear hV1; have hb0 := nhb0; clear nhb0
  obtain ⟨r1, hr1⟩ : ∃ o_o : Int, v.sign = o_o := ⟨_, rfl⟩
  have Hr1 := Lib.hid hr1; clear hr1
  obtain ⟨z2, hz2⟩ : ∃ o_o : Bool, decide (r1 ≤ 0) = o_o := ⟨_, rfl⟩
  cases z2
  · obtain ⟨r3, hr3⟩ : ∃ o_o : Int, mulv 35184372088832 35184372088832 = o_o := ⟨_, rfl⟩
    have Hr3 := Lib.hid hr3; clear hr3; have c1_8 : V1.cell? ⟨w.heap.size, 8, none⟩ = some (.int .u64 (wd0 v)) := k1.cell 8; have c1_9 : V1.cell? ⟨w.heap.size, 9, none⟩ = some (.int .u64 (wd1 v)) := k1.cell 9; have c1_10 : V1.cell? ⟨w.heap.size, 10, none⟩ = some (.int .u64 (wd2 v)) := k1.cell 10; have c1_11 : V1.cell? ⟨w.heap.size, 11, none⟩ = some (.int .u64 (wd3 v)) := k1.cell 11; have l1 := k1.lt; have Kk1 := Lib.hid k1; clear k1
    refine wp_region_up V1.heap.size 10 [(true, 0), (true, 1), (false, 2), (true, 3), (true, 4), (true, 5), (true, 6), (false, 7), (false, 8), (false, 9)] (by kernel_rfl) (by kernel_rfl) (fun _ _ d _ _ h => by cases d <;> exact h) ?_
    have hb : Below V1.heap.size V1 V1.drew := (Below.refl _ _).drew
    iterate 2
      refine wpS_takeL rfl rfl ?_
      go_big_quiet_step (rfl)
      refine wpQuiet_nil ?_
    refine wpS_doL rfl ?_
    intro K hK
    go_wp2_with ((go_at_call 52; (with_reducible refine (Sign_v v r1 Hr1.out _iv _).mono ?_); rintro e w2 ⟨rfl, hn⟩))
    replace hb := hb.trans (hn.mono hb.size)
    refine hK.out _ _ (up_iff.2 hb) ?_
    clear hK K; clear hn
    iterate 4
      refine wpS_takeL rfl rfl ?_
      go_big_quiet_step (rfl)
      refine wpQuiet_nil ?_
    refine wpS_doL rfl ?_
    intro K hK
    go_wp2_with ((go_at_call 27; (with_reducible refine (Of_v 35184372088832 35184372088832 rfl (by unfold In64; omega) _).mono ?_); rintro e w2 ⟨rfl, hn⟩))
    try replace hb := hb.trans (hn.mono hb.size)
    refine hK.out _ _ (up_iff.2 hb) ?_
    clear hK K
    try clear hn
    refine wpS_doL rfl ?_
    intro K hK
    go_wp2_with ((go_at_call 27; (with_reducible refine (Of_v 35184372088832 35184372088832 rfl (by unfold In64; omega) _).mono ?_); rintro e w2 ⟨rfl, hn⟩))
    try replace hb := hb.trans (hn.mono hb.size)
    refine hK.out _ _ (up_iff.2 hb) ?_
    clear hK K
    try clear hn
    refine wpS_doL rfl ?_
    intro K hK
    go_wp2_with ((go_at_call 22; (with_reducible refine (crtimes_is 35184372088832 35184372088832 r3 Hr3.out (by unfold InI b255; omega) (by unfold InI b255; omega)  _).mono ?_); rintro e w2 ⟨rfl, hn⟩))
    try replace hb := hb.trans (hn.mono hb.size)
    refine hK.out _ _ (up_iff.2 hb) ?_
    clear hK K
    try clear hn
    refine wpS_nil ?_
    simp only [List.drop_succ_cons, List.drop_zero]
    first | refine calls_w ?_ | refine name_world ?_ | refine list_world ?_ | refine post_world ?_
    intro U2 hU2
    first | subst hU2 | (rw [← hU2] at hb; clear hU2)
    clear c1_8 c1_9 c1_10 c1_11 l1; have k1 := Kk1.out.of hb; clear Kk1
    replace hb0 := hb0.trans (hb.mono hb0.size)
    clear hb
    go_wp2_with fail
    obtain ⟨r4, hr4⟩ : ∃ o_o : Int, cmpI v r3 = o_o := ⟨_, rfl⟩
    have Hr4 := Lib.hid hr4; clear hr4
    refine (Cmp_v v r3 r4 Hr4.out _iv (Hr3.out ▸ mulv_in 35184372088832 35184372088832) _).mono ?_
    rintro e U3 ⟨rfl, hn⟩
    replace k1 := k1.of hn
    replace hb0 := hb0.trans (hn.mono hb0.size)
    clear hn
    obtain ⟨z5, hz5⟩ : ∃ o_o : Bool, decide (0 < r4) = o_o := ⟨_, rfl⟩
    cases z5
    · go_wp2_with fail
      obtain ⟨r6, hr6⟩ : ∃ o_o : Int, mulv v 2199023255552 = o_o := ⟨_, rfl⟩
      have Hr6 := Lib.hid hr6; clear hr6; have c1_8 : U3.cell? ⟨w.heap.size, 8, none⟩ = some (.int .u64 (wd0 v)) := k1.cell 8; have c1_9 : U3.cell? ⟨w.heap.size, 9, none⟩ = some (.int .u64 (wd1 v)) := k1.cell 9; have c1_10 : U3.cell? ⟨w.heap.size, 10, none⟩ = some (.int .u64 (wd2 v)) := k1.cell 10; have c1_11 : U3.cell? ⟨w.heap.size, 11, none⟩ = some (.int .u64 (wd3 v)) := k1.cell 11; have l1 := k1.lt; have Kk1 := Lib.hid k1; clear k1
      refine wp_region_float1 5 4 [(true, 0), (true, 1), (false, 2), (false, 3)] (by kernel_rfl) (by kernel_rfl) (fun _ _ d _ _ => by cases d <;> exact Iff.rfl) rfl rfl rfl alCr1_0 ?_
      have hb : Below U3.heap.size U3 U3.drew := (Below.refl _ _).drew
      iterate 2
        refine wpF_take rfl rfl ?_
        go_big_quiet_step (rfl)
        refine wpQuiet_nil ?_
      refine wpF_do rfl ?_
      intro w1 hg K hK
      replace hb := hb.trans (hg.mono hb.size)
      clear hg
      go_wp2_with ((go_at_call 27; (with_reducible refine (Of_v 2199023255552 2199023255552 rfl (by unfold In64; omega) _).mono ?_); rintro e w2 ⟨rfl, hn⟩))
      refine hK.out _ _ hn ?_
      replace hb := hb.trans (hn.mono hb.size)
      clear hK K; clear hn
      refine wpF_do rfl ?_
      intro w1 hg K hK
      replace hb := hb.trans (hg.mono hb.size)
      clear hg
      go_wp2_with ((go_at_call 22; (with_reducible refine (crtimes_is v 2199023255552 r6 Hr6.out _iv (by unfold InI b255; omega)  _).mono ?_); rintro e w2 ⟨rfl, hn⟩))
      refine hK.out _ _ hn ?_
      replace hb := hb.trans (hn.mono hb.size)
      clear hK K; clear hn
      refine wpF_nil ?_
      clear hb
      intro w1 hg hb b1 lb1 nb1
      clear hg
      simp only [Act.put, ptrTo, List.setIfInBounds_toArray, List.set_cons_succ, List.set_cons_zero]
      simp only [List.drop_succ_cons, List.drop_zero]
      clear c1_8 c1_9 c1_10 c1_11 l1
      first | refine calls_w ?_ | refine name_world ?_ | refine list_world ?_ | refine post_world ?_
      intro U4 hU4
      subst hU4; have D1 := Lib.hid Kk1.out.lt; have D2 := Lib.hid hb0.size; have k2 : Blk U4 b1 #[.int .u64 0, .int .u64 0, .int .u64 0, .int .u64 0] 34 := nb1; have k1 := Kk1.out.of hb; clear Kk1; have D3 := Lib.hid lb1; clear nb1 lb1
      replace hb0 := hb0.trans (hb.mono hb0.size)
      clear hb
      generalize b1 = q2 at *
      have c2_0 : U4.cell? ⟨q2, 0, none⟩ = some (.int .u64 0) := k2.cell 0; have c2_1 : U4.cell? ⟨q2, 1, none⟩ = some (.int .u64 0) := k2.cell 1; have c2_2 : U4.cell? ⟨q2, 2, none⟩ = some (.int .u64 0) := k2.cell 2; have c2_3 : U4.cell? ⟨q2, 3, none⟩ = some (.int .u64 0) := k2.cell 3; obtain ⟨f2_0, f2_1, f2_2, f2_3⟩ := fre4 k2; have l2 := k2.lt
      go_wp2_with fail
      clear c2_0 c2_1 c2_2 c2_3 f2_0 f2_1 f2_2 f2_3 l2
      first | refine calls_w ?_ | refine name_world ?_ | refine list_world ?_ | refine post_world ?_
      intro V5 hV5
      have D4 := Lib.hid k1.lt; have D5 := Lib.hid k2.lt; have D6 := Lib.hid hb0.size
      have nk1 : Blk V5 w.heap.size #[.int .u64 (wd0 x), .int .u64 (wd1 x), .int .u64 (wd2 x), .int .u64 (wd3 x), .int .u64 (wd0 y), .int .u64 (wd1 y), .int .u64 (wd2 y), .int .u64 (wd3 y), .int .u64 (wd0 v), .int .u64 (wd1 v), .int .u64 (wd2 v), .int .u64 (wd3 v)] 36 := by rw [hV5]; exact (blk_setL k1 (by have := D1.out; have := D3.out; omega) 0 [.int .u64 (wd0 r6), .int .u64 (wd1 r6), .int .u64 (wd2 r6), .int .u64 (wd3 r6)])
      have nk2 : Blk V5 q2 #[.int .u64 (wd0 r6), .int .u64 (wd1 r6), .int .u64 (wd2 r6), .int .u64 (wd3 r6)] 34 := by rw [hV5]; exact (blk_full _ [.int .u64 (wd0 r6), .int .u64 (wd1 r6), .int .u64 (wd2 r6), .int .u64 (wd3 r6)] k2 rfl)
      have nhb0 : Below w.heap.size w V5 := by rw [hV5]; exact (blw_setL hb0 (by have := D2.out; have := D3.out; omega) 0 [.int .u64 (wd0 r6), .int .u64 (wd1 r6), .int .u64 (wd2 r6), .int .u64 (wd3 r6)])
      clear k1 k2; clear hb0; clear hV5; have k1 := nk1; clear nk1; have k2 := nk2; clear nk2; have hb0 := nhb0; clear nhb0
      obtain ⟨r7, hr7⟩ : ∃ o_o : Int, subv 0 r6 = o_o := ⟨_, rfl⟩
      have Hr7 := Lib.hid hr7; clear hr7
      refine (args_eq (a' := #[.agg #[.int .u64 0, .int .u64 0, .int .u64 0, .int .u64 0], .agg #[.int .u64 (wd0 r6), .int .u64 (wd1 r6), .int .u64 (wd2 r6), .int .u64 (wd3 r6)]]) (crless_is 0 r6 r7 Hr7.out (by unfold InI b255; omega) (Hr6.out ▸ mulv_in v 2199023255552)  _) (by kernel_rfl)).mono ?_
      rintro e U6 ⟨rfl, hn⟩
      replace k1 := k1.of hn; replace k2 := k2.of hn
      replace hb0 := hb0.trans (hn.mono hb0.size)
      clear hn; have c1_0 : U6.cell? ⟨w.heap.size, 0, none⟩ = some (.int .u64 (wd0 x)) := k1.cell 0; have c1_1 : U6.cell? ⟨w.heap.size, 1, none⟩ = some (.int .u64 (wd1 x)) := k1.cell 1; have c1_2 : U6.cell? ⟨w.heap.size, 2, none⟩ = some (.int .u64 (wd2 x)) := k1.cell 2; have c1_3 : U6.cell? ⟨w.heap.size, 3, none⟩ = some (.int .u64 (wd3 x)) := k1.cell 3; have l1 := k1.lt
      go_wp2_with fail
      clear c1_0 c1_1 c1_2 c1_3 l1
      first | refine calls_w ?_ | refine name_world ?_ | refine list_world ?_ | refine post_world ?_
      intro V7 hV7
      have D7 := Lib.hid k1.lt; have D8 := Lib.hid k2.lt; have D9 := Lib.hid hb0.size
      have hn : Below U6.heap.size U6 V7 := by rw [hV7]; exact below_a1 _ _
      have nk1 := k1.of hn; have nk2 := k2.of hn
      have nhb0 := hb0.trans (hn.mono hb0.size)
      clear hn
      have k3 : Blk V7 U6.heap.size #[.int .u64 (wd0 r7), .int .u64 (wd1 r7), .int .u64 (wd2 r7), .int .u64 (wd3 r7)] 34 := by rw [hV7]; exact (Blk.new _ _ _)
      clear k1 k2; clear hb0; clear hV7; have k1 := nk1; clear nk1; have k2 := nk2; clear nk2; have hb0 := nhb0; clear nhb0
      obtain ⟨r8, hr8⟩ : ∃ o_o : Int, cmpI x r7 = o_o := ⟨_, rfl⟩
      have Hr8 := Lib.hid hr8; clear hr8
      refine (Cmp_v x r7 r8 Hr8.out _ix (Hr7.out ▸ subv_in 0 r6) _).mono ?_
      rintro e U8 ⟨rfl, hn⟩
      replace k1 := k1.of hn; replace k2 := k2.of hn; replace k3 := k3.of hn
      replace hb0 := hb0.trans (hn.mono hb0.size)
      clear hn
      obtain ⟨z9, hz9⟩ : ∃ o_o : Bool, decide (0 ≤ r8) = o_o := ⟨_, rfl⟩
      cases z9
      · have e0 : false = R0 := by rw [← HR0.out]; unfold spR; (try rw [Hr1.out]); (try rw [hz2]); (try rw [Hr3.out]); (try rw [Hr4.out]); (try rw [hz5]); (try rw [Hr6.out]); (try rw [Hr7.out]); (try rw [Hr8.out]); (try rw [hz9]); all_goals first | rfl | simp
        subst e0
        go_wp2
        first | go_ret | go_ret2
        exact ⟨by first | rfl | simp, hb0⟩
      · have c1_0 : U8.cell? ⟨w.heap.size, 0, none⟩ = some (.int .u64 (wd0 x)) := k1.cell 0
        have c1_1 : U8.cell? ⟨w.heap.size, 1, none⟩ = some (.int .u64 (wd1 x)) := k1.cell 1; have c1_2 : U8.cell? ⟨w.heap.size, 2, none⟩ = some (.int .u64 (wd2 x)) := k1.cell 2; have c1_3 : U8.cell? ⟨w.heap.size, 3, none⟩ = some (.int .u64 (wd3 x)) := k1.cell 3; have l1 := k1.lt; have c2_0 : U8.cell? ⟨q2, 0, none⟩ = some (.int .u64 (wd0 r6)) := k2.cell 0; have c2_1 : U8.cell? ⟨q2, 1, none⟩ = some (.int .u64 (wd1 r6)) := k2.cell 1; have c2_2 : U8.cell? ⟨q2, 2, none⟩ = some (.int .u64 (wd2 r6)) := k2.cell 2; have c2_3 : U8.cell? ⟨q2, 3, none⟩ = some (.int .u64 (wd3 r6)) := k2.cell 3; have l2 := k2.lt
        go_wp2_with fail
        clear c1_0 c1_1 c1_2 c1_3 l1 c2_0 c2_1 c2_2 c2_3 l2
        obtain ⟨r10, hr10⟩ : ∃ o_o : Int, cmpI x r6 = o_o := ⟨_, rfl⟩
        have Hr10 := Lib.hid hr10; clear hr10
        refine (Cmp_v x r6 r10 Hr10.out _ix (Hr6.out ▸ mulv_in v 2199023255552) _).mono ?_
        rintro e U9 ⟨rfl, hn⟩
        replace k1 := k1.of hn; replace k2 := k2.of hn; replace k3 := k3.of hn
        replace hb0 := hb0.trans (hn.mono hb0.size)
        clear hn
        obtain ⟨z11, hz11⟩ : ∃ o_o : Bool, decide (r10 ≤ 0) = o_o := ⟨_, rfl⟩
        cases z11
        · have e0 : false = R0 := by rw [← HR0.out]; unfold spR; (try rw [Hr1.out]); (try rw [hz2]); (try rw [Hr3.out]); (try rw [Hr4.out]); (try rw [hz5]); (try rw [Hr6.out]); (try rw [Hr7.out]); (try rw [Hr8.out]); (try rw [hz9]); (try rw [Hr10.out]); (try rw [hz11]); all_goals first | rfl | simp
          subst e0
          go_wp2
          first | go_ret | go_ret2
          exact ⟨by first | rfl | simp, hb0⟩
        · have c1_4 : U9.cell? ⟨w.heap.size, 4, none⟩ = some (.int .u64 (wd0 y)) := k1.cell 4
          have c1_5 : U9.cell? ⟨w.heap.size, 5, none⟩ = some (.int .u64 (wd1 y)) := k1.cell 5; have c1_6 : U9.cell? ⟨w.heap.size, 6, none⟩ = some (.int .u64 (wd2 y)) := k1.cell 6; have c1_7 : U9.cell? ⟨w.heap.size, 7, none⟩ = some (.int .u64 (wd3 y)) := k1.cell 7; have l1 := k1.lt; have c3_0 : U9.cell? ⟨U6.heap.size, 0, none⟩ = some (.int .u64 (wd0 r7)) := k3.cell 0; have c3_1 : U9.cell? ⟨U6.heap.size, 1, none⟩ = some (.int .u64 (wd1 r7)) := k3.cell 1; have c3_2 : U9.cell? ⟨U6.heap.size, 2, none⟩ = some (.int .u64 (wd2 r7)) := k3.cell 2
          have c3_3 : U9.cell? ⟨U6.heap.size, 3, none⟩ = some (.int .u64 (wd3 r7)) := k3.cell 3; have l3 := k3.lt
          go_wp2_with fail
          clear c1_4 c1_5 c1_6 c1_7 l1 c3_0 c3_1 c3_2 c3_3 l3
          obtain ⟨r12, hr12⟩ : ∃ o_o : Int, cmpI y r7 = o_o := ⟨_, rfl⟩
          have Hr12 := Lib.hid hr12; clear hr12
          refine (Cmp_v y r7 r12 Hr12.out _iy (Hr7.out ▸ subv_in 0 r6) _).mono ?_
          rintro e U10 ⟨rfl, hn⟩
          clear k3; replace k1 := k1.of hn; replace k2 := k2.of hn
          replace hb0 := hb0.trans (hn.mono hb0.size)
          clear hn
          obtain ⟨z13, hz13⟩ : ∃ o_o : Bool, decide (0 ≤ r12) = o_o := ⟨_, rfl⟩
          cases z13
          · have e0 : false = R0 := by rw [← HR0.out]; unfold spR; (try rw [Hr1.out]); (try rw [hz2]); (try rw [Hr3.out]); (try rw [Hr4.out]); (try rw [hz5]); (try rw [Hr6.out]); (try rw [Hr7.out]); (try rw [Hr8.out]); (try rw [hz9]); (try rw [Hr10.out]); (try rw [hz11]); (try rw [Hr12.out]); (try rw [hz13]); all_goals first | rfl | simp
            subst e0
            go_wp2
            first | go_ret | go_ret2
            exact ⟨by first | rfl | simp, hb0⟩
          · have c1_4 : U10.cell? ⟨w.heap.size, 4, none⟩ = some (.int .u64 (wd0 y)) := k1.cell 4
            have c1_5 : U10.cell? ⟨w.heap.size, 5, none⟩ = some (.int .u64 (wd1 y)) := k1.cell 5; have c1_6 : U10.cell? ⟨w.heap.size, 6, none⟩ = some (.int .u64 (wd2 y)) := k1.cell 6; have c1_7 : U10.cell? ⟨w.heap.size, 7, none⟩ = some (.int .u64 (wd3 y)) := k1.cell 7; have l1 := k1.lt; have c2_0 : U10.cell? ⟨q2, 0, none⟩ = some (.int .u64 (wd0 r6)) := k2.cell 0; have c2_1 : U10.cell? ⟨q2, 1, none⟩ = some (.int .u64 (wd1 r6)) := k2.cell 1; have c2_2 : U10.cell? ⟨q2, 2, none⟩ = some (.int .u64 (wd2 r6)) := k2.cell 2; have c2_3 : U10.cell? ⟨q2, 3, none⟩ = some (.int .u64 (wd3 r6)) := k2.cell 3
            have l2 := k2.lt
            go_wp2_with fail
            clear c1_4 c1_5 c1_6 c1_7 l1 c2_0 c2_1 c2_2 c2_3 l2
            obtain ⟨r14, hr14⟩ : ∃ o_o : Int, cmpI y r6 = o_o := ⟨_, rfl⟩
            have Hr14 := Lib.hid hr14; clear hr14
            refine (Cmp_v y r6 r14 Hr14.out _iy (Hr6.out ▸ mulv_in v 2199023255552) _).mono ?_
            rintro e U11 ⟨rfl, hn⟩
            clear k1 k2
            replace hb0 := hb0.trans (hn.mono hb0.size)
            clear hn
            have e0 : decide (r14 ≤ 0) = R0 := by rw [← HR0.out]; unfold spR; (try rw [Hr1.out]); (try rw [hz2]); (try rw [Hr3.out]); (try rw [Hr4.out]); (try rw [hz5]); (try rw [Hr6.out]); (try rw [Hr7.out]); (try rw [Hr8.out]); (try rw [hz9]); (try rw [Hr10.out]); (try rw [hz11]); (try rw [Hr12.out]); (try rw [hz13]); (try rw [Hr14.out]); all_goals first | rfl | simp
            subst e0
            go_wp2
            first | go_ret | go_ret2
            exact ⟨by first | rfl | simp, hb0⟩
    · have e0 : false = R0 := by rw [← HR0.out]; unfold spR; (try rw [Hr1.out]); (try rw [hz2]); (try rw [Hr3.out]); (try rw [Hr4.out]); (try rw [hz5]); all_goals first | rfl | simp
      subst e0
      go_wp2
      first | go_ret | go_ret2
      exact ⟨by first | rfl | simp, hb0⟩
  · have c1_8 : V1.cell? ⟨w.heap.size, 8, none⟩ = some (.int .u64 (wd0 v)) := k1.cell 8
    have c1_9 : V1.cell? ⟨w.heap.size, 9, none⟩ = some (.int .u64 (wd1 v)) := k1.cell 9; have c1_10 : V1.cell? ⟨w.heap.size, 10, none⟩ = some (.int .u64 (wd2 v)) := k1.cell 10; have c1_11 : V1.cell? ⟨w.heap.size, 11, none⟩ = some (.int .u64 (wd3 v)) := k1.cell 11; have l1 := k1.lt; have Kk1 := Lib.hid k1; clear k1
    refine wp_region_up V1.heap.size 10 [(true, 0), (true, 1), (false, 2), (true, 3), (true, 4), (true, 5), (true, 6), (false, 7), (false, 8), (false, 9)] (by kernel_rfl) (by kernel_rfl) (fun _ _ d _ _ h => by cases d <;> exact h) ?_
    have hb : Below V1.heap.size V1 V1.drew := (Below.refl _ _).drew
    iterate 2
      refine wpS_takeL rfl rfl ?_
      go_big_quiet_step (rfl)
      refine wpQuiet_nil ?_
    refine wpS_doL rfl ?_
    intro K hK
    go_wp2_with ((go_at_call 52; (with_reducible refine (Sign_v v r1 Hr1.out _iv _).mono ?_); rintro e w2 ⟨rfl, hn⟩))
    replace hb := hb.trans (hn.mono hb.size)
    refine hK.out _ _ (up_iff.2 hb) ?_
    clear hK K; clear hn
    iterate 4
      refine wpS_takeL rfl rfl ?_
      go_big_quiet_step (rfl)
      refine wpQuiet_nil ?_
    refine wpS_doL rfl ?_
    intro K hK
    go_wp2_with ((go_at_call 52; (with_reducible refine (Sign_v v r1 Hr1.out _iv _).mono ?_); rintro e w2 ⟨rfl, hn⟩))
    try replace hb := hb.trans (hn.mono hb.size)
    refine hK.out _ _ (up_iff.2 hb) ?_
    clear hK K
    try clear hn
    refine wpS_doL rfl ?_
    intro K hK
    go_wp2_with ((go_at_call 52; (with_reducible refine (Sign_v v r1 Hr1.out _iv _).mono ?_); rintro e w2 ⟨rfl, hn⟩))
    try replace hb := hb.trans (hn.mono hb.size)
    refine hK.out _ _ (up_iff.2 hb) ?_
    clear hK K
    try clear hn
    refine wpS_doL rfl ?_
    intro K hK
    go_wp2_with ((go_at_call 52; (with_reducible refine (Sign_v v r1 Hr1.out _iv _).mono ?_); rintro e w2 ⟨rfl, hn⟩))
    try replace hb := hb.trans (hn.mono hb.size)
    refine hK.out _ _ (up_iff.2 hb) ?_
    clear hK K
    try clear hn
    refine wpS_nil ?_
    simp only [List.drop_succ_cons, List.drop_zero]
    first | refine calls_w ?_ | refine name_world ?_ | refine list_world ?_ | refine post_world ?_
    intro U12 hU12
    first | subst hU12 | (rw [← hU12] at hb; clear hU12)
    clear c1_8 c1_9 c1_10 c1_11 l1; have k1 := Kk1.out.of hb; clear Kk1
    replace hb0 := hb0.trans (hb.mono hb0.size)
    clear hb
    have e0 : false = R0 := by rw [← HR0.out]; unfold spR; (try rw [Hr1.out]); (try rw [hz2]); all_goals first | rfl | simp
    subst e0
    go_wp2
    first | go_ret | go_ret2
    exact ⟨by first | rfl | simp, hb0⟩

def wyx (ax : Int) (ay : Int) (bx : Int) (b_y : Int) : Int := ((wrap64 ((hgx ax ay bx b_y) - (lwx ax ay bx b_y))))

def wyy (ax : Int) (ay : Int) (bx : Int) (b_y : Int) : Int := ((wrap64 ((hgy ax ay bx b_y) - (lwy ax ay bx b_y))))

theorem wyx_in (ax : Int) (ay : Int) (bx : Int) (b_y : Int) (_iax : In64 ax) (_iay : In64 ay) (_ibx : In64 bx) (_ib_y : In64 b_y) : InI (wyx ax ay bx b_y) := by
  unfold wyx
  exact (in64_I' (wrap64_in _))

theorem wyy_in (ax : Int) (ay : Int) (bx : Int) (b_y : Int) (_iax : In64 ax) (_iay : In64 ay) (_ibx : In64 bx) (_ib_y : In64 b_y) : InI (wyy ax ay bx b_y) := by
  unfold wyy
  exact (in64_I' (wrap64_in _))

set_option maxRecDepth 100000 in
set_option maxHeartbeats 4000000 in

theorem crway_is (ax : Int) (ay : Int) (bx : Int) (b_y : Int)  (R0 : Int) (R1 : Int) (hR0 : wyx ax ay bx b_y = R0) (hR1 : wyy ax ay bx b_y = R1) (_iax : In64 ax) (_iay : In64 ay) (_ibx : In64 bx) (_ib_y : In64 b_y)  (w : World)  :
    Calls Try.prog 58 #[.agg #[.int .i64 ax, .int .i64 ay, .int .i64 bx, .int .i64 b_y]] w fun e w' => e = .returned (.tuple #[.agg #[.int .u64 (wd0 R0), .int .u64 (wd1 R0), .int .u64 (wd2 R0), .int .u64 (wd3 R0)], .agg #[.int .u64 (wd0 R1), .int .u64 (wd1 R1), .int .u64 (wd2 R1), .int .u64 (wd3 R1)]]) ∧ Below w.heap.size w w' := by

  have HR0 := Lib.hid hR0; clear hR0; have HR1 := Lib.hid hR1; clear hR1
  go_enter Try.func58, Try.ntmps58
  go_wp2_with fail
  first | refine calls_w ?_ | refine name_world ?_ | refine list_world ?_ | refine post_world ?_
  intro V1 hV1
  have hn : Below w.heap.size w V1 := by rw [hV1]; exact below_a3 _ _ _ _
  have nhb0 := hn
  have k1 : Blk V1 w.heap.size #[.int .i64 ax, .int .i64 ay, .int .i64 bx, .int .i64 b_y] 46 := by rw [hV1]; exact (((Blk.new _ _ _).alloc _).alloc _)
  have k2 : Blk V1 (w.heap.size + 1) #[.int .u64 0, .int .u64 0, .int .u64 0, .int .u64 0] 34 := by rw [hV1]; exact ((Blk.new1 _ _ _ _).alloc _)
  have k3 : Blk V1 (w.heap.size + 1 + 1) #[.int .u64 0, .int .u64 0, .int .u64 0, .int .u64 0] 34 := by rw [hV1]; exact (Blk.new2 _ _ _ _ _)
  clear hV1; have hb0 := nhb0; clear nhb0
  obtain ⟨r1, hr1⟩ : ∃ o_o : Int, lwx ax ay bx b_y = o_o := ⟨_, rfl⟩
  have Hr1 := Lib.hid hr1; clear hr1
  obtain ⟨r2, hr2⟩ : ∃ o_o : Int, lwy ax ay bx b_y = o_o := ⟨_, rfl⟩
  have Hr2 := Lib.hid hr2; clear hr2
  obtain ⟨r3, hr3⟩ : ∃ o_o : Int, hgx ax ay bx b_y = o_o := ⟨_, rfl⟩
  have Hr3 := Lib.hid hr3; clear hr3
  obtain ⟨r4, hr4⟩ : ∃ o_o : Int, hgy ax ay bx b_y = o_o := ⟨_, rfl⟩
  have Hr4 := Lib.hid hr4; clear hr4
  refine (Ends_is ax ay bx b_y r1 r2 r3 r4 Hr1.out Hr2.out Hr3.out Hr4.out _iax _iay _ibx _ib_y  _).mono ?_
  rintro e U2 ⟨rfl, hn⟩
  clear k1; replace k2 := k2.of hn; replace k3 := k3.of hn
  replace hb0 := hb0.trans (hn.mono hb0.size)
  clear hn
  go_wp2_with fail
  first | refine calls_w ?_ | refine name_world ?_ | refine list_world ?_ | refine post_world ?_
  intro V3 hV3
  have D1 := Lib.hid k2.lt; have D2 := Lib.hid k3.lt; have D3 := Lib.hid hb0.size
  have hn : Below U2.heap.size U2 V3 := by rw [hV3]; exact below_a2 _ _ _
  have nk2 := k2.of hn; have nk3 := k3.of hn
  have nhb0 := hb0.trans (hn.mono hb0.size)
  clear hn
  have k4 : Blk V3 U2.heap.size #[.int .i64 r1, .int .i64 r2] 44 := by rw [hV3]; exact ((Blk.new _ _ _).alloc _)
  have k5 : Blk V3 (U2.heap.size + 1) #[.int .i64 r3, .int .i64 r4] 44 := by rw [hV3]; exact (Blk.new1 _ _ _ _)
  clear k2 k3; clear hb0; clear hV3; have k2 := nk2; clear nk2; have k3 := nk3; clear nk3; have hb0 := nhb0; clear nhb0
  obtain ⟨r5, hr5⟩ : ∃ o_o : Int, (wrap64 (r3 - r1)) = o_o := ⟨_, rfl⟩
  have Hr5 := Lib.hid hr5; clear hr5
  obtain ⟨r6, hr6⟩ : ∃ o_o : Int, (wrap64 (r4 - r2)) = o_o := ⟨_, rfl⟩
  have Hr6 := Lib.hid hr6; clear hr6; have c2_0 : V3.cell? ⟨w.heap.size + 1, 0, none⟩ = some (.int .u64 0) := k2.cell 0; have c2_1 : V3.cell? ⟨w.heap.size + 1, 1, none⟩ = some (.int .u64 0) := k2.cell 1; have c2_2 : V3.cell? ⟨w.heap.size + 1, 2, none⟩ = some (.int .u64 0) := k2.cell 2; have c2_3 : V3.cell? ⟨w.heap.size + 1, 3, none⟩ = some (.int .u64 0) := k2.cell 3; obtain ⟨f2_0, f2_1, f2_2, f2_3⟩ := fre4 k2; have l2 := k2.lt; have c3_0 : V3.cell? ⟨w.heap.size + 1 + 1, 0, none⟩ = some (.int .u64 0) := k3.cell 0
  have c3_1 : V3.cell? ⟨w.heap.size + 1 + 1, 1, none⟩ = some (.int .u64 0) := k3.cell 1; have c3_2 : V3.cell? ⟨w.heap.size + 1 + 1, 2, none⟩ = some (.int .u64 0) := k3.cell 2; have c3_3 : V3.cell? ⟨w.heap.size + 1 + 1, 3, none⟩ = some (.int .u64 0) := k3.cell 3; obtain ⟨f3_0, f3_1, f3_2, f3_3⟩ := fre4 k3; have l3 := k3.lt; have c4_0 : V3.cell? ⟨U2.heap.size, 0, none⟩ = some (.int .i64 r1) := k4.cell 0; have c4_1 : V3.cell? ⟨U2.heap.size, 1, none⟩ = some (.int .i64 r2) := k4.cell 1; have l4 := k4.lt; have c5_0 : V3.cell? ⟨(U2.heap.size + 1), 0, none⟩ = some (.int .i64 r3) := k5.cell 0
  have c5_1 : V3.cell? ⟨(U2.heap.size + 1), 1, none⟩ = some (.int .i64 r4) := k5.cell 1; have l5 := k5.lt
  have p2_3 : (w.heap.size + 1) ≠ (w.heap.size + 1 + 1) := (by omega)
  have p4_2 : U2.heap.size ≠ (w.heap.size + 1) := (by have := D1.out; omega)
  have p4_3 : U2.heap.size ≠ (w.heap.size + 1 + 1) := (by have := D2.out; omega)
  have p5_2 : (U2.heap.size + 1) ≠ (w.heap.size + 1) := (by have := D1.out; omega)
  have p5_3 : (U2.heap.size + 1) ≠ (w.heap.size + 1 + 1) := (by have := D2.out; omega)
  have Kk2 := Lib.hid k2; clear k2; have Kk3 := Lib.hid k3; clear k3; have Kk4 := Lib.hid k4; clear k4; have Kk5 := Lib.hid k5; clear k5
  refine wp_region_G 12 [(0, 0), (0, 1), (0, 2), (0, 3), (0, 4), (2, 6), (0, 7), (2, 8), (0, 9), (0, 10), (1, 5), (1, 11), (3, 12), (3, 13)] (by kernel_rfl) (by kernel_rfl) (fun _ _ d _ _ => by cases d <;> exact Iff.rfl) ?_
  have hb : Below V3.heap.size V3 V3.drew := (Below.refl _ _).drew
  iterate 5
    refine wpG_take0 rfl rfl ?_
    go_big_quiet_step (rfl)
    refine wpQuiet_nil ?_
  refine wpG_take2 rfl rfl ?_
  go_big_quiet_step (rfl)
  refine wpQuiet_nil ?_
  refine wpG_take0 rfl rfl ?_
  go_big_quiet_step (rfl)
  refine wpQuiet_nil ?_
  refine wpG_take2 rfl rfl ?_
  go_big_quiet_step (rfl)
  refine wpQuiet_nil ?_
  iterate 2
    refine wpG_take0 rfl rfl ?_
    go_big_quiet_step (rfl)
    refine wpQuiet_nil ?_
  refine wpG_do1 rfl ?_
  intro K hK
  go_wp2_with ((first | (go_at_call 27; (with_reducible refine (Of_v (wrap64 (r3 - r1)) r5 Hr5.out (wrap64_in _) _).mono ?_); rintro e w2 ⟨rfl, hn⟩) | (go_at_call 27; (with_reducible refine (Of_v (wrap64 (r4 - r2)) r6 Hr6.out (wrap64_in _) _).mono ?_); rintro e w2 ⟨rfl, hn⟩)))
  replace hb := hb.trans (hn.mono hb.size)
  refine hK.out _ _ (up_iff.2 hb) ?_
  clear hK K; clear hn
  refine wpG_do1 rfl ?_
  intro K hK
  go_wp2_with ((first | (go_at_call 27; (with_reducible refine (Of_v (wrap64 (r3 - r1)) r5 Hr5.out (wrap64_in _) _).mono ?_); rintro e w2 ⟨rfl, hn⟩) | (go_at_call 27; (with_reducible refine (Of_v (wrap64 (r4 - r2)) r6 Hr6.out (wrap64_in _) _).mono ?_); rintro e w2 ⟨rfl, hn⟩)))
  replace hb := hb.trans (hn.mono hb.size)
  refine hK.out _ _ (up_iff.2 hb) ?_
  clear hK K; clear hn; have Mk2 := Kk2.out.of hb; have Mk2_0 := Mk2.cell 0; have Nk2_0 := Mk2.free 0; have Mk2_1 := Mk2.cell 1; have Nk2_1 := Mk2.free 1; have Mk2_2 := Mk2.cell 2; have Nk2_2 := Mk2.free 2; have Mk2_3 := Mk2.cell 3; have Nk2_3 := Mk2.free 3; have Mk3 := Kk3.out.of hb; have Mk3_0 := Mk3.cell 0; have Nk3_0 := Mk3.free 0; have Mk3_1 := Mk3.cell 1; have Nk3_1 := Mk3.free 1; have Mk3_2 := Mk3.cell 2; have Nk3_2 := Mk3.free 2; have Mk3_3 := Mk3.cell 3; have Nk3_3 := Mk3.free 3
  simp only [List.getElem?_toArray, List.getElem?_cons_zero, List.getElem?_cons_succ] at Mk2_0 Mk2_1 Mk2_2 Mk2_3 Mk3_0 Mk3_1 Mk3_2 Mk3_3
  refine wpG_do3 rfl ?_
  intro K hK
  go_wp2_with (fail)
  refine hK.out _ _ ?_
  clear hK K
  refine wpG_do3 rfl ?_
  intro K hK
  go_wp2_with (fail)
  refine hK.out _ _ ?_
  clear hK K
  refine wpG_nil ?_
  refine list_world ?_
  intro U4 hU4
  clear c2_0 c2_1 c2_2 c2_3 f2_0 f2_1 f2_2 f2_3 l2 c3_0 c3_1 c3_2 c3_3 f3_0 f3_1 f3_2 f3_3 l3 c4_0 c4_1 l4 c5_0 c5_1 l5 p2_3 p4_2 p4_3 p5_2 p5_3 Mk2 Mk2_0 Nk2_0 Mk2_1 Nk2_1 Mk2_2 Nk2_2 Mk2_3 Nk2_3 Mk3 Mk3_0 Nk3_0 Mk3_1 Nk3_1 Mk3_2 Nk3_2 Mk3_3 Nk3_3; have D4 := Lib.hid Kk2.out.lt; have D5 := Lib.hid Kk3.out.lt; have D6 := Lib.hid Kk4.out.lt; have D7 := Lib.hid Kk5.out.lt; have D8 := Lib.hid hb0.size
  have k2 : Blk U4 (w.heap.size + 1) #[.int .u64 (wd0 r5), .int .u64 (wd1 r5), .int .u64 (wd2 r5), .int .u64 (wd3 r5)] 34 := by rw [hU4]; exact (blk_setL (blk_full _ [.int .u64 (wd0 r5), .int .u64 (wd1 r5), .int .u64 (wd2 r5), .int .u64 (wd3 r5)] (Kk2.out.of hb) rfl) (by omega) 0 [.int .u64 (wd0 r6), .int .u64 (wd1 r6), .int .u64 (wd2 r6), .int .u64 (wd3 r6)])
  have k3 : Blk U4 (w.heap.size + 1 + 1) #[.int .u64 (wd0 r6), .int .u64 (wd1 r6), .int .u64 (wd2 r6), .int .u64 (wd3 r6)] 34 := by rw [hU4]; exact (blk_full _ [.int .u64 (wd0 r6), .int .u64 (wd1 r6), .int .u64 (wd2 r6), .int .u64 (wd3 r6)] (blk_setL (Kk3.out.of hb) (by omega) 0 [.int .u64 (wd0 r5), .int .u64 (wd1 r5), .int .u64 (wd2 r5), .int .u64 (wd3 r5)]) rfl)
  have k4 : Blk U4 U2.heap.size #[.int .i64 r1, .int .i64 r2] 44 := by rw [hU4]; exact (blk_setL (blk_setL (Kk4.out.of hb) (by have := D1.out; omega) 0 [.int .u64 (wd0 r5), .int .u64 (wd1 r5), .int .u64 (wd2 r5), .int .u64 (wd3 r5)]) (by have := D2.out; omega) 0 [.int .u64 (wd0 r6), .int .u64 (wd1 r6), .int .u64 (wd2 r6), .int .u64 (wd3 r6)])
  have k5 : Blk U4 (U2.heap.size + 1) #[.int .i64 r3, .int .i64 r4] 44 := by rw [hU4]; exact (blk_setL (blk_setL (Kk5.out.of hb) (by have := D1.out; omega) 0 [.int .u64 (wd0 r5), .int .u64 (wd1 r5), .int .u64 (wd2 r5), .int .u64 (wd3 r5)]) (by have := D2.out; omega) 0 [.int .u64 (wd0 r6), .int .u64 (wd1 r6), .int .u64 (wd2 r6), .int .u64 (wd3 r6)])
  replace hb0 : Below w.heap.size w U4 := by rw [hU4]; exact (blw_setL (blw_setL (hb0.trans (hb.mono hb0.size)) (by omega) 0 [.int .u64 (wd0 r5), .int .u64 (wd1 r5), .int .u64 (wd2 r5), .int .u64 (wd3 r5)]) (by omega) 0 [.int .u64 (wd0 r6), .int .u64 (wd1 r6), .int .u64 (wd2 r6), .int .u64 (wd3 r6)])
  clear hU4 hb Kk2 Kk3 Kk4 Kk5
  have e0 : r5 = R0 := by rw [← HR0.out]; unfold wyx; (try rw [Hr1.out]); (try rw [Hr2.out]); (try rw [Hr3.out]); (try rw [Hr4.out]); (try rw [Hr5.out]); (try rw [Hr6.out]); all_goals first | rfl | simp
  have e1 : r6 = R1 := by rw [← HR1.out]; unfold wyy; (try rw [Hr1.out]); (try rw [Hr2.out]); (try rw [Hr3.out]); (try rw [Hr4.out]); (try rw [Hr5.out]); (try rw [Hr6.out]); all_goals first | rfl | simp
  subst e0; subst e1
  go_wp2
  have g2_0 : U4.cell? ⟨w.heap.size + 1, 0, none⟩ = some (.int .u64 (wd0 r5)) := k2.cell 0; have g2_1 : U4.cell? ⟨w.heap.size + 1, 1, none⟩ = some (.int .u64 (wd1 r5)) := k2.cell 1; have g2_2 : U4.cell? ⟨w.heap.size + 1, 2, none⟩ = some (.int .u64 (wd2 r5)) := k2.cell 2; have g2_3 : U4.cell? ⟨w.heap.size + 1, 3, none⟩ = some (.int .u64 (wd3 r5)) := k2.cell 3; have g3_0 : U4.cell? ⟨w.heap.size + 1 + 1, 0, none⟩ = some (.int .u64 (wd0 r6)) := k3.cell 0; have g3_1 : U4.cell? ⟨w.heap.size + 1 + 1, 1, none⟩ = some (.int .u64 (wd1 r6)) := k3.cell 1
  have g3_2 : U4.cell? ⟨w.heap.size + 1 + 1, 2, none⟩ = some (.int .u64 (wd2 r6)) := k3.cell 2; have g3_3 : U4.cell? ⟨w.heap.size + 1 + 1, 3, none⟩ = some (.int .u64 (wd3 r6)) := k3.cell 3; clear k2 k3 k4 k5
  simp [bodyPost, results, Try.results58, go_sem, g2_0, g2_1, g2_2, g2_3, g3_0, g3_1, g3_2, g3_3]
  first | exact hb0 | exact ⟨rfl, hb0⟩

def dotB (ax : Int) (ay : Int) (bx : Int) (b_y : Int) : Bool := (bif (ax == bx) then (bif (ay == b_y) then true else false) else false)

set_option maxRecDepth 100000 in
set_option maxHeartbeats 4000000 in

theorem dot_is (ax : Int) (ay : Int) (bx : Int) (b_y : Int)  (R0 : Bool) (hR0 : dotB ax ay bx b_y = R0) (_iax : In64 ax) (_iay : In64 ay) (_ibx : In64 bx) (_ib_y : In64 b_y)  (w : World)  :
    Calls Try.prog 87 #[.agg #[.int .i64 ax, .int .i64 ay, .int .i64 bx, .int .i64 b_y]] w fun e w' => e = .returned (.bool R0) ∧ Below w.heap.size w w' := by

  have HR0 := Lib.hid hR0; clear hR0
  obtain ⟨z1, hz1⟩ : ∃ o_o : Bool, (ax == bx) = o_o := ⟨_, rfl⟩
  cases z1
  · have nz1 : ¬ ax = bx := by simpa using hz1
    go_enter Try.func87, Try.ntmps87
    have e0 : false = R0 := by rw [← HR0.out]; unfold dotB; (try rw [hz1]); all_goals first | rfl | simp
    subst e0
    go_wp2
    first | refine post_world ?_
    intro V1 hV1
    have hn : Below w.heap.size w V1 := by rw [hV1]; exact below_a1 _ _
    have nhb0 := hn; clear hV1; have hb0 := nhb0; clear nhb0
    simp [bodyPost, results, Try.results87, go_sem]
    first | exact hb0 | exact ⟨rfl, hb0⟩
  · have qz1 : ax = bx := by simpa using hz1
    clear hz1; subst qz1
    obtain ⟨z2, hz2⟩ : ∃ o_o : Bool, (ay == b_y) = o_o := ⟨_, rfl⟩
    cases z2
    · have nz2 : ¬ ay = b_y := by simpa using hz2
      go_enter Try.func87, Try.ntmps87
      have e0 : false = R0 := by rw [← HR0.out]; unfold dotB; (try rw [hz2]); all_goals first | rfl | simp
      subst e0
      go_wp2
      first | refine post_world ?_
      intro V2 hV2
      have hn : Below w.heap.size w V2 := by rw [hV2]; exact below_a1 _ _
      have nhb0 := hn; clear hV2; have hb0 := nhb0; clear nhb0
      simp [bodyPost, results, Try.results87, go_sem]
      first | exact hb0 | exact ⟨rfl, hb0⟩
    · have qz2 : ay = b_y := by simpa using hz2
      clear hz2; subst qz2
      go_enter Try.func87, Try.ntmps87
      have e0 : true = R0 := by rw [← HR0.out]; unfold dotB; all_goals first | rfl | simp
      subst e0
      go_wp2
      first | refine post_world ?_
      intro V3 hV3
      have hn : Below w.heap.size w V3 := by rw [hV3]; exact below_a1 _ _
      have nhb0 := hn; clear hV3; have hb0 := nhb0; clear nhb0
      simp [bodyPost, results, Try.results87, go_sem]
      first | exact hb0 | exact ⟨rfl, hb0⟩
end Go.Proofs.Ytkaolhlmimalkaa

namespace Go.Proofs.Ytkaolhlmimalkaa
open Go.RowKit

def spC (x : Int) (y : Int) (v : Int) (x2 : Int) (y2 : Int) (v2 : Int) : Int := (bif (spR x y v) then (bif (spR x2 y2 v2) then (or2 (cmpI (mulv x v2) (mulv x2 v)) (cmpI (mulv y v2) (mulv y2 v))) else 0) else 0)

set_option maxRecDepth 100000 in
set_option maxHeartbeats 4000000 in

theorem SpCmp_is (x : Int) (y : Int) (v : Int) (x2 : Int) (y2 : Int) (v2 : Int)  (R0 : Int) (hR0 : spC x y v x2 y2 v2 = R0) (_ix : InI x) (_iy : InI y) (_iv : InI v) (_ix2 : InI x2) (_iy2 : InI y2) (_iv2 : InI v2)  (w : World)  :
    Calls Try.prog 9 #[.agg #[.int .u64 (wd0 x), .int .u64 (wd1 x), .int .u64 (wd2 x), .int .u64 (wd3 x), .int .u64 (wd0 y), .int .u64 (wd1 y), .int .u64 (wd2 y), .int .u64 (wd3 y), .int .u64 (wd0 v), .int .u64 (wd1 v), .int .u64 (wd2 v), .int .u64 (wd3 v)], .agg #[.int .u64 (wd0 x2), .int .u64 (wd1 x2), .int .u64 (wd2 x2), .int .u64 (wd3 x2), .int .u64 (wd0 y2), .int .u64 (wd1 y2), .int .u64 (wd2 y2), .int .u64 (wd3 y2), .int .u64 (wd0 v2), .int .u64 (wd1 v2), .int .u64 (wd2 v2), .int .u64 (wd3 v2)]] w fun e w' => e = .returned (.int .i64 R0) ∧ Below w.heap.size w w' := by

  have HR0 := Lib.hid hR0; clear hR0
  go_enter Try.func9, Try.ntmps9
  go_wp2_with fail
  first | refine calls_w ?_ | refine name_world ?_ | refine list_world ?_ | refine post_world ?_
  intro V1 hV1
  have hn : Below w.heap.size w V1 := by rw [hV1]; exact below_a2 _ _ _
  have nhb0 := hn
  have k1 : Blk V1 w.heap.size #[.int .u64 (wd0 x), .int .u64 (wd1 x), .int .u64 (wd2 x), .int .u64 (wd3 x), .int .u64 (wd0 y), .int .u64 (wd1 y), .int .u64 (wd2 y), .int .u64 (wd3 y), .int .u64 (wd0 v), .int .u64 (wd1 v), .int .u64 (wd2 v), .int .u64 (wd3 v)] 36 := by rw [hV1]; exact ((Blk.new _ _ _).alloc _)
  have k2 : Blk V1 (w.heap.size + 1) #[.int .u64 (wd0 x2), .int .u64 (wd1 x2), .int .u64 (wd2 x2), .int .u64 (wd3 x2), .int .u64 (wd0 y2), .int .u64 (wd1 y2), .int .u64 (wd2 y2), .int .u64 (wd3 y2), .int .u64 (wd0 v2), .int .u64 (wd1 v2), .int .u64 (wd2 v2), .int .u64 (wd3 v2)] 36 := by rw [hV1]; exact (Blk.new1 _ _ _ _)
  clear hV1; have hb0 := nhb0; clear nhb0
  obtain ⟨z1, hz1⟩ : ∃ o_o : Bool, spR x y v = o_o := ⟨_, rfl⟩
  have Hz1 := Lib.hid hz1; clear hz1
  refine (SpRight_is x y v z1 Hz1.out _ix _iy _iv  _).mono ?_
  rintro e U2 ⟨rfl, hn⟩
  replace k1 := k1.of hn; replace k2 := k2.of hn
  replace hb0 := hb0.trans (hn.mono hb0.size)
  clear hn
  cases z1
  · have e0 : 0 = R0 := by rw [← HR0.out]; unfold spC; (try rw [Hz1.out]); all_goals first | rfl | simp
    subst e0
    go_wp2
    first | go_ret | go_ret2
    exact ⟨by first | rfl | simp, hb0⟩
  · have c2_0 : U2.cell? ⟨w.heap.size + 1, 0, none⟩ = some (.int .u64 (wd0 x2)) := k2.cell 0
    have c2_1 : U2.cell? ⟨w.heap.size + 1, 1, none⟩ = some (.int .u64 (wd1 x2)) := k2.cell 1; have c2_2 : U2.cell? ⟨w.heap.size + 1, 2, none⟩ = some (.int .u64 (wd2 x2)) := k2.cell 2; have c2_3 : U2.cell? ⟨w.heap.size + 1, 3, none⟩ = some (.int .u64 (wd3 x2)) := k2.cell 3; have c2_4 : U2.cell? ⟨w.heap.size + 1, 4, none⟩ = some (.int .u64 (wd0 y2)) := k2.cell 4; have c2_5 : U2.cell? ⟨w.heap.size + 1, 5, none⟩ = some (.int .u64 (wd1 y2)) := k2.cell 5; have c2_6 : U2.cell? ⟨w.heap.size + 1, 6, none⟩ = some (.int .u64 (wd2 y2)) := k2.cell 6
    have c2_7 : U2.cell? ⟨w.heap.size + 1, 7, none⟩ = some (.int .u64 (wd3 y2)) := k2.cell 7; have c2_8 : U2.cell? ⟨w.heap.size + 1, 8, none⟩ = some (.int .u64 (wd0 v2)) := k2.cell 8; have c2_9 : U2.cell? ⟨w.heap.size + 1, 9, none⟩ = some (.int .u64 (wd1 v2)) := k2.cell 9; have c2_10 : U2.cell? ⟨w.heap.size + 1, 10, none⟩ = some (.int .u64 (wd2 v2)) := k2.cell 10; have c2_11 : U2.cell? ⟨w.heap.size + 1, 11, none⟩ = some (.int .u64 (wd3 v2)) := k2.cell 11; have l2 := k2.lt
    go_wp2_with fail
    clear c2_0 c2_1 c2_2 c2_3 c2_4 c2_5 c2_6 c2_7 c2_8 c2_9 c2_10 c2_11 l2
    obtain ⟨z2, hz2⟩ : ∃ o_o : Bool, spR x2 y2 v2 = o_o := ⟨_, rfl⟩
    have Hz2 := Lib.hid hz2; clear hz2
    refine (SpRight_is x2 y2 v2 z2 Hz2.out _ix2 _iy2 _iv2  _).mono ?_
    rintro e U3 ⟨rfl, hn⟩
    replace k1 := k1.of hn; replace k2 := k2.of hn
    replace hb0 := hb0.trans (hn.mono hb0.size)
    clear hn
    cases z2
    · have e0 : 0 = R0 := by rw [← HR0.out]; unfold spC; (try rw [Hz1.out]); (try rw [Hz2.out]); all_goals first | rfl | simp
      subst e0
      go_wp2
      first | go_ret | go_ret2
      exact ⟨by first | rfl | simp, hb0⟩
    · go_wp2_with fail
      obtain ⟨r3, hr3⟩ : ∃ o_o : Int, mulv x v2 = o_o := ⟨_, rfl⟩
      have Hr3 := Lib.hid hr3; clear hr3
      obtain ⟨r4, hr4⟩ : ∃ o_o : Int, mulv x2 v = o_o := ⟨_, rfl⟩
      have Hr4 := Lib.hid hr4; clear hr4
      obtain ⟨r5, hr5⟩ : ∃ o_o : Int, cmpI r3 r4 = o_o := ⟨_, rfl⟩
      have Hr5 := Lib.hid hr5; clear hr5
      obtain ⟨r6, hr6⟩ : ∃ o_o : Int, mulv y v2 = o_o := ⟨_, rfl⟩
      have Hr6 := Lib.hid hr6; clear hr6; obtain ⟨c1_0, c1_1, c1_2, c1_3, c1_4, c1_5, c1_6, c1_7, c1_8, c1_9, c1_10, c1_11⟩ := cel12 k1; have l1 := k1.lt; obtain ⟨c2_0, c2_1, c2_2, c2_3, c2_4, c2_5, c2_6, c2_7, c2_8, c2_9, c2_10, c2_11⟩ := cel12 k2; have l2 := k2.lt; have Kk1 := Lib.hid k1; clear k1; have Kk2 := Lib.hid k2; clear k2
      refine wp_region_up U3.heap.size 20 [(true, 0), (true, 1), (true, 2), (true, 3), (true, 5), (true, 6), (true, 7), (true, 8), (true, 11), (true, 12), (true, 13), (true, 14), (true, 16), (true, 17), (true, 18), (true, 19), (false, 4), (false, 9), (false, 10), (false, 15)] (by kernel_rfl) (by kernel_rfl) (fun _ _ d _ _ h => by cases d <;> exact h) ?_
      have hb : Below U3.heap.size U3 U3.drew := (Below.refl _ _).drew
      iterate 16
        refine wpS_takeL rfl rfl ?_
        go_big_quiet_step (rfl)
        refine wpQuiet_nil ?_
      refine wpS_doL rfl ?_
      intro K hK
      go_wp2_with ((first | (go_at_call 22; (with_reducible refine (crtimes_is x v2 r3 Hr3.out _ix _iv2  _).mono ?_); rintro e w2 ⟨rfl, hn⟩) | (go_at_call 22; (with_reducible refine (crtimes_is x2 v r4 Hr4.out _ix2 _iv  _).mono ?_); rintro e w2 ⟨rfl, hn⟩) | (go_at_call 22; (with_reducible refine (crtimes_is y v2 r6 Hr6.out _iy _iv2  _).mono ?_); rintro e w2 ⟨rfl, hn⟩)))
      replace hb := hb.trans (hn.mono hb.size)
      refine hK.out _ _ (up_iff.2 hb) ?_
      clear hK K; clear hn
      refine wpS_doL rfl ?_
      intro K hK
      go_wp2_with ((first | (go_at_call 22; (with_reducible refine (crtimes_is x v2 r3 Hr3.out _ix _iv2  _).mono ?_); rintro e w2 ⟨rfl, hn⟩) | (go_at_call 22; (with_reducible refine (crtimes_is x2 v r4 Hr4.out _ix2 _iv  _).mono ?_); rintro e w2 ⟨rfl, hn⟩) | (go_at_call 22; (with_reducible refine (crtimes_is y v2 r6 Hr6.out _iy _iv2  _).mono ?_); rintro e w2 ⟨rfl, hn⟩)))
      replace hb := hb.trans (hn.mono hb.size)
      refine hK.out _ _ (up_iff.2 hb) ?_
      clear hK K; clear hn
      refine wpS_doL rfl ?_
      intro K hK
      go_wp2_with ((go_at_call 23; (with_reducible refine (Cmp_v r3 r4 r5 Hr5.out (Hr3.out ▸ mulv_in x v2) (Hr4.out ▸ mulv_in x2 v) _).mono ?_); rintro e w2 ⟨rfl, hn⟩))
      replace hb := hb.trans (hn.mono hb.size)
      refine hK.out _ _ (up_iff.2 hb) ?_
      clear hK K; clear hn
      refine wpS_doL rfl ?_
      intro K hK
      go_wp2_with ((first | (go_at_call 22; (with_reducible refine (crtimes_is x v2 r3 Hr3.out _ix _iv2  _).mono ?_); rintro e w2 ⟨rfl, hn⟩) | (go_at_call 22; (with_reducible refine (crtimes_is x2 v r4 Hr4.out _ix2 _iv  _).mono ?_); rintro e w2 ⟨rfl, hn⟩) | (go_at_call 22; (with_reducible refine (crtimes_is y v2 r6 Hr6.out _iy _iv2  _).mono ?_); rintro e w2 ⟨rfl, hn⟩)))
      replace hb := hb.trans (hn.mono hb.size)
      refine hK.out _ _ (up_iff.2 hb) ?_
      clear hK K; clear hn
      refine wpS_nil ?_
      simp only [List.drop_succ_cons, List.drop_zero]
      first | refine calls_w ?_ | refine name_world ?_ | refine list_world ?_ | refine post_world ?_
      intro U4 hU4
      first | subst hU4 | (rw [← hU4] at hb; clear hU4)
      clear c1_0 c1_1 c1_2 c1_3 c1_4 c1_5 c1_6 c1_7 c1_8 c1_9 c1_10 c1_11 l1 c2_0 c2_1 c2_2 c2_3 c2_4 c2_5 c2_6 c2_7 c2_8 c2_9 c2_10 c2_11 l2; have k1 := Kk1.out.of hb; clear Kk1; have k2 := Kk2.out.of hb; clear Kk2
      replace hb0 := hb0.trans (hb.mono hb0.size)
      clear hb
      go_wp2_with fail
      obtain ⟨r7, hr7⟩ : ∃ o_o : Int, mulv y2 v = o_o := ⟨_, rfl⟩
      have Hr7 := Lib.hid hr7; clear hr7
      refine (crtimes_is y2 v r7 Hr7.out _iy2 _iv  _).mono ?_
      rintro e U5 ⟨rfl, hn⟩
      clear k1 k2
      replace hb0 := hb0.trans (hn.mono hb0.size)
      clear hn
      go_wp2_with fail
      obtain ⟨r8, hr8⟩ : ∃ o_o : Int, cmpI r6 r7 = o_o := ⟨_, rfl⟩
      have Hr8 := Lib.hid hr8; clear hr8
      refine (Cmp_v r6 r7 r8 Hr8.out (Hr6.out ▸ mulv_in y v2) (Hr7.out ▸ mulv_in y2 v) _).mono ?_
      rintro e U6 ⟨rfl, hn⟩
      replace hb0 := hb0.trans (hn.mono hb0.size)
      clear hn
      go_wp2_with fail
      first | refine calls_w ?_ | refine name_world ?_ | refine list_world ?_ | refine post_world ?_
      intro V7 hV7
      have D1 := Lib.hid hb0.size
      have hn : Below U6.heap.size U6 V7 := by rw [hV7]; exact below_a1 _ _
      have nhb0 := hb0.trans (hn.mono hb0.size)
      clear hn
      have k3 : Blk V7 U6.heap.size #[.int .i64 r5, .int .i64 r8] 3 := by rw [hV7]; exact (Blk.new _ _ _)
      clear hb0; clear hV7; have hb0 := nhb0; clear nhb0
      obtain ⟨r9, hr9⟩ : ∃ o_o : Int, or2 r5 r8 = o_o := ⟨_, rfl⟩
      have Hr9 := Lib.hid hr9; clear hr9
      refine (Or2_v r5 r8 r9 Hr9.out k3).mono ?_
      rintro e U8 ⟨rfl, hn⟩
      clear k3
      replace hb0 := hb0.trans (hn.mono hb0.size)
      clear hn
      have e0 : r9 = R0 := by rw [← HR0.out]; unfold spC; (try rw [Hz1.out]); (try rw [Hz2.out]); (try rw [Hr3.out]); (try rw [Hr4.out]); (try rw [Hr5.out]); (try rw [Hr6.out]); (try rw [Hr7.out]); (try rw [Hr8.out]); (try rw [Hr9.out]); all_goals first | rfl | simp
      subst e0
      go_wp2
      first | go_ret | go_ret2
      exact ⟨by first | rfl | simp, hb0⟩

def sde (ax : Int) (ay : Int) (bx : Int) (b_y : Int) (x : Int) (y : Int) (v : Int) : Int := ((subv (mulv (wyx ax ay bx b_y) (subv y (mulv (lwy ax ay bx b_y) v))) (mulv (wyy ax ay bx b_y) (subv x (mulv (lwx ax ay bx b_y) v)))).sign)

set_option maxRecDepth 100000 in
set_option maxHeartbeats 4000000 in

theorem crside_is (ax : Int) (ay : Int) (bx : Int) (b_y : Int) (x : Int) (y : Int) (v : Int)  (R0 : Int) (hR0 : sde ax ay bx b_y x y v = R0) (_iax : In64 ax) (_iay : In64 ay) (_ibx : In64 bx) (_ib_y : In64 b_y) (_ix : InI x) (_iy : InI y) (_iv : InI v)  (w : World)  :
    Calls Try.prog 85 #[.agg #[.int .i64 ax, .int .i64 ay, .int .i64 bx, .int .i64 b_y], .agg #[.int .u64 (wd0 x), .int .u64 (wd1 x), .int .u64 (wd2 x), .int .u64 (wd3 x), .int .u64 (wd0 y), .int .u64 (wd1 y), .int .u64 (wd2 y), .int .u64 (wd3 y), .int .u64 (wd0 v), .int .u64 (wd1 v), .int .u64 (wd2 v), .int .u64 (wd3 v)]] w fun e w' => e = .returned (.int .i64 R0) ∧ Below w.heap.size w w' := by

  have HR0 := Lib.hid hR0; clear hR0
  go_enter Try.func85, Try.ntmps85
  go_wp2_with fail
  first | refine calls_w ?_ | refine name_world ?_ | refine list_world ?_ | refine post_world ?_
  intro V1 hV1
  have hn : Below w.heap.size w V1 := by rw [hV1]; exact below_a2 _ _ _
  have nhb0 := hn
  have k1 : Blk V1 w.heap.size #[.int .i64 ax, .int .i64 ay, .int .i64 bx, .int .i64 b_y] 46 := by rw [hV1]; exact ((Blk.new _ _ _).alloc _)
  have k2 : Blk V1 (w.heap.size + 1) #[.int .u64 (wd0 x), .int .u64 (wd1 x), .int .u64 (wd2 x), .int .u64 (wd3 x), .int .u64 (wd0 y), .int .u64 (wd1 y), .int .u64 (wd2 y), .int .u64 (wd3 y), .int .u64 (wd0 v), .int .u64 (wd1 v), .int .u64 (wd2 v), .int .u64 (wd3 v)] 36 := by rw [hV1]; exact (Blk.new1 _ _ _ _)
  clear hV1; have hb0 := nhb0; clear nhb0
  obtain ⟨r1, hr1⟩ : ∃ o_o : Int, lwx ax ay bx b_y = o_o := ⟨_, rfl⟩
  have Hr1 := Lib.hid hr1; clear hr1
  obtain ⟨r2, hr2⟩ : ∃ o_o : Int, lwy ax ay bx b_y = o_o := ⟨_, rfl⟩
  have Hr2 := Lib.hid hr2; clear hr2
  obtain ⟨r3, hr3⟩ : ∃ o_o : Int, hgx ax ay bx b_y = o_o := ⟨_, rfl⟩
  have Hr3 := Lib.hid hr3; clear hr3
  obtain ⟨r4, hr4⟩ : ∃ o_o : Int, hgy ax ay bx b_y = o_o := ⟨_, rfl⟩
  have Hr4 := Lib.hid hr4; clear hr4
  refine (Ends_is ax ay bx b_y r1 r2 r3 r4 Hr1.out Hr2.out Hr3.out Hr4.out _iax _iay _ibx _ib_y  _).mono ?_
  rintro e U2 ⟨rfl, hn⟩
  replace k1 := k1.of hn; replace k2 := k2.of hn
  replace hb0 := hb0.trans (hn.mono hb0.size)
  clear hn; have c1_0 : U2.cell? ⟨w.heap.size, 0, none⟩ = some (.int .i64 ax) := k1.cell 0; have c1_1 : U2.cell? ⟨w.heap.size, 1, none⟩ = some (.int .i64 ay) := k1.cell 1; have c1_2 : U2.cell? ⟨w.heap.size, 2, none⟩ = some (.int .i64 bx) := k1.cell 2; have c1_3 : U2.cell? ⟨w.heap.size, 3, none⟩ = some (.int .i64 b_y) := k1.cell 3; have l1 := k1.lt
  go_wp2_with fail
  clear c1_0 c1_1 c1_2 c1_3 l1
  first | refine calls_w ?_ | refine name_world ?_ | refine list_world ?_ | refine post_world ?_
  intro V3 hV3
  clear k1; have D1 := Lib.hid k2.lt; have D2 := Lib.hid hb0.size
  have hn : Below U2.heap.size U2 V3 := by rw [hV3]; exact below_a2 _ _ _
  have nk2 := k2.of hn
  have nhb0 := hb0.trans (hn.mono hb0.size)
  clear hn
  have k3 : Blk V3 U2.heap.size #[.int .i64 r1, .int .i64 r2] 44 := by rw [hV3]; exact ((Blk.new _ _ _).alloc _)
  have k4 : Blk V3 (U2.heap.size + 1) #[.int .i64 r3, .int .i64 r4] 44 := by rw [hV3]; exact (Blk.new1 _ _ _ _)
  clear k2; clear hb0; clear hV3; have k2 := nk2; clear nk2; have hb0 := nhb0; clear nhb0
  obtain ⟨r5, hr5⟩ : ∃ o_o : Int, wyx ax ay bx b_y = o_o := ⟨_, rfl⟩
  have Hr5 := Lib.hid hr5; clear hr5
  obtain ⟨r6, hr6⟩ : ∃ o_o : Int, wyy ax ay bx b_y = o_o := ⟨_, rfl⟩
  have Hr6 := Lib.hid hr6; clear hr6
  refine (crway_is ax ay bx b_y r5 r6 Hr5.out Hr6.out _iax _iay _ibx _ib_y  _).mono ?_
  rintro e U4 ⟨rfl, hn⟩
  clear k4; replace k2 := k2.of hn; replace k3 := k3.of hn
  replace hb0 := hb0.trans (hn.mono hb0.size)
  clear hn
  go_wp2_with fail
  first | refine calls_w ?_ | refine name_world ?_ | refine list_world ?_ | refine post_world ?_
  intro V5 hV5
  have D3 := Lib.hid k2.lt; have D4 := Lib.hid k3.lt; have D5 := Lib.hid hb0.size
  have hn : Below U4.heap.size U4 V5 := by rw [hV5]; exact below_a2 _ _ _
  have nk2 := k2.of hn; have nk3 := k3.of hn
  have nhb0 := hb0.trans (hn.mono hb0.size)
  clear hn
  have k5 : Blk V5 U4.heap.size #[.int .u64 (wd0 r5), .int .u64 (wd1 r5), .int .u64 (wd2 r5), .int .u64 (wd3 r5)] 34 := by rw [hV5]; exact ((Blk.new _ _ _).alloc _)
  have k6 : Blk V5 (U4.heap.size + 1) #[.int .u64 (wd0 r6), .int .u64 (wd1 r6), .int .u64 (wd2 r6), .int .u64 (wd3 r6)] 34 := by rw [hV5]; exact (Blk.new1 _ _ _ _)
  clear k2 k3; clear hb0; clear hV5; have k2 := nk2; clear nk2; have k3 := nk3; clear nk3; have hb0 := nhb0; clear nhb0
  obtain ⟨r7, hr7⟩ : ∃ o_o : Int, mulv r2 v = o_o := ⟨_, rfl⟩
  have Hr7 := Lib.hid hr7; clear hr7
  obtain ⟨r8, hr8⟩ : ∃ o_o : Int, subv y r7 = o_o := ⟨_, rfl⟩
  have Hr8 := Lib.hid hr8; clear hr8
  obtain ⟨r9, hr9⟩ : ∃ o_o : Int, mulv r5 r8 = o_o := ⟨_, rfl⟩
  have Hr9 := Lib.hid hr9; clear hr9
  obtain ⟨r10, hr10⟩ : ∃ o_o : Int, mulv r1 v = o_o := ⟨_, rfl⟩
  have Hr10 := Lib.hid hr10; clear hr10
  obtain ⟨r11, hr11⟩ : ∃ o_o : Int, subv x r10 = o_o := ⟨_, rfl⟩
  have Hr11 := Lib.hid hr11; clear hr11; obtain ⟨c2_0, c2_1, c2_2, c2_3, c2_4, c2_5, c2_6, c2_7, c2_8, c2_9, c2_10, c2_11⟩ := cel12 k2; have l2 := k2.lt; have c3_0 : V5.cell? ⟨U2.heap.size, 0, none⟩ = some (.int .i64 r1) := k3.cell 0; have c3_1 : V5.cell? ⟨U2.heap.size, 1, none⟩ = some (.int .i64 r2) := k3.cell 1; have l3 := k3.lt; have c5_0 : V5.cell? ⟨U4.heap.size, 0, none⟩ = some (.int .u64 (wd0 r5)) := k5.cell 0; have c5_1 : V5.cell? ⟨U4.heap.size, 1, none⟩ = some (.int .u64 (wd1 r5)) := k5.cell 1; have c5_2 : V5.cell? ⟨U4.heap.size, 2, none⟩ = some (.int .u64 (wd2 r5)) := k5.cell 2
  have c5_3 : V5.cell? ⟨U4.heap.size, 3, none⟩ = some (.int .u64 (wd3 r5)) := k5.cell 3; have l5 := k5.lt; have c6_0 : V5.cell? ⟨(U4.heap.size + 1), 0, none⟩ = some (.int .u64 (wd0 r6)) := k6.cell 0; have c6_1 : V5.cell? ⟨(U4.heap.size + 1), 1, none⟩ = some (.int .u64 (wd1 r6)) := k6.cell 1; have c6_2 : V5.cell? ⟨(U4.heap.size + 1), 2, none⟩ = some (.int .u64 (wd2 r6)) := k6.cell 2; have c6_3 : V5.cell? ⟨(U4.heap.size + 1), 3, none⟩ = some (.int .u64 (wd3 r6)) := k6.cell 3; have l6 := k6.lt; have Kk2 := Lib.hid k2; clear k2; have Kk3 := Lib.hid k3; clear k3; have Kk5 := Lib.hid k5; clear k5
  have Kk6 := Lib.hid k6; clear k6
  refine wp_region_up V5.heap.size 21 [(true, 0), (true, 1), (true, 2), (true, 3), (true, 4), (true, 6), (true, 7), (true, 11), (true, 12), (true, 13), (true, 14), (true, 15), (true, 17), (true, 18), (false, 5), (false, 8), (false, 9), (false, 10), (false, 16), (false, 19), (false, 20)] (by kernel_rfl) (by kernel_rfl) (fun _ _ d _ _ h => by cases d <;> exact h) ?_
  have hb : Below V5.heap.size V5 V5.drew := (Below.refl _ _).drew
  iterate 14
    refine wpS_takeL rfl rfl ?_
    go_big_quiet_step (rfl)
    refine wpQuiet_nil ?_
  refine wpS_doL rfl ?_
  intro K hK
  go_wp2_with ((first | (go_at_call 27; (with_reducible refine (Of_v r2 r2 rfl (Hr2.out ▸ lwy_in ax ay bx b_y _iax _iay _ibx _ib_y) _).mono ?_); rintro e w2 ⟨rfl, hn⟩) | (go_at_call 27; (with_reducible refine (Of_v r1 r1 rfl (Hr1.out ▸ lwx_in ax ay bx b_y _iax _iay _ibx _ib_y) _).mono ?_); rintro e w2 ⟨rfl, hn⟩)))
  replace hb := hb.trans (hn.mono hb.size)
  refine hK.out _ _ (up_iff.2 hb) ?_
  clear hK K; clear hn
  refine wpS_doL rfl ?_
  intro K hK
  go_wp2_with ((first | (go_at_call 22; (with_reducible refine (crtimes_is r2 v r7 Hr7.out (in64_I' (Hr2.out ▸ lwy_in ax ay bx b_y _iax _iay _ibx _ib_y)) _iv  _).mono ?_); rintro e w2 ⟨rfl, hn⟩) | (go_at_call 22; (with_reducible refine (crtimes_is r5 r8 r9 Hr9.out (Hr5.out ▸ wyx_in ax ay bx b_y _iax _iay _ibx _ib_y) (Hr8.out ▸ subv_in y r7)  _).mono ?_); rintro e w2 ⟨rfl, hn⟩) | (go_at_call 22; (with_reducible refine (crtimes_is r1 v r10 Hr10.out (in64_I' (Hr1.out ▸ lwx_in ax ay bx b_y _iax _iay _ibx _ib_y)) _iv  _).mono ?_); rintro e w2 ⟨rfl, hn⟩)))
  replace hb := hb.trans (hn.mono hb.size)
  refine hK.out _ _ (up_iff.2 hb) ?_
  clear hK K; clear hn
  refine wpS_doL rfl ?_
  intro K hK
  go_wp2_with ((first | (go_at_call 53; (with_reducible refine (crless_is y r7 r8 Hr8.out _iy (Hr7.out ▸ mulv_in r2 v)  _).mono ?_); rintro e w2 ⟨rfl, hn⟩) | (go_at_call 53; (with_reducible refine (crless_is x r10 r11 Hr11.out _ix (Hr10.out ▸ mulv_in r1 v)  _).mono ?_); rintro e w2 ⟨rfl, hn⟩)))
  replace hb := hb.trans (hn.mono hb.size)
  refine hK.out _ _ (up_iff.2 hb) ?_
  clear hK K; clear hn
  refine wpS_doL rfl ?_
  intro K hK
  go_wp2_with ((first | (go_at_call 22; (with_reducible refine (crtimes_is r2 v r7 Hr7.out (in64_I' (Hr2.out ▸ lwy_in ax ay bx b_y _iax _iay _ibx _ib_y)) _iv  _).mono ?_); rintro e w2 ⟨rfl, hn⟩) | (go_at_call 22; (with_reducible refine (crtimes_is r5 r8 r9 Hr9.out (Hr5.out ▸ wyx_in ax ay bx b_y _iax _iay _ibx _ib_y) (Hr8.out ▸ subv_in y r7)  _).mono ?_); rintro e w2 ⟨rfl, hn⟩) | (go_at_call 22; (with_reducible refine (crtimes_is r1 v r10 Hr10.out (in64_I' (Hr1.out ▸ lwx_in ax ay bx b_y _iax _iay _ibx _ib_y)) _iv  _).mono ?_); rintro e w2 ⟨rfl, hn⟩)))
  replace hb := hb.trans (hn.mono hb.size)
  refine hK.out _ _ (up_iff.2 hb) ?_
  clear hK K; clear hn
  refine wpS_doL rfl ?_
  intro K hK
  go_wp2_with ((first | (go_at_call 27; (with_reducible refine (Of_v r2 r2 rfl (Hr2.out ▸ lwy_in ax ay bx b_y _iax _iay _ibx _ib_y) _).mono ?_); rintro e w2 ⟨rfl, hn⟩) | (go_at_call 27; (with_reducible refine (Of_v r1 r1 rfl (Hr1.out ▸ lwx_in ax ay bx b_y _iax _iay _ibx _ib_y) _).mono ?_); rintro e w2 ⟨rfl, hn⟩)))
  replace hb := hb.trans (hn.mono hb.size)
  refine hK.out _ _ (up_iff.2 hb) ?_
  clear hK K; clear hn
  refine wpS_doL rfl ?_
  intro K hK
  go_wp2_with ((first | (go_at_call 22; (with_reducible refine (crtimes_is r2 v r7 Hr7.out (in64_I' (Hr2.out ▸ lwy_in ax ay bx b_y _iax _iay _ibx _ib_y)) _iv  _).mono ?_); rintro e w2 ⟨rfl, hn⟩) | (go_at_call 22; (with_reducible refine (crtimes_is r5 r8 r9 Hr9.out (Hr5.out ▸ wyx_in ax ay bx b_y _iax _iay _ibx _ib_y) (Hr8.out ▸ subv_in y r7)  _).mono ?_); rintro e w2 ⟨rfl, hn⟩) | (go_at_call 22; (with_reducible refine (crtimes_is r1 v r10 Hr10.out (in64_I' (Hr1.out ▸ lwx_in ax ay bx b_y _iax _iay _ibx _ib_y)) _iv  _).mono ?_); rintro e w2 ⟨rfl, hn⟩)))
  replace hb := hb.trans (hn.mono hb.size)
  refine hK.out _ _ (up_iff.2 hb) ?_
  clear hK K; clear hn
  refine wpS_doL rfl ?_
  intro K hK
  go_wp2_with ((first | (go_at_call 53; (with_reducible refine (crless_is y r7 r8 Hr8.out _iy (Hr7.out ▸ mulv_in r2 v)  _).mono ?_); rintro e w2 ⟨rfl, hn⟩) | (go_at_call 53; (with_reducible refine (crless_is x r10 r11 Hr11.out _ix (Hr10.out ▸ mulv_in r1 v)  _).mono ?_); rintro e w2 ⟨rfl, hn⟩)))
  replace hb := hb.trans (hn.mono hb.size)
  refine hK.out _ _ (up_iff.2 hb) ?_
  clear hK K; clear hn
  refine wpS_nil ?_
  simp only [List.drop_succ_cons, List.drop_zero]
  first | refine calls_w ?_ | refine name_world ?_ | refine list_world ?_ | refine post_world ?_
  intro U6 hU6
  first | subst hU6 | (rw [← hU6] at hb; clear hU6)
  clear c2_0 c2_1 c2_2 c2_3 c2_4 c2_5 c2_6 c2_7 c2_8 c2_9 c2_10 c2_11 l2 c3_0 c3_1 l3 c5_0 c5_1 c5_2 c5_3 l5 c6_0 c6_1 c6_2 c6_3 l6; have k2 := Kk2.out.of hb; clear Kk2; have k3 := Kk3.out.of hb; clear Kk3; have k5 := Kk5.out.of hb; clear Kk5; have k6 := Kk6.out.of hb; clear Kk6
  replace hb0 := hb0.trans (hb.mono hb0.size)
  clear hb
  go_wp2_with fail
  obtain ⟨r12, hr12⟩ : ∃ o_o : Int, mulv r6 r11 = o_o := ⟨_, rfl⟩
  have Hr12 := Lib.hid hr12; clear hr12
  refine (crtimes_is r6 r11 r12 Hr12.out (Hr6.out ▸ wyy_in ax ay bx b_y _iax _iay _ibx _ib_y) (Hr11.out ▸ subv_in x r10)  _).mono ?_
  rintro e U7 ⟨rfl, hn⟩
  clear k2 k3 k5 k6
  replace hb0 := hb0.trans (hn.mono hb0.size)
  clear hn
  go_wp2_with fail
  obtain ⟨r13, hr13⟩ : ∃ o_o : Int, subv r9 r12 = o_o := ⟨_, rfl⟩
  have Hr13 := Lib.hid hr13; clear hr13
  refine (crless_is r9 r12 r13 Hr13.out (Hr9.out ▸ mulv_in r5 r8) (Hr12.out ▸ mulv_in r6 r11)  _).mono ?_
  rintro e U8 ⟨rfl, hn⟩
  replace hb0 := hb0.trans (hn.mono hb0.size)
  clear hn
  go_wp2_with fail
  obtain ⟨r14, hr14⟩ : ∃ o_o : Int, r13.sign = o_o := ⟨_, rfl⟩
  have Hr14 := Lib.hid hr14; clear hr14
  refine (Sign_v r13 r14 Hr14.out (Hr13.out ▸ subv_in r9 r12) _).mono ?_
  rintro e U9 ⟨rfl, hn⟩
  replace hb0 := hb0.trans (hn.mono hb0.size)
  clear hn
  have e0 : r14 = R0 := by rw [← HR0.out]; unfold sde; (try rw [Hr1.out]); (try rw [Hr2.out]); (try rw [Hr3.out]); (try rw [Hr4.out]); (try rw [Hr5.out]); (try rw [Hr6.out]); (try rw [Hr7.out]); (try rw [Hr8.out]); (try rw [Hr9.out]); (try rw [Hr10.out]); (try rw [Hr11.out]); (try rw [Hr12.out]); (try rw [Hr13.out]); (try rw [Hr14.out]); all_goals first | rfl | simp
  subst e0
  go_wp2
  first | go_ret | go_ret2
  exact ⟨by first | rfl | simp, hb0⟩
end Go.Proofs.Ytkaolhlmimalkaa

