/- My texts Bs6, Bs7, Bs8, TrA, TrB, TrC, TrD, TrE, RegKB, TrF, TrG, TrH, TrI, AwNB, AwUB, TrJ, PaA, joined: what the last one needs of them. Conditions: as each lemma says. -/
import Derived.Test.YtdlpfiiakmhnlaaSFl1
import Derived.KernelRfl
import Derived.StillTail
import Derived.OrdersHeld
import Derived.Deep.Quiet
import Derived.Below
import Derived.WalkKit
import Derived.Test.YtdlpfiiakmhnlaaProg
import Derived.WalkSpells
import Derived.StillTactics
import Derived.Laws.Pointers
import Derived.Deep.RegionHeld3
import Derived.RowKit3
import Derived.Deep.QuietTactic
import Derived.BigQuiet
import Derived.BigRegion
import Derived.Lib.Hide
import Derived.WalkSmall
import Derived.Laws.BitsAllLaws
import Derived.IntWalk
import Derived.Deep.OwnRows
import Derived.Deep.LoopGhost
import Derived.Shelf.Bits.Mul64
import Derived.ProofKit
import Derived.OpenShut
import Derived.ShutString
import Derived.ChangeOld
import Derived.Lib.SmallJoins
import Derived.Laws.IdiomArrays
import Derived.Laws.CopyOwn
import Derived.Laws.AppendOwn
import Derived.Deep.DeepAppendRoom
import Derived.Lib.AppendZerosOnto
import Derived.Lib.Overlaps
import Derived.Deep.RegionLaw
import Derived.Shelf.RegionOpenPlain
import Derived.Deep.RegionWith
import Derived.Sort.LoopGhostIn
import Derived.RangeFuncNested
import Derived.RangeFuncBound
import Derived.RangeFuncCalls
import Derived.RangeFuncLeaves
import Derived.OwnWalk
import Derived.OwnWalkIn
import Derived.TacticsInMore
import Derived.LoopNIn
import Derived.LoopIn
import Derived.Deep.DeepFit
import Derived.Deep.DeepCutAuto
import Derived.Shelf.Abstract
import Derived.Shelf.RegionOpen
import Derived.Maps.OwnIn
import Derived.WalkMore
import Derived.Deep.SlicePairs
namespace Go.Proofs.Ytdlpfiiakmhnlaa
open Go.RowKit

theorem dg_get {ds : List Int} {j : Nat} (h : j < ds.length) : (dg ds).toArray[j]? = some (.int .i64 (ds.getD j 0)) := by
  unfold dg; simp [h]
theorem dg_put (ds : List Int) (j : Nat) (v : Int) : (dg ds).toArray.setIfInBounds j (.int .i64 v) = (dg (ds.set j v)).toArray := by
  unfold dg; rw [List.setIfInBounds_toArray, List.map_set]
theorem dg_zero (n : Nat) : madeCells #[.int .i64 0] n = (dg (List.replicate n 0)).toArray := by
  unfold dg; rw [List.map_replicate, ← toList_madeCells_one]

/-- where the product stands -/
structure MulAt (w : World) (v1 v2 : Array Value) (out : List Int) (n : Nat) (wr : World) : Prop where
  k0 : Blk wr w.heap.size v1 109
  k1 : Blk wr (w.heap.size + 1) v2 109
  k2 : Blk wr (w.heap.size + 1 + 1) #[.bool false, .slice none 0 0] 109
  k3 : Blk wr (w.heap.size + 1 + 1 + 1) (dg out).toArray 3
  len : out.length = n
  below : Below w.heap.size w wr
theorem MulAt.drew {w : World} {v1 v2 : Array Value} {out : List Int} {n : Nat} {wr : World} (h : MulAt w v1 v2 out n wr) : MulAt w v1 v2 out n wr.drew := ⟨h.k0, h.k1, h.k2, h.k3, h.len, h.below.drew⟩
theorem MulAt.put {w : World} {v1 v2 : Array Value} {out : List Int} {n : Nat} {wr : World} (h : MulAt w v1 v2 out n wr) (j : Nat) (v : Int) : MulAt w v1 v2 (out.set j v) n (wr.setCell ⟨w.heap.size + 1 + 1 + 1, j, none⟩ (.int .i64 v)) :=
  ⟨h.k0.set (by omega) _ _ _, h.k1.set (by omega) _ _ _, h.k2.set (by omega) _ _ _, by rw [← dg_put]; exact Blk.put h.k3 _ _, by rw [List.length_set]; exact h.len, h.below.setCell (by show _ ≤ w.heap.size + 1 + 1 + 1; omega) _⟩
theorem MulAt.outc {w : World} {v1 v2 : Array Value} {out : List Int} {n : Nat} {wr : World} (h : MulAt w v1 v2 out n wr) {j : Nat} (hj : j < n) : wr.cell? ⟨w.heap.size + 1 + 1 + 1, j, none⟩ = some (.int .i64 (out.getD j 0)) := by
  rw [h.k3.cell]; exact dg_get (by rw [h.len]; exact hj)

set_option maxRecDepth 100000 in
set_option maxHeartbeats 2000000 in
theorem bigMul_go (neg neg' : Bool) (ao bo : Option Addr) (b b' cap cap' : Nat) (xs ys : List Int) (w : World) (ha : Sl w ao b cap xs) (hb : Sl w bo b' cap' ys) (da : DigOk xs) (db : DigOk ys)
    (hl1 : xs.length < 268435456) (hl2 : ys.length < 268435456) :
    Calls Try.prog 84 #[.agg #[.bool neg, .slice ao xs.length cap], .agg #[.bool neg', .slice bo ys.length cap']] w
      (GivesBig w (bif neg != neg' then -(dval xs * dval ys) else dval xs * dval ys) (xs.length + ys.length + 1)) := by
 have HA := Lib.hid ha
 have HB := Lib.hid hb
 have D := Lib.hid (And.intro da db)
 have la := hl1
 have lb := hl2
 clear ha hb da db hl1 hl2
 obtain ⟨N, hN⟩ : ∃ N, N = xs.length := ⟨_, rfl⟩
 obtain ⟨M, hM⟩ : ∃ M, M = ys.length := ⟨_, rfl⟩
 have HN := Lib.hid hN
 have HM := Lib.hid hM
 rw [← hN] at la ⊢
 rw [← hM] at lb ⊢
 clear hN hM
 have hmk := run_make_row' (P := Try.prog) 29 3 (.int .i64 0) 8 Try.underlying29 info_int rfl .i64 .i64 (N + M + 1) (by omega) (by omega)
 have e1 : ((N + M + 1 : Nat) : Int) = (N : Int) + (M : Int) + 1 := by omega
 rw [e1, dg_zero] at hmk
 clear e1
 go_enter Try.func84, Try.ntmps84
 go_wp2_with fail
 clear hmk
 refine name_world ?_
 intro W hW
 have hd0 : MulAt w #[.bool neg, .slice ao N cap] #[.bool neg', .slice bo M cap'] (List.replicate (N + M + 1) 0) (N + M + 1) W := by
  rw [hW]
  exact ⟨((Blk.new _ _ _).alloc _).alloc _ |>.alloc _, ((Blk.new1 _ _ _ _).alloc _).alloc _, (Blk.new2 _ _ _ _ _).alloc _, Blk.new3 _ _ _ _ _ _, List.length_replicate .., (below_a3 _ _ _ _).alloc (by simp; omega) _⟩
 clear hW
 go_loopw [6] (fun i wr => ∃ (k : Nat) (out : List Int), k ≤ N ∧ i = .int .i64 k ∧ Hid (Prd xs ys (N + M + 1) k 0 out 0) ∧ MulAt w #[.bool neg, .slice ao N cap] #[.bool neg', .slice bo M cap'] out (N + M + 1) wr) (fun i _ => N - (intOf i).toNat)
 case atStart => exact ⟨0, _, Nat.zero_le _, rfl, Prd.zero _ _ _, hd0⟩
 case round =>
  clear hd0 W
  rename_i wr
  obtain ⟨i, out, hi, rfl, hp, hd⟩ := hrel
  have c0 := hd.k0.cell 1
  have c1 := hd.k1.cell 1
  simp only [List.getElem?_toArray, List.getElem?_cons_zero, List.getElem?_cons_succ] at c0 c1
  by_cases h1 : i < N
  ·have HD := Lib.hid hd
   clear hd
   go_wp2_with fail
   obtain ⟨wo, rfl⟩ : ∃ wo : World, wo = wr := ⟨_, rfl⟩
   have hd := HD.out
   clear c0 c1 HD
   go_loopw [7, 8] (fun c k wr => ∃ (j : Nat) (cv : Int) (out : List Int), j ≤ M ∧ k = .int .i64 j ∧ c = .int .i64 cv ∧ 0 ≤ cv ∧ cv ≤ 32767 ∧ Hid (Prd xs ys (N + M + 1) i j out cv) ∧ MulAt w #[.bool neg, .slice ao N cap] #[.bool neg', .slice bo M cap'] out (N + M + 1) wr) (fun _ k _ => M - (intOf k).toNat)
   case atStart => exact ⟨0, 0, out, Nat.zero_le _, rfl, rfl, by decide, by decide, hp, hd⟩
   case round =>
    clear hd hp
    rename World => wi
    obtain ⟨j, cv, out, hj, rfl, rfl, cv0, cv1, hp, hd⟩ := hrel
    have c0 := hd.k0.cell 1
    have c1 := hd.k1.cell 1
    simp only [List.getElem?_toArray, List.getElem?_cons_zero, List.getElem?_cons_succ] at c0 c1
    by_cases h2 : j < M
    ·have ja : i < xs.length := by rw [← HN.out]; exact h1
     obtain rfl := HA.out.ptr (by omega)
     have e0 : wi.cell? ⟨b, i, none⟩ = some (.int .i64 (xs.getD i 0)) := by rw [hd.below.cell (p := ⟨b, i, none⟩) (HA.out.blk (by omega))]; exact HA.out.cell i ja
     have lb0 : b < wi.heap.size := Nat.lt_of_lt_of_le (HA.out.blk (by omega)) hd.below.size
     clear ja
     have jb : j < ys.length := by rw [← HM.out]; exact h2
     obtain rfl := HB.out.ptr (by omega)
     have e1 : wi.cell? ⟨b', j, none⟩ = some (.int .i64 (ys.getD j 0)) := by rw [hd.below.cell (p := ⟨b', j, none⟩) (HB.out.blk (by omega))]; exact HB.out.cell j jb
     have lb1 : b' < wi.heap.size := Nat.lt_of_lt_of_le (HB.out.blk (by omega)) hd.below.size
     have hst := fun (x y a : Int) (hx : x = xs.getD i 0) (hy : y = ys.getD j 0) (ha : a = out.getD (i + j) 0) => hp.out.step D.out.1 D.out.2 jb (by rw [← HM.out]; omega) hx hy ha
     clear jb
     have e2 := hd.outc (j := i + j) (by omega)
     obtain ⟨x0, x1⟩ := D.out.1.get i
     obtain ⟨y0, y1⟩ := D.out.2.get j
     obtain ⟨a0, a1⟩ := hp.out.ok.get (i + j)
     obtain ⟨x, hx⟩ : ∃ x, x = xs.getD i 0 := ⟨_, rfl⟩
     obtain ⟨y, hy⟩ : ∃ y, y = ys.getD j 0 := ⟨_, rfl⟩
     obtain ⟨a, ha⟩ : ∃ a, a = out.getD (i + j) 0 := ⟨_, rfl⟩
     have ST := Lib.hid (hst x y a hx hy ha)
     clear hst
     rw [← hx] at x0 x1 e0
     rw [← hy] at y0 y1 e1
     rw [← ha] at a0 a1 e2
     clear hx hy ha
     obtain ⟨n0, n1, n2, n3⟩ := prd_n ⟨a0, a1⟩ ⟨x0, x1⟩ ⟨y0, y1⟩ ⟨cv0, cv1⟩
     have f3 := hd.k3.free (i + j)
     have HD := Lib.hid hd
     clear hd hp
     go_wp2_with fail
     refine name_world ?_
     intro W hW
     subst hW
     have lw := HD.out.k0.lt
     have lw1 := HD.out.k1.lt
     have lw3 := HD.out.k3.lt
     refine wp_region_up W.heap.size 19 [(true, 0), (true, 1), (true, 2), (true, 3), (true, 4), (true, 5), (true, 6), (true, 7), (true, 8), (true, 9), (true, 10), (true, 11), (true, 12), (true, 13), (true, 14), (true, 15), (true, 16), (true, 17), (true, 18)] (by kernel_rfl) (by kernel_rfl) (fun _ _ d _ _ h => by cases d <;> exact h) ?_
     have hb : Below W.heap.size W W.drew := (Below.refl _ _).drew
     iterate 19
      refine wpS_takeL rfl rfl ?_
      go_big_quiet_step (rfl)
      refine wpQuiet_nil ?_
     refine wpS_nil ?_
     simp only [List.drop_succ_cons, List.drop_zero]
     clear c0 c1 e0 e1 lw lw1 lw3 lb0 lb1
     go_wp2
     go_roundw
     case rel => exact ⟨j + 1, (a + x * y + cv) / 32768, _, by omega, by go_num, rfl, n2, n3, ST.out, HD.out.drew.put _ _⟩
     case measure => simp [intOf]; omega
    ·have hjm : j = M := by omega
     subst hjm
     have e2 := hd.outc (j := i + j) (by omega)
     obtain ⟨a0, a1⟩ := hp.out.ok.get (i + j)
     obtain ⟨a, ha⟩ : ∃ a, a = out.getD (i + j) 0 := ⟨_, rfl⟩
     have hst : Prd xs ys (N + j + 1) (i + 1) 0 (out.set (i + j) (a + cv)) 0 := by
      have e := HM.out
      subst e
      exact hp.out.row (by omega) ha
     rw [← ha] at a0 a1 e2
     have ST := Lib.hid hst
     have f3 := hd.k3.free (i + j)
     have HD := Lib.hid hd
     clear hd hp hst ha
     go_wp2
     go_roundw
     case rel => exact ⟨i + 1, _, by omega, by go_num, ST.out, HD.out.put _ _⟩
     case measure => simp [intOf]; omega
  ·have hin : i = N := by omega
   have hp2 : DigOk out ∧ dval out = dval xs * dval ys := by
    have e := hin.trans HN.out
    subst e
    exact hp.out.all rfl
   have HP := Lib.hid hp2
   have hlen := hd.len
   have d2 := hd.k0.cell 0
   have d3 := hd.k1.cell 0
   simp only [List.getElem?_toArray, List.getElem?_cons_zero] at d2 d3
   have hlo : Sl wr (some ⟨w.heap.size + 1 + 1 + 1, 0, none⟩) (w.heap.size + 1 + 1 + 1) (N + M + 1) out := by
    refine ⟨fun _ => rfl, fun h => (by cases h), by omega, by omega, by omega, fun k hk => ?_, fun _ => hd.k3.lt⟩
    rw [hlen] at hk
    exact hd.outc hk
   have SL := Lib.hid hlo
   have HL := Lib.hid hlen
   have HD := Lib.hid hd
   clear hp2 hp hin hlen hlo hd
   go_wp2_with fail
   have T := trim_any (!neg == neg') (some ⟨w.heap.size + 1 + 1 + 1, 0, none⟩) (w.heap.size + 1 + 1 + 1) (N + M + 1) out wr SL.out HP.out.1 (N + M + 1) (Nat.le_of_eq HL.out)
   rw [HL.out, HP.out.2] at T
   refine T.mono ?_
   clear T
   rintro e w3 ⟨v3, rfl, hbig, hn⟩
   have HBG := Lib.hid hbig
   have hvv := hbig.shape
   clear hbig
   obtain ⟨n3, a3, q3, c3, rfl⟩ := hvv
   have k2 := HD.out.k2.of hn
   have hb2 := HD.out.below.trans (hn.mono HD.out.below.size)
   have d4 := k2.cell 0
   have d5 := k2.cell 1
   have f4 := k2.free 0
   have f5 := k2.free 1
   simp only [List.getElem?_toArray, List.getElem?_cons_zero, List.getElem?_cons_succ] at d4 d5
   clear hn k2 c0 c1 d2 d3
   go_wp2
   simp [bodyPost, results, Try.results84, go_sem, d4, d5]
   refine ⟨_, rfl, ?_, set2_below hb2 (by omega) _ _⟩
   have hx : (!neg == neg') = (neg != neg') := by cases neg <;> cases neg' <;> rfl
   rw [← hx]
   exact HBG.out.set2 d4 (.bool n3) (.slice a3 q3 c3)

theorem bigMul_any (v v' : Value) (n m : Int) (L L' : Nat) (w : World) (h : Big w v n L) (h' : Big w v' m L') (hL : L + L' < 268435456) :
    Calls Try.prog 84 #[v, v'] w (GivesBig w (n * m) (L + L')) := by
  obtain ⟨neg, ao, b, cap, ds, rfl, hs, hd, hn, hz, hv, hl⟩ := h
  obtain ⟨neg', ao', b', cap', ds', rfl, hs', hd', hn', hz', hv', hl'⟩ := h'
  refine (bigMul_go neg neg' ao ao' b b' cap cap' ds ds' w hs hs' hd hd' (by omega) (by omega)).mono ?_
  intro e w2 hg
  have hx : n * m = (bif neg != neg' then -(dval ds * dval ds') else dval ds * dval ds') := by
    rw [hv, hv']; cases neg <;> cases neg' <;> simp [Int.neg_mul, Int.mul_neg]
  rw [hx]
  refine hg.fit ?_
  have h1 := dval_bd hd
  have h2 := dval_bd hd'
  have h3 : 0 ≤ dval ds * dval ds' := Int.mul_nonneg h1.1 h2.1
  have h4 : dval ds * dval ds' < P15 (L + L') := by
    have g1 := P15_le hl
    have g2 := P15_le hl'
    rw [P15_add]
    have g3 : dval ds * dval ds' ≤ (P15 L - 1) * (P15 L' - 1) := Int.mul_le_mul (by omega) (by omega) h2.1 (by have := P15_pos L; omega)
    have g4 : (P15 L - 1) * (P15 L' - 1) = P15 L * P15 L' - P15 L - P15 L' + 1 := by rw [Int.sub_mul, Int.mul_sub]; omega
    have := P15_pos L; have := P15_pos L'
    omega
  cases neg <;> cases neg' <;> simp <;> omega
end Go.Proofs.Ytdlpfiiakmhnlaa
namespace Go.Proofs.Ytdlpfiiakmhnlaa
open Go.RowKit

end Go.Proofs.Ytdlpfiiakmhnlaa
namespace Go.Proofs.Ytdlpfiiakmhnlaa
open Go.RowKit

/-- where the search for the common one stands -/
structure ComAt (w : World) (a b : Int) (wr : World) : Prop where
  va : Var wr w.heap.size a
  vb : Var wr (w.heap.size + 1) b
  v0 : Var wr (w.heap.size + 1 + 1) 0
  below : Below w.heap.size w wr
theorem ComAt.of {w : World} {a b : Int} {wr w' : World} (h : ComAt w a b wr) (hn : Below wr.heap.size wr w') : ComAt w a b w' :=
  ⟨h.va.of hn, h.vb.of hn, h.v0.of hn, h.below.trans (hn.mono h.below.size)⟩

end Go.Proofs.Ytdlpfiiakmhnlaa
namespace Go.Proofs.Ytdlpfiiakmhnlaa
open Go.RowKit

theorem Sign_is (x : Int) (s : Int) (hs : x.sign = s) (w : World) (h : InI x) :
    Calls Try.prog 94 #[wI x] w fun e w' => e = .returned (.int .i64 s) ∧ Below w.heap.size w w' := hs ▸ Sign_any x w h
end Go.Proofs.Ytdlpfiiakmhnlaa
namespace Go.Proofs.Ytdlpfiiakmhnlaa
open Go.RowKit

end Go.Proofs.Ytdlpfiiakmhnlaa
namespace Go.Proofs.Ytdlpfiiakmhnlaa
open Go.RowKit

/-- a fraction of two Bigs -/
def BRat (w : World) (v : Value) (n d : Int) (L : Nat) : Prop :=
  ∃ (n1 : Bool) (a1 : Option Addr) (l1 c1 : Nat) (n2 : Bool) (a2 : Option Addr) (l2 c2 : Nat), v = .agg #[.bool n1, .slice a1 l1 c1, .bool n2, .slice a2 l2 c2] ∧ Big w (.agg #[.bool n1, .slice a1 l1 c1]) n L ∧ Big w (.agg #[.bool n2, .slice a2 l2 c2]) d L
theorem BRat.of {w w' : World} {v : Value} {n d : Int} {L : Nat} (h : BRat w v n d L) (hb : Below w.heap.size w w') : BRat w' v n d L := by
  obtain ⟨n1, a1, l1, c1, n2, a2, l2, c2, h1, h2, h3⟩ := h
  exact ⟨n1, a1, l1, c1, n2, a2, l2, c2, h1, h2.of hb, h3.of hb⟩
instance (x : Int) : Decidable (In64 x) := by unfold In64; exact inferInstance
end Go.Proofs.Ytdlpfiiakmhnlaa
namespace Go.Proofs.Ytdlpfiiakmhnlaa
open Go.RowKit

set_option maxRecDepth 100000 in
set_option maxHeartbeats 1000000 in
theorem mul64_nat (x y : Nat) (hx : x < 18446744073709551616) (hy : y < 18446744073709551616) (w : World) :
    Calls Try.prog 114 #[.int .u64 x, .int .u64 y] w fun e w' => e = .returned (.tuple #[.int .u64 ((x * y / 18446744073709551616 : Nat) : Int), .int .u64 ((x * y % 18446744073709551616 : Nat) : Int)]) ∧ w' = w := by
  obtain ⟨bd, bt, bw, hhi⟩ := Go.Lib.mul64_hi x y hx hy
  have ba := Go.Lib.half_mul_le (a := x / 4294967296) (b := y / 4294967296) (by omega) (by omega)
  have bb := Go.Lib.half_mul_le (a := x / 4294967296) (b := y % 4294967296) (by omega) (by omega)
  have bc := Go.Lib.half_mul_le (a := x % 4294967296) (b := y / 4294967296) (by omega) (by omega)
  have ba' : x / 4294967296 * (y / 4294967296) < 18446744073709551616 := by omega
  have bb' : x / 4294967296 * (y % 4294967296) < 18446744073709551616 := by omega
  have bc' : x % 4294967296 * (y / 4294967296) < 18446744073709551616 := by omega
  have bh1 : x / 4294967296 * (y / 4294967296) + (x / 4294967296 * (y % 4294967296) + x % 4294967296 * (y % 4294967296) / 4294967296) / 4294967296 < 18446744073709551616 := by omega
  have bh : x / 4294967296 * (y / 4294967296) + (x / 4294967296 * (y % 4294967296) + x % 4294967296 * (y % 4294967296) / 4294967296) / 4294967296 + ((x / 4294967296 * (y % 4294967296) + x % 4294967296 * (y % 4294967296) / 4294967296) % 4294967296 + x % 4294967296 * (y / 4294967296)) / 4294967296 < 18446744073709551616 := by omega
  go_enter Try.func114, Try.ntmps114
  go_wp2
  simp only [Mul64.maskN x hx, Mul64.maskN y hy, Mul64.divN, Mul64.mulN, Mul64.addN, Mul64.wrapN _ bd, Mul64.wrapN _ bb', Mul64.wrapN _ bt, Mul64.maskN _ bt, Mul64.wrapN _ bc', Mul64.wrapN _ bw, Mul64.wrapN _ ba', Mul64.wrapN _ bh1, Mul64.wrapN _ bh, Mul64.wrapM (x * y)]
  rw [hhi]
  go_ret2
  exact ⟨rfl, rfl⟩

theorem mul64_any (x y : Int) (hx : Wd x) (hy : Wd y) (w : World) :
    Calls Try.prog 114 #[.int .u64 x, .int .u64 y] w fun e w' => e = .returned (.tuple #[.int .u64 (x * y / 18446744073709551616), .int .u64 (x * y % 18446744073709551616)]) ∧ w = w' := by
  obtain ⟨x0, x1⟩ := hx
  obtain ⟨y0, y1⟩ := hy
  obtain ⟨m, rfl⟩ := Int.eq_ofNat_of_zero_le x0
  obtain ⟨n, rfl⟩ := Int.eq_ofNat_of_zero_le y0
  refine (mul64_nat m n (by omega) (by omega) w).mono fun e w' ⟨he, hw⟩ => ⟨?_, hw.symm⟩
  rw [he]
  simp only [Int.natCast_ediv, Int.natCast_emod, Int.natCast_mul]
  rfl
end Go.Proofs.Ytdlpfiiakmhnlaa
namespace Go.Proofs.Ytdlpfiiakmhnlaa

/-- 2^64 to the power of n -/
def P64 (n : Nat) : Int := 18446744073709551616 ^ n
theorem P64_0 : P64 0 = 1 := rfl
theorem P64_succ (n : Nat) : P64 (n + 1) = 18446744073709551616 * P64 n := by unfold P64; rw [Int.pow_succ, Int.mul_comm]
theorem P64_add (m n : Nat) : P64 (m + n) = P64 m * P64 n := by unfold P64; rw [Int.pow_add]

theorem uval_append (a b : List Int) : uval (a ++ b) = uval a + P64 a.length * uval b := by
  induction a with
  | nil => simp [uval, P64_0]
  | cons d t ih => rw [List.cons_append, uval, uval, ih, List.length_cons, P64_succ, Int.mul_add, Int.mul_assoc]; omega
theorem uval_take_succ (ds : List Int) (k : Nat) : uval (ds.take (k + 1)) = uval (ds.take k) + P64 k * ds.getD k 0 := by
  rcases Nat.lt_or_ge k ds.length with h | h
  · rw [List.take_succ_eq_append_getElem h, uval_append, List.length_take, Nat.min_eq_left (by omega), getD_in' h]
    simp [uval]
  · rw [List.take_of_length_le (by omega), List.take_of_length_le h, getD_out h]; simp
theorem uval_set {ds : List Int} {j : Nat} (hj : j < ds.length) (v : Int) : uval (ds.set j v) = uval ds + P64 j * (v - ds.getD j 0) := by
  induction ds generalizing j with
  | nil => cases hj
  | cons d t ih =>
    cases j with
    | zero => simp [uval, P64_0]; omega
    | succ j =>
      have hj' : j < t.length := by simpa using hj
      rw [List.set_cons_succ, uval, uval, ih hj', P64_succ, List.getD_cons_succ, Int.mul_add, Int.mul_assoc]; omega
theorem WordsOk.set {ds : List Int} (h : WordsOk ds) {v : Int} (hv : Wd v) (j : Nat) : WordsOk (ds.set j v) := fun x hx => by
  rcases List.mem_or_eq_of_mem_set hx with h' | h'
  · exact h x h'
  · rw [h']; exact hv
theorem WordsOk.get {ws : List Int} (h : WordsOk ws) (i : Nat) : Wd (ws.getD i 0) := by
  by_cases hi : i < ws.length
  · rw [getD_in' hi]; exact h _ (List.getElem_mem hi)
  · rw [getD_out (by omega)]; exact ⟨by decide, by decide⟩

/-- one step of the product: what the two sums with carry make of it -/
theorem mul_step {x y o c : Int} (hx : Wd x) (hy : Wd y) (ho : Wd o) (hc : Wd c) :
    Wd (x * y / 18446744073709551616) ∧ Wd (x * y % 18446744073709551616) ∧
    (0 ≤ (x * y % 18446744073709551616 + o) / 18446744073709551616 ∧ (x * y % 18446744073709551616 + o) / 18446744073709551616 ≤ 1) ∧ Wd ((x * y % 18446744073709551616 + o) % 18446744073709551616) ∧
    Wd (x * y / 18446744073709551616 + (x * y % 18446744073709551616 + o) / 18446744073709551616) ∧
    ((x * y % 18446744073709551616 + o) % 18446744073709551616 + c) % 18446744073709551616 = (x * y + o + c) % 18446744073709551616 ∧
    x * y / 18446744073709551616 + (x * y % 18446744073709551616 + o) / 18446744073709551616 + ((x * y % 18446744073709551616 + o) % 18446744073709551616 + c) / 18446744073709551616 = (x * y + o + c) / 18446744073709551616 ∧
    Wd ((x * y + o + c) / 18446744073709551616) ∧ Wd ((x * y + o + c) % 18446744073709551616) := by
  obtain ⟨x0, x1⟩ := hx
  obtain ⟨y0, y1⟩ := hy
  obtain ⟨o0, o1⟩ := ho
  obtain ⟨c0, c1⟩ := hc
  have h1 : 0 ≤ x * y := Int.mul_nonneg x0 y0
  have h2 : x * y ≤ 18446744073709551615 * 18446744073709551615 := Int.mul_le_mul (by omega) (by omega) y0 (by decide)
  generalize x * y = p at *
  have h3 : p ≤ 340282366920938463426481119284349108225 := h2
  refine ⟨⟨?_, ?_⟩, ⟨?_, ?_⟩, ⟨?_, ?_⟩, ⟨?_, ?_⟩, ⟨?_, ?_⟩, ?_, ?_, ⟨?_, ?_⟩, ⟨?_, ?_⟩⟩ <;> omega

/-- the product so far: all of the first i words, and of the next one as many as k of the other number's -/
structure Prw (xs ys : List Int) (n i k : Nat) (out : List Int) (c : Int) : Prop where
  ok : WordsOk out
  len : out.length = n
  sum : uval out + P64 (i + k) * c = uval (xs.take i) * uval ys + P64 i * (xs.getD i 0 * uval (ys.take k))
  far : ∀ j, i + ys.length ≤ j → out.getD j 0 = 0
  cw : Wd c
theorem Prw.start {xs ys : List Int} {n i : Nat} {out : List Int} (h1 : WordsOk out) (h2 : out.length = n) (h3 : uval out = uval (xs.take i) * uval ys) (h4 : ∀ j, i + ys.length ≤ j → out.getD j 0 = 0) : Prw xs ys n i 0 out 0 :=
  ⟨h1, h2, by rw [h3]; simp [uval], h4, by decide, by decide⟩
theorem Prw.step {xs ys : List Int} {n i k : Nat} {out : List Int} {c x y a : Int} (h : Prw xs ys n i k out c) (dx : WordsOk xs) (dy : WordsOk ys) (hk : k < ys.length) (hn : i + ys.length ≤ n)
    (hx : x = xs.getD i 0) (hy : y = ys.getD k 0) (ha : a = out.getD (i + k) 0) :
    Prw xs ys n i (k + 1) (out.set (i + k) ((x * y + a + c) % 18446744073709551616)) ((x * y + a + c) / 18446744073709551616) := by
  have b := mul_step (hx ▸ dx.get i) (hy ▸ dy.get k) (ha ▸ h.ok.get (i + k)) h.cw
  obtain ⟨_, _, _, _, _, _, _, b1, b2⟩ := b
  refine ⟨h.ok.set b2 _, by rw [List.length_set]; exact h.len, ?_, fun j hj => ?_, b1⟩
  · rw [uval_set (by rw [h.len]; omega), ← ha, uval_take_succ, ← hx, ← hy, ← Nat.add_assoc, P64_succ]
    have e1 := h.sum
    rw [← hx] at e1
    have e3 : 18446744073709551616 * P64 (i + k) * ((x * y + a + c) / 18446744073709551616) = P64 (i + k) * (18446744073709551616 * ((x * y + a + c) / 18446744073709551616)) := by rw [Int.mul_comm 18446744073709551616, Int.mul_assoc]
    have e4 : P64 (i + k) * ((x * y + a + c) % 18446744073709551616 - a) + P64 (i + k) * (18446744073709551616 * ((x * y + a + c) / 18446744073709551616)) = P64 (i + k) * (x * y) + P64 (i + k) * c := by
      rw [← Int.mul_add, ← Int.mul_add]
      have e6 : (x * y + a + c) % 18446744073709551616 - a + 18446744073709551616 * ((x * y + a + c) / 18446744073709551616) = x * y + c := by
        generalize x * y = p at *
        omega
      rw [e6]
    have e5 : P64 i * (x * (uval (ys.take k) + P64 k * y)) = P64 i * (x * uval (ys.take k)) + P64 (i + k) * (x * y) := by
      rw [Int.mul_add, Int.mul_add, P64_add, Int.mul_assoc (P64 i), Int.mul_left_comm x]
    rw [e5, e3]; omega
  · rw [getD_set_ne (by omega)]; exact h.far j hj
theorem Prw.row {xs ys : List Int} {n i : Nat} {out : List Int} {c : Int} (h : Prw xs ys n i ys.length out c) (hn : i + ys.length < n) :
    Prw xs ys n (i + 1) 0 (out.set (i + ys.length) c) 0 := by
  have a0 := h.far _ (Nat.le_refl _)
  refine Prw.start (h.ok.set h.cw _) (by rw [List.length_set]; exact h.len) ?_ fun j hj => ?_
  · rw [uval_set (by rw [h.len]; omega), a0, Int.sub_zero, h.sum, List.take_of_length_le (Nat.le_refl _), uval_take_succ, Int.add_mul, Int.mul_assoc]
  · rw [getD_set_ne (by omega)]; exact h.far j (by omega)
theorem uval_repl (n : Nat) : uval (List.replicate n 0) = 0 := by
  induction n with
  | zero => rfl
  | succ n ih => rw [List.replicate_succ, uval, ih]; rfl
theorem Prw.zero (xs ys : List Int) (n : Nat) : Prw xs ys n 0 0 (List.replicate n 0) 0 := by
  refine Prw.start (fun x hx => by rw [(List.mem_replicate.1 hx).2]; exact ⟨by decide, by decide⟩) (List.length_replicate ..) (by rw [uval_repl]; simp [uval]) fun j _ => ?_
  rcases Nat.lt_or_ge j n with h | h
  · rw [getD_in' (by rw [List.length_replicate]; exact h)]; simp
  · exact getD_out (by rw [List.length_replicate]; exact h)
theorem Prw.all {xs ys : List Int} {n : Nat} {out : List Int} {c : Int} (h : Prw xs ys n xs.length 0 out c) (hc : c = 0) : WordsOk out ∧ uval out = uval xs * uval ys := by
  refine ⟨h.ok, ?_⟩
  have := h.sum
  rw [hc, Int.mul_zero, Int.add_zero, List.take_of_length_le (Nat.le_refl _)] at this
  rw [this]; simp [uval]

/-- eight words: the four high ones are 0 just if the number is below 2^256; then the low ones are its words -/
theorem eight {o0 o1 o2 o3 o4 o5 o6 o7 p : Int} (h : WordsOk [o0, o1, o2, o3, o4, o5, o6, o7]) (hp : uval [o0, o1, o2, o3, o4, o5, o6, o7] = p) :
    eq4 o4 o5 o6 o7 0 0 0 0 = decide (p < b256) ∧ (p < b256 → o0 = wd0 p ∧ o1 = wd1 p ∧ o2 = wd2 p ∧ o3 = wd3 p) := by
  have g0 : Wd o0 := h _ (by simp)
  have g1 : Wd o1 := h _ (by simp)
  have g2 : Wd o2 := h _ (by simp)
  have g3 : Wd o3 := h _ (by simp)
  have g4 : Wd o4 := h _ (by simp)
  have g5 : Wd o5 := h _ (by simp)
  have g6 : Wd o6 := h _ (by simp)
  have g7 : Wd o7 := h _ (by simp)
  have e : p = un4 o0 o1 o2 o3 + b256 * un4 o4 o5 o6 o7 := by
    rw [← hp]; simp only [uval, un4, b64, b128, b192, b256]; omega
  have l := un4_bd g0 g1 g2 g3
  have k := un4_bd g4 g5 g6 g7
  have z : eq4 o4 o5 o6 o7 0 0 0 0 = decide (un4 o4 o5 o6 o7 = 0) := by
    obtain ⟨p4, q4⟩ := g4; obtain ⟨p5, q5⟩ := g5; obtain ⟨p6, q6⟩ := g6; obtain ⟨p7, q7⟩ := g7
    rw [Bool.eq_iff_iff, decide_eq_true_iff]
    unfold eq4 un4 b64 b128 b192
    simp only [Bool.and_eq_true, beq_iff_eq]
    constructor
    · rintro ⟨⟨⟨h0, h1⟩, h2⟩, h3⟩; omega
    · intro h; exact ⟨⟨⟨by omega, by omega⟩, by omega⟩, by omega⟩
  have hz : p < b256 ↔ un4 o4 o5 o6 o7 = 0 := by
    constructor
    · intro hlt
      rcases Int.lt_or_eq_of_le k.1 with h | h
      · have : b256 * 1 ≤ b256 * un4 o4 o5 o6 o7 := Int.mul_le_mul_of_nonneg_left (by omega) (by decide)
        omega
      · exact h.symm
    · intro h; rw [h] at e; omega
  refine ⟨by rw [z, Bool.eq_iff_iff, decide_eq_true_iff, decide_eq_true_iff, hz], fun hlt => ?_⟩
  have e2 : p = un4 o0 o1 o2 o3 := by rw [e, hz.1 hlt, Int.mul_zero, Int.add_zero]
  rw [e2]
  exact ⟨(wd0_un4 g0).symm, (wd1_un4 g0 g1).symm, (wd2_un4 g0 g1 g2).symm, (wd3_un4 g0 g1 g2 g3).symm⟩
end Go.Proofs.Ytdlpfiiakmhnlaa
namespace Go.Proofs.Ytdlpfiiakmhnlaa
open Go.RowKit

def dw (ds : List Int) : List Value := ds.map (Value.int .u64)
theorem dw_get {ds : List Int} {j : Nat} (h : j < ds.length) : (dw ds).toArray[j]? = some (.int .u64 (ds.getD j 0)) := by
  unfold dw; simp [h]
theorem dw_put (ds : List Int) (j : Nat) (v : Int) : (dw ds).toArray.setIfInBounds j (.int .u64 v) = (dw (ds.set j v)).toArray := by
  unfold dw; rw [List.setIfInBounds_toArray, List.map_set]
/-- the four words of a number -/
def ws4 (x : Int) : List Int := [wd0 x, wd1 x, wd2 x, wd3 x]
theorem ws4_ok (x : Int) : WordsOk (ws4 x) := by
  intro d hd
  simp only [ws4, List.mem_cons, List.not_mem_nil, or_false] at hd
  rcases hd with rfl | rfl | rfl | rfl
  · exact wd0_Wd x
  · exact wd1_Wd x
  · exact wd2_Wd x
  · exact wd3_Wd x
theorem uval_ws4 (x : Int) : uval (ws4 x) = x % b256 := by
  rw [← un4_wd]
  simp only [ws4, uval, un4, b64, b128, b192]; omega
theorem Var.at {w : World} {b : Nat} {x : Int} (h : Var w b x) {i : Nat} (hi : i < 4) : w.cell? ⟨b, i, none⟩ = some (.int .u64 ((ws4 x).getD i 0)) := by
  rw [Blk.cell h]
  match i, hi with
  | 0, _ => rfl
  | 1, _ => rfl
  | 2, _ => rfl
  | 3, _ => rfl

/-- where the product stands -/
structure MulW (w : World) (a b : Int) (b1 b2 b3 : Nat) (out : List Int) (wr : World) : Prop where
  ka : Var wr w.heap.size a
  kb : Var wr (w.heap.size + 1) b
  k0 : Var wr (w.heap.size + 1 + 1) 0
  kx : Var wr b1 (sz a)
  ky : Var wr b2 (sz b)
  ko : Blk wr b3 (dw out).toArray 160
  len : out.length = 8
  l1 : b1 < b3
  l2 : b2 < b3
  l3 : w.heap.size + 1 + 1 < b3
  below : Below w.heap.size w wr
theorem MulW.of {w : World} {a b : Int} {b1 b2 b3 : Nat} {out : List Int} {wr w' : World} (h : MulW w a b b1 b2 b3 out wr) (hn : Below wr.heap.size wr w') : MulW w a b b1 b2 b3 out w' :=
  ⟨h.ka.of hn, h.kb.of hn, h.k0.of hn, h.kx.of hn, h.ky.of hn, h.ko.of hn, h.len, h.l1, h.l2, h.l3, h.below.trans (hn.mono h.below.size)⟩
theorem MulW.put {w : World} {a b : Int} {b1 b2 b3 : Nat} {out : List Int} {wr : World} (h : MulW w a b b1 b2 b3 out wr) (j : Nat) (v : Int) : MulW w a b b1 b2 b3 (out.set j v) (wr.setCell ⟨b3, j, none⟩ (.int .u64 v)) := by
  have h1 := h.l1; have h2 := h.l2; have h3 := h.l3
  exact ⟨h.ka.set (by omega) _ _ _, h.kb.set (by omega) _ _ _, h.k0.set (by omega) _ _ _, h.kx.set (by omega) _ _ _, h.ky.set (by omega) _ _ _, by rw [← dw_put]; exact Blk.put h.ko _ _, by rw [List.length_set]; exact h.len, h1, h2, h3, h.below.setCell (by show _ ≤ b3; omega) _⟩
theorem MulW.outc {w : World} {a b : Int} {b1 b2 b3 : Nat} {out : List Int} {wr : World} (h : MulW w a b b1 b2 b3 out wr) {j : Nat} (hj : j < 8) : wr.cell? ⟨b3, j, none⟩ = some (.int .u64 (out.getD j 0)) := by
  rw [h.ko.cell]; exact dw_get (by rw [h.len]; exact hj)

@[go_sem] theorem run_eq23 (a0 a1 a2 a3 b0 b1 b2 b3 : Int) (w : World) :
    (Op.equalIn 10000 141 (.agg #[.int .u64 a0, .int .u64 a1, .int .u64 a2, .int .u64 a3]) (.agg #[.int .u64 b0, .int .u64 b1, .int .u64 b2, .int .u64 b3])).run Try.prog w = .ok (eq4 a0 a1 a2 a3 b0 b1 b2 b3) w := by
  have hu : Try.prog.underlying 141 = some (.array 4 140) := by kernel_rfl
  have hs : ∀ w, (sizeOf 140).run Try.prog w = .ok 1 w := fun w => by kernel_rfl
  have he : ∀ (a b : Int) w, (Op.equalIn 9999 140 (.int .u64 a) (.int .u64 b)).run Try.prog w = .ok (a == b) w := fun a b w => run_equalIn_int w 9998 _ .u64 .u64 a b (by kernel_rfl)
  have hp : ∀ (c : Array Value) (i : Nat) (v : Value) w, c[i]? = some v → (part 140 c i).run Try.prog w = .ok v w := by
    intro c i v w h
    have ha : (isAgg 140).run Try.prog w = .ok false w := by kernel_rfl
    unfold part
    simp [Sem.run_bind, ha, h]
  show (Op.equalIn (9999 + 1) _ _ _).run _ _ = _
  unfold Op.equalIn
  simp only [Sem.run_bind, run_underlying hu, Result.andThen_ok, hs]
  simp [List.range', he, hp, Sem.run_bind]
  unfold eq4
  by_cases h0 : a0 = b0 <;> by_cases h1 : a1 = b1 <;> by_cases h2 : a2 = b2 <;> by_cases h3 : a3 = b3 <;> simp [h0, h1, h2, h3]
@[go_sem] theorem run_arrayAt4 (a : Option Addr) (c : Nat) (w : World) : (Instr.arrayAt 141 (.slice a 4 c)).run Try.prog w = .ok (.pointer a) w := by
  have hu : Try.prog.underlying 141 = some (.array 4 140) := by kernel_rfl
  unfold Instr.arrayAt
  simp only [Sem.run_bind, run_underlying hu, Result.andThen_ok]
  rfl
@[go_sem] theorem run_arrayAtI (a : Option Addr) (c : Nat) (w : World) : (Instr.arrayAt 142 (.slice a 4 c)).run Try.prog w = .ok (.pointer a) w := by
  have hu : Try.prog.underlying 142 = some (.array 4 140) := by kernel_rfl
  unfold Instr.arrayAt
  simp only [Sem.run_bind, run_underlying hu, Result.andThen_ok]
  rfl
theorem signedk_is (x : Int) (b k : Bool) (hk : sgB x b = k) (w : World) :
    Calls Try.prog 116 #[wI x, .bool b] w fun e w' => e = .returned (.tuple #[wI (bif k then sgV x b else 0), .bool k]) ∧ Below w.heap.size w w' := hk ▸ signed_any x b w
theorem below_of_eq {w w' : World} (h : w = w') : Below w.heap.size w w' := h ▸ Below.refl _ _
theorem add64_0 {l o l1 m1 : Int} (hl : Wd l) (ho : Wd o) (h1 : l1 = (l + o) % 18446744073709551616) (h2 : m1 = (l + o) / 18446744073709551616) (w : World) : (callFunc 115 #[.int .u64 l, .int .u64 o, .int .u64 0]).run Try.prog w = .ok (.value (.tuple #[.int .u64 l1, .int .u64 m1])) w := by
  rw [add64 l o 0 hl ho (by decide) (by decide), Int.add_zero, ← h1, ← h2]

set_option maxRecDepth 100000 in
set_option maxHeartbeats 4000000 in
theorem Mul_go (a b : Int) (w : World) (u : Bool) (hu : (ng a == ng b) = !u) (P : Int) (hP : sz a % b256 * (sz b % b256) = P) (z : Bool) (hz : decide (P < b256) = z) (s : Bool) (hs : sgB P u = s) :
    Calls Try.prog 108 #[wI a, wI b] w fun e w' => e = .returned (.tuple #[wI (bif z && s then sgV P u else 0), .bool (z && s)]) ∧ Below w.heap.size w w' := by
 have HU := Lib.hid hu
 have HP := Lib.hid hP
 have HZ := Lib.hid hz
 have HS := Lib.hid hs
 clear hu hP hz hs
 go_enter Try.func108, Try.ntmps108
 go_wp2_with fail
 refine name_world ?_
 intro W hW
 have ka : Var W w.heap.size a := by rw [hW]; exact ((Blk.new _ _ _).alloc _).alloc _
 have kb : Var W (w.heap.size + 1) b := by rw [hW]; exact (Blk.new1 _ _ _ _).alloc _
 have k0 : Var W (w.heap.size + 1 + 1) 0 := by rw [hW]; exact Blk.new2 _ _ _ _ _
 have hb0 : Below w.heap.size w W := by rw [hW]; exact (((Below.refl _ _).alloc (Nat.le_refl _) _).alloc (by simp) _).alloc (by simp; omega) _
 clear hW
 have ca := Var.c ka
 have cb := Var.c kb
 have la := ka.lt
 have lb := kb.lt
 have KA := Lib.hid ka
 have KB := Lib.hid kb
 have K0 := Lib.hid k0
 clear ka kb k0
 refine wp_region_FG2 6 4 5 [(0, 0), (0, 2), (1, 1), (1, 3)] [(3, 6), (3, 7)] (by kernel_rfl) (by kernel_rfl) (fun _ _ d _ _ => by cases d <;> exact Iff.rfl) rfl rfl rfl allocI rfl rfl rfl allocI rfl ?_
 have hb : Below W.heap.size W W.drew := (Below.refl _ _).drew
 iterate 2
  refine wpFG_take0 rfl rfl ?_
  go_big_quiet_step (rfl)
  refine wpQuiet_nil ?_
 refine wpFG_do rfl ?_
 intro w1 hg K hK
 replace hb := hb.trans (hg.mono hb.size)
 clear hg
 go_wp2_with ((go_at_call 113; refine (size_any _ _).mono ?_; rintro e w2 ⟨rfl, hn⟩))
 refine hK.out _ _ hn ?_
 replace hb := hb.trans (hn.mono hb.size)
 clear hK K
 clear hn
 refine wpFG_do rfl ?_
 intro w1 hg K hK
 replace hb := hb.trans (hg.mono hb.size)
 clear hg
 go_wp2_with ((go_at_call 113; refine (size_any _ _).mono ?_; rintro e w2 ⟨rfl, hn⟩))
 refine hK.out _ _ hn ?_
 replace hb := hb.trans (hn.mono hb.size)
 clear hK K
 clear hn
 refine wpFG_nil ?_
 clear hb
 intro w1 hg hb b1 b2 hne lb1 nb1 lb2 nb2
 clear hg
 simp only [Act.put, ptrTo, List.setIfInBounds_toArray, List.set_cons_succ, List.set_cons_zero]
 have c1 := Var.c (show Var w1 b1 0 from nb1)
 have f1 := Var.f (show Var w1 b1 0 from nb1)
 have c2 := Var.c (show Var w1 b2 0 from nb2)
 have f2 := Var.f (show Var w1 b2 0 from nb2)
 clear ca cb la lb
 refine wpG_do3 rfl ?_
 intro K hK
 go_wp2_with (fail)
 refine hK.out _ _ ?_
 clear hK K
 refine wpG_do3 rfl ?_
 intro K hK
 go_wp2_with (fail)
 refine hK.out _ _ ?_
 clear hK K
 refine wpG_nil ?_
 refine list_world ?_
 intro V hV
 have g1 : Var w1 b1 0 := nb1
 have g2 : Var w1 b2 0 := nb2
 have h12 : b1 ≠ b2 := hne
 have na : w.heap.size ≠ b1 ∧ w.heap.size ≠ b2 := by have := KA.out.lt; omega
 have nb : w.heap.size + 1 ≠ b1 ∧ w.heap.size + 1 ≠ b2 := by have := KB.out.lt; omega
 have n0 : w.heap.size + 1 + 1 ≠ b1 ∧ w.heap.size + 1 + 1 ≠ b2 := by have := K0.out.lt; omega
 have hge1 : w.heap.size ≤ b1 := Nat.le_trans hb0.size lb1
 have hge2 : w.heap.size ≤ b2 := Nat.le_trans hb0.size lb2
 have kx : Var V b1 (sz a) := by rw [hV]; exact Blk.set4 (Var.put4 g1 _) h12 _ _ _ _
 have ky : Var V b2 (sz b) := by rw [hV]; exact Var.put4 (Blk.set4 g2 h12.symm _ _ _ _) _
 have ka : Var V w.heap.size a := by rw [hV]; exact Blk.set4 (Blk.set4 (KA.out.of hb) na.1 _ _ _ _) na.2 _ _ _ _
 have kb : Var V (w.heap.size + 1) b := by rw [hV]; exact Blk.set4 (Blk.set4 (KB.out.of hb) nb.1 _ _ _ _) nb.2 _ _ _ _
 have k0 : Var V (w.heap.size + 1 + 1) 0 := by rw [hV]; exact Blk.set4 (Blk.set4 (K0.out.of hb) n0.1 _ _ _ _) n0.2 _ _ _ _
 have hbV : Below w.heap.size w V := by rw [hV]; exact below_set4 (below_set4 (hb0.trans (hb.mono hb0.size)) hge1 _ _ _ _) hge2 _ _ _ _
 clear hV g1 g2 nb1 nb2 c1 f1 c2 f2 lb1 lb2 hb KA KB K0 hb0 na nb n0 hge1 hge2 h12 hne
 go_wp2_with fail
 refine name_world ?_
 intro W hW
 have hd0 : MulW w a b b1 b2 V.heap.size (List.replicate 8 0) W := by
  rw [hW]
  exact ⟨ka.alloc _, kb.alloc _, k0.alloc _, kx.alloc _, ky.alloc _, Blk.new _ _ _, rfl, kx.lt, ky.lt, k0.lt, hbV.alloc hbV.size _⟩
 clear hW ka kb k0 kx ky hbV
 obtain ⟨b3, hb3⟩ : ∃ b3, b3 = V.heap.size := ⟨_, rfl⟩
 rw [← hb3] at hd0 ⊢
 clear hb3 V
 go_loopw [19] (fun i wr => ∃ (k : Nat) (out : List Int), k ≤ 4 ∧ i = .int .i64 k ∧ Hid (Prw (ws4 (sz a)) (ws4 (sz b)) 8 k 0 out 0) ∧ MulW w a b b1 b2 b3 out wr) (fun i _ => 4 - (intOf i).toNat)
 case atStart => exact ⟨0, _, Nat.zero_le _, rfl, Prw.zero _ _ _, hd0⟩
 case round =>
  clear hd0 W
  rename World => wr
  obtain ⟨i, out, hi, rfl, hp, hd⟩ := hrel
  by_cases h1 : i < 4
  ·have ha4 : (i : Int) < 4 := by omega
   have HD := Lib.hid hd
   clear hd
   go_wp2_with fail
   obtain ⟨wo, rfl⟩ : ∃ wo : World, wo = wr := ⟨_, rfl⟩
   have hd := HD.out
   clear HD
   go_loopw [10, 22] (fun c k wr => ∃ (j : Nat) (cv : Int) (out : List Int), j ≤ 4 ∧ k = .int .i64 j ∧ c = .int .u64 cv ∧ Hid (Prw (ws4 (sz a)) (ws4 (sz b)) 8 i j out cv) ∧ MulW w a b b1 b2 b3 out wr) (fun _ k _ => 4 - (intOf k).toNat)
   case atStart => exact ⟨0, 0, out, Nat.zero_le _, rfl, rfl, hp, hd⟩
   case round =>
    clear hd hp
    rename World => wi
    obtain ⟨j, cv, out, hj, rfl, rfl, hp, hd⟩ := hrel
    by_cases h2 : j < 4
    ·obtain ⟨x, hx⟩ : ∃ x, x = (ws4 (sz a)).getD i 0 := ⟨_, rfl⟩
     obtain ⟨y, hy⟩ : ∃ y, y = (ws4 (sz b)).getD j 0 := ⟨_, rfl⟩
     obtain ⟨o, ho⟩ : ∃ o, o = out.getD (i + j) 0 := ⟨_, rfl⟩
     have hst := hp.out.step (ws4_ok _) (ws4_ok _) (show j < 4 from h2) (show i + 4 ≤ 8 by omega) hx hy ho
     have wx : Wd x := hx ▸ (ws4_ok _).get i
     have wy : Wd y := hy ▸ (ws4_ok _).get j
     have wo' : Wd o := ho ▸ hp.out.ok.get _
     have wc := hp.out.cw
     obtain ⟨m0, m1, m2, m3, m4, m5, m6, m7, m8⟩ := mul_step wx wy wo' wc
     have c1 := hd.kx.at h1
     have c2 := hd.ky.at h2
     have c3 := hd.outc (j := i + j) (by omega)
     rw [← hx] at c1
     rw [← hy] at c2
     rw [← ho] at c3
     obtain ⟨hi', hhi⟩ : ∃ h, h = x * y / 18446744073709551616 := ⟨_, rfl⟩
     obtain ⟨l, hl⟩ : ∃ h, h = x * y % 18446744073709551616 := ⟨_, rfl⟩
     rw [← hl] at m1 m2 m3 m4 m5 m6
     rw [← hhi] at m0 m4 m6
     obtain ⟨l1, hl1⟩ : ∃ h, h = (l + o) % 18446744073709551616 := ⟨_, rfl⟩
     obtain ⟨mo, hmo⟩ : ∃ h, h = (l + o) / 18446744073709551616 := ⟨_, rfl⟩
     have A1 := fun w => add64_0 m1 wo' hl1 hmo w
     rw [← hl1] at m3 m5 m6
     rw [← hmo] at m2 m4 m6
     obtain ⟨l2, hl2⟩ : ∃ h, h = (l1 + cv) % 18446744073709551616 := ⟨_, rfl⟩
     obtain ⟨mp, hmp⟩ : ∃ h, h = (l1 + cv) / 18446744073709551616 := ⟨_, rfl⟩
     have A2 := fun w => add64_0 m3 wc hl2 hmp w
     rw [← hl2] at m5
     rw [← hmp] at m6
     obtain ⟨h1', hh1⟩ : ∃ h, h = hi' + mo := ⟨_, rfl⟩
     obtain ⟨h2', hh2⟩ : ∃ h, h = h1' + mp := ⟨_, rfl⟩
     rw [← hh1] at m4 m6
     rw [← hh2] at m6
     rw [← m6, ← m5] at hst
     rw [← m6] at m7
     have W1 : IntKind.u64.wrap (hi' + mo) = h1' := by rw [← hh1]; exact IntWalk.u64_in _ (by have := m4.lo; have := m4.hi; omega)
     have W2 : IntKind.u64.wrap (h1' + mp) = h2' := by rw [← hh2]; exact IntWalk.u64_in _ (by have := m7.lo; have := m7.hi; omega)
     have TM := fun w => mul64_any x y wx wy w
     rw [← hhi, ← hl] at TM
     have HM := Lib.hid TM
     have OE := Lib.hid ho.symm
     have ST := Lib.hid hst
     have lx := hd.kx.lt
     have ly := hd.ky.lt
     have HD := Lib.hid hd
     clear hst hx hy ho wx wy wo' wc m0 m1 m2 m3 m4 m5 m6 m7 m8 hhi hl hl1 hmo hl2 hmp hh1 hh2 TM hd hp
     go_wp2_with fail
     have hb4 : (j : Int) < 4 := by omega
     refine wp_region_up wi.heap.size 11 [(true, 0), (true, 1), (true, 2), (true, 3), (true, 4), (true, 5), (false, 6), (true, 7), (true, 8), (true, 9), (true, 10)] (by kernel_rfl) (by kernel_rfl) (fun _ _ d _ _ h => by cases d <;> exact h) ?_
     have hb : Below wi.heap.size wi wi.drew := (Below.refl _ _).drew
     iterate 6
      refine wpS_takeL rfl rfl ?_
      go_big_quiet_step (rfl)
      refine wpQuiet_nil ?_
     refine wpS_doL rfl ?_
     intro K hK
     go_wp2_with ((go_at_call 114; refine (HM.out _).mono ?_; rintro e w2 ⟨rfl, hw⟩; have hn := below_of_eq hw))
     replace hb := hb.trans (hn.mono hb.size)
     refine hK.out _ _ (up_iff.2 hb) ?_
     clear hK K
     clear hn
     iterate 4
      refine wpS_takeL rfl rfl ?_
      go_big_quiet_step (rfl)
      refine wpQuiet_nil ?_
     refine wpS_nil ?_
     simp only [List.drop_succ_cons, List.drop_zero]
     have hd := HD.out.of hb
     clear c1 c2 c3 HM hb HD lx ly
     have c3 := hd.outc (j := i + j) (by omega)
     rw [OE.out] at c3
     have f3 := hd.ko.free (i + j)
     have HD := Lib.hid hd
     clear hd
     go_wp2
     go_roundw
     case rel => exact ⟨j + 1, h2', _, by omega, by go_num, rfl, ST.out, HD.out.put _ _⟩
     case measure => simp [intOf]; omega
    ·have hj4 : j = 4 := by omega
     subst hj4
     have hst := hp.out.row (show i + 4 < 8 by omega)
     have c3 := hd.outc (j := i + 4) (by omega)
     have f3 := hd.ko.free (i + 4)
     have ST := Lib.hid hst
     have HD := Lib.hid hd
     clear hst hp hd
     go_wp2
     go_roundw
     case rel => exact ⟨i + 1, _, by omega, by go_num, ST.out, HD.out.put _ _⟩
     case measure => simp [intOf]; omega
  ·have hi4 : i = 4 := by omega
   subst hi4
   obtain ⟨p1, p2⟩ := hp.out.all rfl
   rw [uval_ws4, uval_ws4, HP.out] at p2
   have hlen := hd.len
   match out, hlen with
   | [o0, o1, o2, o3, o4, o5, o6, o7], _ =>
    obtain ⟨e1, e2⟩ := eight p1 p2
    rw [HZ.out] at e1
    have kc := hd.ko
    have co : (wr.cell? ⟨b3, 0, none⟩ = some (.int .u64 o0) ∧ wr.cell? ⟨b3, 1, none⟩ = some (.int .u64 o1) ∧ wr.cell? ⟨b3, 2, none⟩ = some (.int .u64 o2) ∧ wr.cell? ⟨b3, 3, none⟩ = some (.int .u64 o3)) ∧ (wr.cell? ⟨b3, 4, none⟩ = some (.int .u64 o4) ∧ wr.cell? ⟨b3, 5, none⟩ = some (.int .u64 o5) ∧ wr.cell? ⟨b3, 6, none⟩ = some (.int .u64 o6) ∧ wr.cell? ⟨b3, 7, none⟩ = some (.int .u64 o7)) := ⟨⟨kc.cell 0, kc.cell 1, kc.cell 2, kc.cell 3⟩, kc.cell 4, kc.cell 5, kc.cell 6, kc.cell 7⟩
    have E2 := Lib.hid e2
    have HD := Lib.hid hd
    clear p1 p2 hp kc e2 hd
    cases z
    ·have k0 := HD.out.k0
     have c0 := Var.c k0
     have f0 := Var.f k0
     go_wp2
     refine post_world ?_
     intro Wf hWf
     have kf : Var Wf (w.heap.size + 1 + 1) 0 := by rw [hWf]; exact Var.put4 k0 0
     have hbf : Below w.heap.size w Wf := by rw [hWf]; exact below_set4 HD.out.below (by omega) _ _ _ _
     have c := Var.c kf
     clear hWf c0 f0 co
     simp [bodyPost, results, Try.results108, go_sem, c]
     exact hbf
    ·have hP : P < b256 := of_decide_eq_true HZ.out
     obtain ⟨q0, q1, q2, q3⟩ := E2.out hP
     subst q0
     subst q1
     subst q2
     subst q3
     clear hP E2
     go_wp2_with fail
     have ca := Var.c HD.out.ka
     have cb := Var.c HD.out.kb
     have la := HD.out.ka.lt
     have lb := HD.out.kb.lt
     have lo := HD.out.ko.lt
     have hu := HU.out
     have co1 := co.1
     clear co
     refine wp_region_up wr.heap.size 11 [(true, 0), (true, 1), (true, 2), (true, 3), (true, 5), (false, 4), (false, 6), (true, 7), (false, 8), (true, 9), (true, 10)] (by kernel_rfl) (by kernel_rfl) (fun _ _ d _ _ h => by cases d <;> exact h) ?_
     have hb : Below wr.heap.size wr wr.drew := (Below.refl _ _).drew
     iterate 5
      refine wpS_takeL rfl rfl ?_
      go_big_quiet_step (rfl)
      refine wpQuiet_nil ?_
     refine wpS_doL rfl ?_
     intro K hK
     go_wp2_with ((first | (go_at_call 105; refine (negative_any _ _).mono ?_; rintro e w2 ⟨rfl, hn⟩) | (go_at_call 116; refine (signedk_is P u s HS.out _).mono ?_; rintro e w3 ⟨rfl, hn⟩)))
     replace hb := hb.trans (hn.mono hb.size)
     refine hK.out _ _ (up_iff.2 hb) ?_
     clear hK K
     clear hn
     refine wpS_doL rfl ?_
     intro K hK
     go_wp2_with ((first | (go_at_call 105; refine (negative_any _ _).mono ?_; rintro e w2 ⟨rfl, hn⟩) | (go_at_call 116; refine (signedk_is P u s HS.out _).mono ?_; rintro e w3 ⟨rfl, hn⟩)))
     replace hb := hb.trans (hn.mono hb.size)
     refine hK.out _ _ (up_iff.2 hb) ?_
     clear hK K
     clear hn
     refine wpS_takeL rfl rfl ?_
     go_big_quiet_step (rfl)
     refine wpQuiet_nil ?_
     refine wpS_doL rfl ?_
     intro K hK
     go_wp2_with ((first | (go_at_call 105; refine (negative_any _ _).mono ?_; rintro e w2 ⟨rfl, hn⟩) | (go_at_call 116; refine (signedk_is P u s HS.out _).mono ?_; rintro e w3 ⟨rfl, hn⟩)))
     replace hb := hb.trans (hn.mono hb.size)
     refine hK.out _ _ (up_iff.2 hb) ?_
     clear hK K
     clear hn
     iterate 2
      refine wpS_takeL rfl rfl ?_
      go_big_quiet_step (rfl)
      refine wpQuiet_nil ?_
     refine wpS_nil ?_
     simp only [List.drop_succ_cons, List.drop_zero]
     have k0 : Var w3 (w.heap.size + 1 + 1) 0 := HD.out.k0.of hb
     have hbb := HD.out.below.trans (hb.mono HD.out.below.size)
     clear ca cb la lb lo hu co1 hb HD
     have c0 := Var.c k0
     have f0 := Var.f k0
     have K0 := Lib.hid k0
     clear k0
     go_wp2
     refine post_world ?_
     intro Wf hWf
     have kf : Var Wf (w.heap.size + 1 + 1) (bif s then sgV P u else 0) := by rw [hWf]; exact Var.put4 K0.out _
     have hbf : Below w.heap.size w Wf := by rw [hWf]; exact below_set4 hbb (by omega) _ _ _ _
     have c := Var.c kf
     clear hWf c0 f0
     simp [bodyPost, results, Try.results108, go_sem, c]
     exact hbf

theorem mul_spec {a b : Int} (ia : InI a) (ib : InI b) (u : Bool) (hu : (ng a != ng b) = u) (P : Int) (hP : sz a * sz b = P) :
    (decide (P < b256) && sgB P u) = okI (a * b) ∧ (bif u then -P else P) = a * b ∧ 0 ≤ P := by
  have ha := sz_in ia
  have hb := sz_in ib
  have na := ng_in ia
  have nb := ng_in ib
  have hp0 : 0 ≤ P := by rw [← hP, ha, hb]; exact Int.mul_nonneg (by omega) (by omega)
  have hv : (bif u then -P else P) = a * b := by
    rw [← hu, ← hP, ha, hb, na, nb]
    rcases Int.lt_or_le a 0 with h1 | h1 <;> rcases Int.lt_or_le b 0 with h2 | h2
    · rw [Int.ofNat_natAbs_of_nonpos (by omega), Int.ofNat_natAbs_of_nonpos (by omega)]; simp [h1, h2, Int.neg_mul_neg]
    · rw [Int.ofNat_natAbs_of_nonpos (by omega), Int.natAbs_of_nonneg h2]; simp [h1, Int.not_lt.2 h2, Int.neg_mul]
    · rw [Int.natAbs_of_nonneg h1, Int.ofNat_natAbs_of_nonpos (by omega)]; simp [h2, Int.not_lt.2 h1, Int.mul_neg]
    · rw [Int.natAbs_of_nonneg h1, Int.natAbs_of_nonneg h2]; simp [Int.not_lt.2 h1, Int.not_lt.2 h2]
  refine ⟨?_, hv, hp0⟩
  rw [← hv]
  rw [Bool.eq_iff_iff]
  unfold okI
  rw [Bool.and_eq_true, decide_eq_true_iff, decide_eq_true_iff]
  unfold sgB InI
  cases u
  · rw [cond_false, cond_false, Bool.not_eq_true', ← Bool.not_eq_true, ng_iff]
    unfold b255 b256 at *; omega
  · rw [cond_true, cond_true, Bool.or_eq_true, ng_iff, eq4_0, decide_eq_true_iff]
    unfold b255 b256 at *; omega

theorem Mul_ok (x y : Int) (w : World) (ix : InI x) (iy : InI y) : Calls Try.prog 108 #[wI x, wI y] w fun e w' => e = .returned (.tuple #[wI (bif okI (x * y) then x * y else 0), .bool (okI (x * y))]) ∧ Below w.heap.size w w' := by
  obtain ⟨u, hu⟩ : ∃ u, (ng x != ng y) = u := ⟨_, rfl⟩
  obtain ⟨P, hP⟩ : ∃ P, sz x * sz y = P := ⟨_, rfl⟩
  obtain ⟨h1, h2, h3⟩ := mul_spec ix iy u hu P hP
  have b1 := sz_bd ix
  have b2 := sz_bd iy
  have e1 : sz x % b256 = sz x := Int.emod_eq_of_lt b1.1 (by unfold b255 b256 at *; omega)
  have e2 : sz y % b256 = sz y := Int.emod_eq_of_lt b2.1 (by unfold b255 b256 at *; omega)
  have T := Mul_go x y w u (by rw [← hu]; cases ng x <;> cases ng y <;> rfl) P (by rw [e1, e2]; exact hP) _ rfl _ rfl
  rw [h1] at T
  unfold sgV at T
  rw [h2] at T
  exact T
theorem Mul_is (x y : Int) (o : Bool) (ho : okI (x * y) = o) (p : Int) (hp : (bif o then x * y else 0) = p) (w : World) (ix : InI x) (iy : InI y) :
    Calls Try.prog 108 #[wI x, wI y] w fun e w' => e = .returned (.tuple #[wI p, .bool o]) ∧ Below w.heap.size w w' := by
  subst ho; subst hp; exact Mul_ok x y w ix iy
theorem Sub_is (x y : Int) (o : Bool) (ho : okI (x - y) = o) (p : Int) (hp : (bif o then x - y else 0) = p) (w : World) (ix : InI x) (iy : InI y) :
    Calls Try.prog 107 #[wI x, wI y] w fun e w' => e = .returned (.tuple #[wI p, .bool o]) ∧ Below w.heap.size w w' := by
  subst ho; subst hp; exact Sub_ok x y w ix iy
end Go.Proofs.Ytdlpfiiakmhnlaa
namespace Go.Proofs.Ytdlpfiiakmhnlaa
open Go.RowKit

/-- the Go value of a point -/
abbrev pC (x y : Int) : Array Value := #[.int .i64 x, .int .i64 y]
abbrev pI (x y : Int) : Value := .agg (pC x y)
/-- may a number be a coordinate? -/
def inC (x : Int) : Bool := decide (-2199023255552 ≤ x) && decide (x ≤ 2199023255552)

theorem within_any (x : Int) (w : World) : Calls Try.prog 73 #[.int .i64 x] w fun e w' => e = .returned (.bool (inC x)) ∧ Below w.heap.size w w' := by
  unfold inC
  by_cases h : -2199023255552 ≤ x <;> by_cases h2 : x ≤ 2199023255552
  all_goals
    go_enter Try.func73, Try.ntmps73
    go_wp2
    go_ret
    exact ⟨by simp [h, h2], Below.refl _ _⟩

set_option maxRecDepth 100000 in
set_option maxHeartbeats 1000000 in
theorem pttimes_any (x y : Int) (o : Bool) (ho : okI (x * y) = o) (p : Int) (hp : (bif o then x * y else 0) = p) (w : World) (ix : InI x) (iy : InI y) :
    Calls Try.prog 103 #[wI x, wI y] w fun e w' => e = .returned (wI p) ∧ Below w.heap.size w w' := by
  go_enter Try.func103, Try.ntmps103
  go_wp2_with fail
  refine calls_w ?_
  intro W hW
  have kz : Var W (w.heap.size + 1 + 1) 0 := by rw [hW]; exact Blk.new2 _ _ _ _ _
  have hb0 : Below w.heap.size w W := by rw [hW]; exact below_a3 _ _ _ _
  clear hW
  refine (Mul_is x y o ho p hp _ ix iy).mono ?_
  rintro e u1 ⟨rfl, hn⟩
  replace kz : Var u1 _ _ := kz.of hn
  replace hb0 := hb0.trans (hn.mono hb0.size)
  clear hn
  have cz := Var.c kz
  have fz := Var.f kz
  have lz := kz.lt
  have KZ := Lib.hid kz
  clear kz
  go_wp2
  refine post_world ?_
  intro Wf hWf
  have kf : Var Wf (w.heap.size + 1 + 1) p := by rw [hWf]; exact (Var.put4 KZ.out p).alloc _
  have hbf : Below w.heap.size w Wf := by rw [hWf]; exact (below_set4 hb0 (by omega) (.int .u64 (wd0 p)) (.int .u64 (wd1 p)) (.int .u64 (wd2 p)) (.int .u64 (wd3 p))).alloc (by simp only [size_set]; exact hb0.size) _
  have c := Var.c kf
  clear hWf cz
  simp [bodyPost, results, Try.results103, go_sem, c]
  exact hbf
set_option maxRecDepth 100000 in
set_option maxHeartbeats 1000000 in
theorem ptless_any (x y : Int) (o : Bool) (ho : okI (x - y) = o) (p : Int) (hp : (bif o then x - y else 0) = p) (w : World) (ix : InI x) (iy : InI y) :
    Calls Try.prog 102 #[wI x, wI y] w fun e w' => e = .returned (wI p) ∧ Below w.heap.size w w' := by
  go_enter Try.func102, Try.ntmps102
  go_wp2_with fail
  refine calls_w ?_
  intro W hW
  have kz : Var W (w.heap.size + 1 + 1) 0 := by rw [hW]; exact Blk.new2 _ _ _ _ _
  have hb0 : Below w.heap.size w W := by rw [hW]; exact below_a3 _ _ _ _
  clear hW
  refine (Sub_is x y o ho p hp _ ix iy).mono ?_
  rintro e u1 ⟨rfl, hn⟩
  replace kz : Var u1 _ _ := kz.of hn
  replace hb0 := hb0.trans (hn.mono hb0.size)
  clear hn
  have cz := Var.c kz
  have fz := Var.f kz
  have lz := kz.lt
  have KZ := Lib.hid kz
  clear kz
  go_wp2
  refine post_world ?_
  intro Wf hWf
  have kf : Var Wf (w.heap.size + 1 + 1) p := by rw [hWf]; exact (Var.put4 KZ.out p).alloc _
  have hbf : Below w.heap.size w Wf := by rw [hWf]; exact (below_set4 hb0 (by omega) (.int .u64 (wd0 p)) (.int .u64 (wd1 p)) (.int .u64 (wd2 p)) (.int .u64 (wd3 p))).alloc (by simp only [size_set]; exact hb0.size) _
  have c := Var.c kf
  clear hWf cz
  simp [bodyPost, results, Try.results102, go_sem, c]
  exact hbf
set_option maxRecDepth 100000 in
set_option maxHeartbeats 1000000 in
theorem PtRight_any (x y : Int) (w : World) : Calls Try.prog 40 #[pI x y] w fun e w' => e = .returned (.bool (inC x && inC y)) ∧ Below w.heap.size w w' := by
  obtain ⟨bx, hbx⟩ : ∃ b, inC x = b := ⟨_, rfl⟩
  obtain ⟨by', hby⟩ : ∃ b, inC y = b := ⟨_, rfl⟩
  rw [hbx, hby]
  have HX := Lib.hid hbx
  have HY := Lib.hid hby
  clear hbx hby
  go_enter Try.func40, Try.ntmps40
  go_wp2_with fail
  refine (within_any x _).mono ?_
  rintro e w2 ⟨rfl, hn⟩
  rw [HX.out]
  have kp : Blk w2 w.heap.size (pC x y) 41 := (Blk.new w _ _).of hn
  have hb0 := (below_a1 w _).trans (hn.mono (by simp))
  have c0 := kp.cell 0
  have c1 := kp.cell 1
  have l0 := kp.lt
  clear kp
  cases bx
  · go_wp2
    go_ret
    exact ⟨rfl, hb0⟩
  · go_wp2_with fail
    refine (within_any y _).mono ?_
    rintro e w3 ⟨rfl, hn3⟩
    rw [HY.out]
    go_wp2
    go_ret
    exact ⟨by simp, hb0.trans (hn3.mono hb0.size)⟩
end Go.Proofs.Ytdlpfiiakmhnlaa

namespace Go.Proofs.Ytdlpfiiakmhnlaa
open Go.RowKit

/-- a variable that holds a point -/
abbrev PVar (w : World) (b : Nat) (x y : Int) : Prop := Blk w b (pC x y) 41
theorem PVar.c {w : World} {b : Nat} {x y : Int} (h : PVar w b x y) : w.cell? ⟨b, 0, none⟩ = some (.int .i64 x) ∧ w.cell? ⟨b, 1, none⟩ = some (.int .i64 y) := ⟨h.cell 0, h.cell 1⟩

theorem OfD_any (a b d : Int) (h : a - b = d) (g : In64 d) (w : World) : Calls Try.prog 104 #[.int .i64 (wrap64 (a - b))] w fun e w' => e = .returned (wI d) ∧ Below w.heap.size w w' := by
  subst h
  rw [show wrap64 (a - b) = a - b by unfold wrap64; unfold In64 at g; omega]
  exact Of_any _ w g
theorem times_is (x y p : Int) (hp : x * y = p) (hi : InI p) (w : World) (ix : InI x) (iy : InI y) : Calls Try.prog 103 #[wI x, wI y] w fun e w' => e = .returned (wI p) ∧ Below w.heap.size w w' :=
  pttimes_any x y true (by rw [hp]; exact decide_eq_true hi) p (by simpa using hp) w ix iy
theorem less_is (x y p : Int) (hp : x - y = p) (hi : InI p) (w : World) (ix : InI x) (iy : InI y) : Calls Try.prog 102 #[wI x, wI y] w fun e w' => e = .returned (wI p) ∧ Below w.heap.size w w' :=
  ptless_any x y true (by rw [hp]; exact decide_eq_true hi) p (by simpa using hp) w ix iy
theorem in64_I {x : Int} (h : In64 x) : InI x := by unfold In64 at h; unfold InI b255; omega

set_option maxRecDepth 100000 in
set_option maxHeartbeats 1000000 in
theorem turn_go (ax ay bx b_y cx cy d1 d2 d3 d4 p q r : Int) (h1 : bx - ax = d1) (h2 : cy - ay = d2) (h3 : b_y - ay = d3) (h4 : cx - ax = d4) (g1 : In64 d1) (g2 : In64 d2) (g3 : In64 d3) (g4 : In64 d4) (hp : d1 * d2 = p) (hq : d3 * d4 = q) (hr : p - q = r) (ip : InI p) (iq : InI q) (ir : InI r) (w : World) :
    Calls Try.prog 93 #[pI ax ay, pI bx b_y, pI cx cy] w fun e w' => e = .returned (wI r) ∧ Below w.heap.size w w' := by
 have H1 := Lib.hid h1
 have H2 := Lib.hid h2
 have H3 := Lib.hid h3
 have H4 := Lib.hid h4
 have H5 := Lib.hid hp
 have H6 := Lib.hid hq
 have H7 := Lib.hid hr
 clear h1 h2 h3 h4 hp hq hr
 go_enter Try.func93, Try.ntmps93
 go_wp2_with fail
 refine name_world ?_
 intro W hW
 have ka : PVar W w.heap.size ax ay := by rw [hW]; exact (Blk.new w _ _).alloc _ |>.alloc _ |>.alloc _
 have kb : PVar W (w.heap.size + 1) bx b_y := by rw [hW]; exact (Blk.new1 w _ _ _).alloc _ |>.alloc _
 have kc : PVar W (w.heap.size + 1 + 1) cx cy := by rw [hW]; exact (Blk.new2 w _ _ _ _).alloc _
 have kz : Var W (w.heap.size + 1 + 1 + 1) 0 := by rw [hW]; exact Blk.new3 w _ _ _ _ _
 have hb0 : Below w.heap.size w W := by rw [hW]; exact (below_a3 _ _ _ _).alloc (by simp; omega) _
 clear hW
 have ca := PVar.c ka
 have cb := PVar.c kb
 have cc := PVar.c kc
 have la := ka.lt
 have lb := kb.lt
 have lc := kc.lt
 have lz := kz.lt
 have KZ := Lib.hid kz
 clear ka kb kc kz
 refine wp_region_up W.heap.size 24 [(true, 0), (true, 1), (true, 2), (true, 3), (true, 4), (true, 6), (true, 7), (true, 8), (true, 9), (true, 10), (true, 13), (true, 14), (true, 15), (true, 16), (true, 17), (true, 19), (true, 20), (true, 21), (true, 22), (true, 23), (false, 5), (false, 11), (false, 12), (false, 18)] (by kernel_rfl) (by kernel_rfl) (fun _ _ d _ _ h => by cases d <;> exact h) ?_
 have hb : Below W.heap.size W W.drew := (Below.refl _ _).drew
 iterate 20
  refine wpS_takeL rfl rfl ?_
  go_big_quiet_step (rfl)
  refine wpQuiet_nil ?_
 refine wpS_doL rfl ?_
 intro K hK
 go_wp2_with ((first | (go_at_call 104; (with_reducible refine (OfD_any bx ax d1 H1.out g1 _).mono ?_); rintro e w2 ⟨rfl, hn⟩) | (go_at_call 104; (with_reducible refine (OfD_any cy ay d2 H2.out g2 _).mono ?_); rintro e w2 ⟨rfl, hn⟩) | (go_at_call 104; (with_reducible refine (OfD_any b_y ay d3 H3.out g3 _).mono ?_); rintro e w2 ⟨rfl, hn⟩) | (go_at_call 104; (with_reducible refine (OfD_any cx ax d4 H4.out g4 _).mono ?_); rintro e w2 ⟨rfl, hn⟩) | (go_at_call 103; (with_reducible refine (times_is d1 d2 p H5.out ip _ (in64_I g1) (in64_I g2)).mono ?_); rintro e w2 ⟨rfl, hn⟩) | (go_at_call 103; (with_reducible refine (times_is d3 d4 q H6.out iq _ (in64_I g3) (in64_I g4)).mono ?_); rintro e w2 ⟨rfl, hn⟩) | (go_at_call 102; (with_reducible refine (less_is p q r H7.out ir _ ip iq).mono ?_); rintro e w2 ⟨rfl, hn⟩)))
 replace hb := hb.trans (hn.mono hb.size)
 refine hK.out _ _ (up_iff.2 hb) ?_
 clear hK K
 clear hn
 refine wpS_doL rfl ?_
 intro K hK
 go_wp2_with ((first | (go_at_call 104; (with_reducible refine (OfD_any bx ax d1 H1.out g1 _).mono ?_); rintro e w2 ⟨rfl, hn⟩) | (go_at_call 104; (with_reducible refine (OfD_any cy ay d2 H2.out g2 _).mono ?_); rintro e w2 ⟨rfl, hn⟩) | (go_at_call 104; (with_reducible refine (OfD_any b_y ay d3 H3.out g3 _).mono ?_); rintro e w2 ⟨rfl, hn⟩) | (go_at_call 104; (with_reducible refine (OfD_any cx ax d4 H4.out g4 _).mono ?_); rintro e w2 ⟨rfl, hn⟩) | (go_at_call 103; (with_reducible refine (times_is d1 d2 p H5.out ip _ (in64_I g1) (in64_I g2)).mono ?_); rintro e w2 ⟨rfl, hn⟩) | (go_at_call 103; (with_reducible refine (times_is d3 d4 q H6.out iq _ (in64_I g3) (in64_I g4)).mono ?_); rintro e w2 ⟨rfl, hn⟩) | (go_at_call 102; (with_reducible refine (less_is p q r H7.out ir _ ip iq).mono ?_); rintro e w2 ⟨rfl, hn⟩)))
 replace hb := hb.trans (hn.mono hb.size)
 refine hK.out _ _ (up_iff.2 hb) ?_
 clear hK K
 clear hn
 refine wpS_doL rfl ?_
 intro K hK
 go_wp2_with ((first | (go_at_call 104; (with_reducible refine (OfD_any bx ax d1 H1.out g1 _).mono ?_); rintro e w2 ⟨rfl, hn⟩) | (go_at_call 104; (with_reducible refine (OfD_any cy ay d2 H2.out g2 _).mono ?_); rintro e w2 ⟨rfl, hn⟩) | (go_at_call 104; (with_reducible refine (OfD_any b_y ay d3 H3.out g3 _).mono ?_); rintro e w2 ⟨rfl, hn⟩) | (go_at_call 104; (with_reducible refine (OfD_any cx ax d4 H4.out g4 _).mono ?_); rintro e w2 ⟨rfl, hn⟩) | (go_at_call 103; (with_reducible refine (times_is d1 d2 p H5.out ip _ (in64_I g1) (in64_I g2)).mono ?_); rintro e w2 ⟨rfl, hn⟩) | (go_at_call 103; (with_reducible refine (times_is d3 d4 q H6.out iq _ (in64_I g3) (in64_I g4)).mono ?_); rintro e w2 ⟨rfl, hn⟩) | (go_at_call 102; (with_reducible refine (less_is p q r H7.out ir _ ip iq).mono ?_); rintro e w2 ⟨rfl, hn⟩)))
 replace hb := hb.trans (hn.mono hb.size)
 refine hK.out _ _ (up_iff.2 hb) ?_
 clear hK K
 clear hn
 refine wpS_doL rfl ?_
 intro K hK
 go_wp2_with ((first | (go_at_call 104; (with_reducible refine (OfD_any bx ax d1 H1.out g1 _).mono ?_); rintro e w2 ⟨rfl, hn⟩) | (go_at_call 104; (with_reducible refine (OfD_any cy ay d2 H2.out g2 _).mono ?_); rintro e w2 ⟨rfl, hn⟩) | (go_at_call 104; (with_reducible refine (OfD_any b_y ay d3 H3.out g3 _).mono ?_); rintro e w2 ⟨rfl, hn⟩) | (go_at_call 104; (with_reducible refine (OfD_any cx ax d4 H4.out g4 _).mono ?_); rintro e w2 ⟨rfl, hn⟩) | (go_at_call 103; (with_reducible refine (times_is d1 d2 p H5.out ip _ (in64_I g1) (in64_I g2)).mono ?_); rintro e w2 ⟨rfl, hn⟩) | (go_at_call 103; (with_reducible refine (times_is d3 d4 q H6.out iq _ (in64_I g3) (in64_I g4)).mono ?_); rintro e w2 ⟨rfl, hn⟩) | (go_at_call 102; (with_reducible refine (less_is p q r H7.out ir _ ip iq).mono ?_); rintro e w2 ⟨rfl, hn⟩)))
 replace hb := hb.trans (hn.mono hb.size)
 refine hK.out _ _ (up_iff.2 hb) ?_
 clear hK K
 clear hn
 refine wpS_nil ?_
 simp only [List.drop_succ_cons, List.drop_zero]
 clear ca cb cc la lb lc
 replace hb0 := hb0.trans (hb.mono hb0.size)
 replace KZ := Lib.hid (KZ.out.of hb)
 clear hb
 go_wp2_with fail
 refine (OfD_any cx ax d4 H4.out g4 _).mono ?_
 rintro e u1 ⟨rfl, hn⟩
 replace hb0 := hb0.trans (hn.mono hb0.size)
 replace KZ := Lib.hid (KZ.out.of hn)
 clear hn
 go_wp2_with fail
 refine (times_is d3 d4 q H6.out iq _ (in64_I g3) (in64_I g4)).mono ?_
 rintro e u2 ⟨rfl, hn⟩
 replace hb0 := hb0.trans (hn.mono hb0.size)
 replace KZ := Lib.hid (KZ.out.of hn)
 clear hn
 go_wp2_with fail
 refine (less_is p q r H7.out ir _ ip iq).mono ?_
 rintro e u3 ⟨rfl, hn⟩
 replace hb0 := hb0.trans (hn.mono hb0.size)
 replace KZ := Lib.hid (KZ.out.of hn)
 clear hn
 have cz := Var.c KZ.out
 have fz := Var.f KZ.out
 have lz := KZ.out.lt
 go_wp2
 refine post_world ?_
 intro Wf hWf
 have kf : Var Wf (w.heap.size + 1 + 1 + 1) r := by rw [hWf]; exact Var.put4 KZ.out r
 have hbf : Below w.heap.size w Wf := by rw [hWf]; exact below_set4 hb0 (by omega) (.int .u64 (wd0 r)) (.int .u64 (wd1 r)) (.int .u64 (wd2 r)) (.int .u64 (wd3 r))
 have c := Var.c kf
 clear hWf cz
 simp [bodyPost, results, Try.results93, go_sem, c]
 exact hbf

/-- is a number a coordinate? -/
def Co (x : Int) : Prop := -2199023255552 ≤ x ∧ x ≤ 2199023255552
/-- the turn of three -/
def trn (ax ay bx b_y cx cy : Int) : Int := (bx - ax) * (cy - ay) - (b_y - ay) * (cx - ax)
theorem co_sub {x y : Int} (hx : Co x) (hy : Co y) : -4398046511104 ≤ x - y ∧ x - y ≤ 4398046511104 := by unfold Co at *; omega
theorem mul_bd {x y a b : Int} (ha : 0 ≤ a) (hx : -a ≤ x ∧ x ≤ a) (hy : -b ≤ y ∧ y ≤ b) : -(a * b) ≤ x * y ∧ x * y ≤ a * b := by
  have h1 : x.natAbs ≤ a.natAbs := by omega
  have h2 : y.natAbs ≤ b.natAbs := by omega
  have h3 := Nat.mul_le_mul h1 h2
  rw [← Int.natAbs_mul, ← Int.natAbs_mul] at h3
  have hb : 0 ≤ b := by omega
  have h4 : 0 ≤ a * b := Int.mul_nonneg ha hb
  generalize a * b = p at *
  generalize x * y = q at *
  omega
theorem trn_bd {ax ay bx b_y cx cy : Int} (h1 : Co ax) (h2 : Co ay) (h3 : Co bx) (h4 : Co b_y) (h5 : Co cx) (h6 : Co cy) :
    -38685626227668133590597632 ≤ trn ax ay bx b_y cx cy ∧ trn ax ay bx b_y cx cy ≤ 38685626227668133590597632 := by
  have a1 := mul_bd (by decide) (co_sub h3 h1) (co_sub h6 h2)
  have a2 := mul_bd (by decide) (co_sub h4 h2) (co_sub h5 h1)
  unfold trn
  generalize (bx - ax) * (cy - ay) = p at *
  generalize (b_y - ay) * (cx - ax) = q at *
  omega
theorem turn_any (ax ay bx b_y cx cy : Int) (h1 : Co ax) (h2 : Co ay) (h3 : Co bx) (h4 : Co b_y) (h5 : Co cx) (h6 : Co cy) (w : World) :
    Calls Try.prog 93 #[pI ax ay, pI bx b_y, pI cx cy] w fun e w' => e = .returned (wI (trn ax ay bx b_y cx cy)) ∧ Below w.heap.size w w' := by
  have a1 := mul_bd (by decide) (co_sub h3 h1) (co_sub h6 h2)
  have a2 := mul_bd (by decide) (co_sub h4 h2) (co_sub h5 h1)
  have a3 := trn_bd h1 h2 h3 h4 h5 h6
  refine turn_go ax ay bx b_y cx cy _ _ _ _ _ _ _ rfl rfl rfl rfl ?_ ?_ ?_ ?_ rfl rfl rfl ?_ ?_ ?_ w
  · have := co_sub h3 h1; unfold In64; omega
  · have := co_sub h6 h2; unfold In64; omega
  · have := co_sub h4 h2; unfold In64; omega
  · have := co_sub h5 h1; unfold In64; omega
  · unfold InI b255; omega
  · unfold InI b255; omega
  · unfold trn at a3; unfold InI b255; omega
end Go.Proofs.Ytdlpfiiakmhnlaa
namespace Go.Proofs.Ytdlpfiiakmhnlaa
open Go.RowKit

/-- a slice of points -/
structure Pts (w : World) (ao : Option Addr) (n cap : Nat) (X Y : Nat → Int) : Prop where
  ptr : 0 < n → ∃ a, ao = some a ∧ a.block < w.heap.size ∧ ∀ i, i < n → w.cell? (a.add (i * 2)) = some (.int .i64 (X i)) ∧ w.cell? ((a.add (i * 2)).add 1) = some (.int .i64 (Y i))
  capl : n ≤ cap
  capb : cap ≤ 9223372036854775807
theorem Pts.of {w w' : World} {ao : Option Addr} {n cap : Nat} {X Y : Nat → Int} (h : Pts w ao n cap X Y) (hb : Below w.heap.size w w') : Pts w' ao n cap X Y := by
  refine ⟨fun h0 => ?_, h.capl, h.capb⟩
  obtain ⟨a, h1, h2, h3⟩ := h.ptr h0
  refine ⟨a, h1, Nat.lt_of_lt_of_le h2 hb.size, fun i hi => ?_⟩
  have e1 : ∀ k, (a.add k).block = a.block := fun k => by unfold Addr.add; split <;> rfl
  have e2 : ∀ k l, ((a.add k).add l).block = a.block := fun k l => by unfold Addr.add; split <;> split <;> rfl
  rw [hb.cell (by rw [e1]; exact h2), hb.cell (by rw [e2]; exact h2)]
  exact h3 i hi
/-- are all points of a row right? -/
def allC (n : Nat) (X Y : Nat → Int) : Bool := (List.range n).all fun i => inC (X i) && inC (Y i)

set_option maxRecDepth 100000 in
set_option maxHeartbeats 1000000 in
theorem ptright_any (ao : Option Addr) (n cap : Nat) (X Y : Nat → Int) (w : World) (h : Pts w ao n cap X Y) :
    Calls Try.prog 92 #[.slice ao n cap] w fun e w' => e = .returned (.bool (allC n X Y)) ∧ Below w.heap.size w w' := by
 have hcl := h.capl
 have hcb := h.capb
 have HW := Lib.hid h
 clear h
 obtain ⟨A, hA⟩ : ∃ A, allC n X Y = A := ⟨_, rfl⟩
 rw [hA]
 replace hA := Lib.hid hA
 go_enter Try.func92, Try.ntmps92
 go_wp2_with fail
 go_loopw [7] (fun i wr => ∃ k : Nat, k ≤ n ∧ i = .int .i64 k ∧ Hid (∀ j, j < k → (inC (X j) && inC (Y j)) = true) ∧ Below w.heap.size w wr) (fun i _ => n - (intOf i).toNat)
 case atStart => exact ⟨0, Nat.zero_le _, rfl, fun j hj => absurd hj (by omega), Below.refl _ _⟩
 case round =>
  rename_i wr
  obtain ⟨k, hk, rfl, hall, hbl⟩ := hrel
  by_cases h1 : k < n
  ·obtain ⟨a, rfl, hbk, hc⟩ := HW.out.ptr (by omega)
   have ebl : ∀ k, (a.add k).block = a.block := fun k => by unfold Addr.add; split <;> rfl
   have ebl2 : ∀ k l, ((a.add k).add l).block = a.block := fun k l => by unfold Addr.add; split <;> split <;> rfl
   have e0 : wr.cell? (a.add (k * 2)) = some (.int .i64 (X k)) := by rw [hbl.cell (by rw [ebl]; exact hbk)]; exact (hc k h1).1
   have e1 : wr.cell? ((a.add (k * 2)).add 1) = some (.int .i64 (Y k)) := by rw [hbl.cell (by rw [ebl2]; exact hbk)]; exact (hc k h1).2
   clear hc ebl ebl2
   obtain ⟨x, hx⟩ : ∃ x, X k = x := ⟨_, rfl⟩
   obtain ⟨y, hy⟩ : ∃ y, Y k = y := ⟨_, rfl⟩
   obtain ⟨g, hg⟩ : ∃ g, (inC x && inC y) = g := ⟨_, rfl⟩
   rw [hx] at e0
   rw [hy] at e1
   replace e1 : wr.cell? { block := (a.add (k * 2)).block, off := (a.add (k * 2)).off + 1 } = some (.int .i64 y) := e1
   have HX := Lib.hid hx
   have HY := Lib.hid hy
   have HG := Lib.hid hg
   clear hx hy hg
   go_wp2_with fail
   refine (PtRight_any x y _).mono ?_
   rintro e w2 ⟨rfl, hn⟩
   rw [HG.out]
   have hb2 : Below w.heap.size w w2 := (hbl.alloc hbl.size _).trans (hn.mono (by have := hbl.size; simp; omega))
   clear hn e0 e1
   cases g
   ·have HA : A = false := by
     rw [← hA.out]; unfold allC; rw [List.all_eq_false]
     refine ⟨k, List.mem_range.2 h1, ?_⟩
     rw [HX.out, HY.out, HG.out]; exact Bool.false_ne_true
    subst HA
    clear hA hall
    go_wp2
    go_ret
    exact ⟨rfl, hb2⟩
   ·go_wp2
    refine ⟨⟨k + 1, by omega, by norm_cast, fun j hj => ?_, hb2⟩, ?_⟩
    ·by_cases hjk : j = k
     ·subst hjk; rw [HX.out, HY.out, HG.out]
     ·exact hall.out j (by omega)
    ·simp only [intOf]; omega
  ·have hkn : k = n := by omega
   have HA : A = true := by
    rw [← hA.out]; unfold allC; rw [List.all_eq_true]
    intro j hj; exact hall.out j (by rw [hkn]; exact List.mem_range.1 hj)
   subst HA
   clear hA hall
   go_wp2
   go_ret
   exact ⟨rfl, hbl⟩

/-- three, four values by their number -/
def f3 (a b c : Int) : Nat → Int | 0 => a | 1 => b | _ => c
def f4 (a b c d : Int) : Nat → Int | 0 => a | 1 => b | 2 => c | _ => d
theorem Pts.three {W : World} {b : Nat} {t : TypeId} {ax ay bx b_y cx cy : Int} (h : Blk W b #[.int .i64 ax, .int .i64 ay, .int .i64 bx, .int .i64 b_y, .int .i64 cx, .int .i64 cy] t) :
    Pts W (some ⟨b, 0, none⟩) 3 3 (f3 ax bx cx) (f3 ay b_y cy) := by
  refine ⟨fun _ => ⟨_, rfl, h.lt, fun i hi => ?_⟩, by decide, by decide⟩
  match i, hi with
  | 0, _ => exact ⟨h.cell 0, h.cell 1⟩
  | 1, _ => exact ⟨h.cell 2, h.cell 3⟩
  | 2, _ => exact ⟨h.cell 4, h.cell 5⟩
/-- may it be a point? -/
def rp (x y : Int) : Bool := inC x && inC y
def rp3 (ax ay bx b_y cx cy : Int) : Bool := rp ax ay && rp bx b_y && rp cx cy
theorem allC_3 (ax ay bx b_y cx cy : Int) : allC 3 (f3 ax bx cx) (f3 ay b_y cy) = rp3 ax ay bx b_y cx cy := by
  simp [allC, List.range_succ, f3, rp3, rp, Bool.and_assoc]
theorem inC_co {x : Int} (h : inC x = true) : Co x := by
  unfold inC at h; unfold Co; simpa using h
theorem rp_co {x y : Int} (h : rp x y = true) : Co x ∧ Co y := by
  unfold rp at h; rw [Bool.and_eq_true] at h; exact ⟨inC_co h.1, inC_co h.2⟩
theorem rp3_co {ax ay bx b_y cx cy : Int} (h : rp3 ax ay bx b_y cx cy = true) : Co ax ∧ Co ay ∧ Co bx ∧ Co b_y ∧ Co cx ∧ Co cy := by
  unfold rp3 at h; rw [Bool.and_eq_true, Bool.and_eq_true] at h
  obtain ⟨⟨h1, h2⟩, h3⟩ := h
  exact ⟨(rp_co h1).1, (rp_co h1).2, (rp_co h2).1, (rp_co h2).2, (rp_co h3).1, (rp_co h3).2⟩
/-- the way of the turn of any three -/
def way (ax ay bx b_y cx cy : Int) : Int := bif rp3 ax ay bx b_y cx cy then (trn ax ay bx b_y cx cy).sign else 0

theorem right3_is (ax ay bx b_y cx cy : Int) (g : Bool) (hg : rp3 ax ay bx b_y cx cy = g) (W : World) (b : Nat) (t : TypeId) (h : Blk W b #[.int .i64 ax, .int .i64 ay, .int .i64 bx, .int .i64 b_y, .int .i64 cx, .int .i64 cy] t) :
    Calls Try.prog 92 #[.slice (some ⟨b, 0, none⟩) 3 3] W fun e w' => e = .returned (.bool g) ∧ Below W.heap.size W w' := by
  have := ptright_any _ _ _ _ _ W (Pts.three h)
  rw [allC_3, hg] at this
  exact this
set_option maxRecDepth 100000 in
set_option maxHeartbeats 1000000 in
theorem Turn_any (ax ay bx b_y cx cy : Int) (w : World) :
    Calls Try.prog 75 #[pI ax ay, pI bx b_y, pI cx cy] w fun e w' => e = .returned (.int .i64 (way ax ay bx b_y cx cy)) ∧ Below w.heap.size w w' := by
  unfold way
  obtain ⟨g, hg⟩ : ∃ g, rp3 ax ay bx b_y cx cy = g := ⟨_, rfl⟩
  rw [hg]
  obtain ⟨s, hs⟩ : ∃ s : Int, (bif g then (trn ax ay bx b_y cx cy).sign else 0) = s := ⟨_, rfl⟩
  rw [hs]
  have HG := Lib.hid hg
  have HS := Lib.hid hs
  clear hg hs
  go_enter Try.func75, Try.ntmps75
  go_wp2_with fail
  refine calls_w ?_
  intro W hW
  have ka : PVar W w.heap.size ax ay := by rw [hW]; exact (Blk.new w _ _).alloc _ |>.alloc _ |>.alloc _
  have kb : PVar W (w.heap.size + 1) bx b_y := by rw [hW]; exact (Blk.new1 w _ _ _).alloc _ |>.alloc _
  have kc : PVar W (w.heap.size + 1 + 1) cx cy := by rw [hW]; exact (Blk.new2 w _ _ _ _).alloc _
  have kl : Blk W (w.heap.size + 1 + 1 + 1) #[.int .i64 ax, .int .i64 ay, .int .i64 bx, .int .i64 b_y, .int .i64 cx, .int .i64 cy] 41 := by rw [hW]; exact Blk.new3 w _ _ _ _ _
  have hb0 : Below w.heap.size w W := by rw [hW]; exact (below_a3 _ _ _ _).alloc (by simp; omega) _
  clear hW
  refine (right3_is ax ay bx b_y cx cy g HG.out _ _ _ kl).mono ?_
  rintro e u1 ⟨rfl, hn⟩
  replace ka : PVar u1 _ _ _ := ka.of hn
  replace kb : PVar u1 _ _ _ := kb.of hn
  replace kc : PVar u1 _ _ _ := kc.of hn
  replace hb0 := hb0.trans (hn.mono hb0.size)
  clear hn kl
  have ca := PVar.c ka
  have cb := PVar.c kb
  have cc := PVar.c kc
  clear ka kb kc
  cases g
  · have h0 : s = 0 := HS.out.symm
    subst h0
    go_wp2
    go_ret
    exact ⟨rfl, hb0⟩
  · obtain ⟨h1, h2, h3, h4, h5, h6⟩ := rp3_co HG.out
    have HT := trn_bd h1 h2 h3 h4 h5 h6
    go_wp2_with fail
    refine (turn_any ax ay bx b_y cx cy h1 h2 h3 h4 h5 h6 _).mono ?_
    rintro e u2 ⟨rfl, hn⟩
    replace hb0 := hb0.trans (hn.mono hb0.size)
    clear hn ca cb cc
    go_wp2_with fail
    refine (Sign_is _ s HS.out _ (by unfold InI b255; omega)).mono ?_
    rintro e u3 ⟨rfl, hn⟩
    replace hb0 := hb0.trans (hn.mono hb0.size)
    clear hn
    go_wp2
    go_ret
    exact ⟨rfl, hb0⟩
end Go.Proofs.Ytdlpfiiakmhnlaa
namespace Go.Proofs.Ytdlpfiiakmhnlaa
open Go.RowKit

end Go.Proofs.Ytdlpfiiakmhnlaa
namespace Go.Proofs.Ytdlpfiiakmhnlaa
open Go.RowKit

/-- does a number lie from one to another one? -/
def btw (a b n : Int) : Bool := decide (min a b ≤ n) && decide (n ≤ max a b)
/-- does one lie on a segment? -/
def onB (ax ay bx b_y px py : Int) : Bool := rp3 ax ay bx b_y px py && (trn ax ay bx b_y px py).sign == 0 && btw ax bx px && btw ay b_y py

end Go.Proofs.Ytdlpfiiakmhnlaa
namespace Go.Proofs.Ytdlpfiiakmhnlaa
open Go.RowKit

theorem sign_cases (n : Int) : n.sign = -1 ∨ n.sign = 0 ∨ n.sign = 1 := by
  rcases Int.lt_trichotomy n 0 with h | h | h
  · exact .inl (Int.sign_eq_neg_one_of_neg h)
  · subst h; exact .inr (.inl rfl)
  · exact .inr (.inr (Int.sign_eq_one_of_pos h))
end Go.Proofs.Ytdlpfiiakmhnlaa
namespace Go.Proofs.Ytdlpfiiakmhnlaa
open Go.RowKit

/-- the first of two that is not 0 -/
def or2 (a b : Int) : Int := bif a == 0 then b else a
set_option maxRecDepth 100000 in
set_option maxHeartbeats 1000000 in
theorem Or2_any (a b : Int) (bl : Nat) (w : World) (c0 : w.cell? ⟨bl, 0, none⟩ = some (.int .i64 a)) (c1 : w.cell? ⟨bl, 1, none⟩ = some (.int .i64 b)) :
    Calls Try.prog 74 #[.slice (some ⟨bl, 0, none⟩) 2 2] w fun e w' => e = .returned (.int .i64 (or2 a b)) ∧ Below w.heap.size w w' := by
  obtain ⟨t, ht⟩ : ∃ t, or2 a b = t := ⟨_, rfl⟩
  rw [ht]
  unfold or2 at ht
  by_cases h0 : a = 0
  · subst h0
    have h1 : b = t := ht
    subst h1
    by_cases h2 : b = 0
    · subst h2
      go_enter Try.func74, Try.ntmps74
      go_wp2
      refine wp_loop_rounds 3 ?_
      iterate 3
        rw [rounds_succ]
        go_wp2
      go_ret
      exact ⟨rfl, Below.refl _ _⟩
    · go_enter Try.func74, Try.ntmps74
      go_wp2
      refine wp_loop_rounds 3 ?_
      iterate 2
        rw [rounds_succ]
        go_wp2
      go_ret
      exact ⟨rfl, Below.refl _ _⟩
  · have h3 : (a == 0) = false := by simpa using h0
    have h1 : a = t := by rw [h3] at ht; exact ht
    clear h3 ht
    subst h1
    go_enter Try.func74, Try.ntmps74
    go_wp2
    refine wp_loop_rounds 3 ?_
    rw [rounds_succ]
    go_wp2
    go_ret
    exact ⟨rfl, Below.refl _ _⟩
end Go.Proofs.Ytdlpfiiakmhnlaa
namespace Go.Proofs.Ytdlpfiiakmhnlaa
open Go.RowKit

set_option maxRecDepth 100000 in
set_option maxHeartbeats 1000000 in
theorem rRight_any (x y : Int) (w : World) : Calls Try.prog 38 #[pI x y] w fun e w' => e = .returned (.bool (rp x y)) ∧ Below w.heap.size w w' := by
  obtain ⟨t, ht⟩ : ∃ t, rp x y = t := ⟨_, rfl⟩
  rw [ht]
  have HT := Lib.hid ht
  clear ht
  by_cases h1 : -2199023255552 ≤ x <;> by_cases h2 : x ≤ 2199023255552 <;> by_cases h3 : -2199023255552 ≤ y <;> by_cases h4 : y ≤ 2199023255552
  all_goals first | (exfalso; omega) | skip
  all_goals
    go_enter Try.func38, Try.ntmps38
    go_wp2
    go_ret
    refine ⟨congrArg (fun t => Ending.returned (.bool t)) ?_, below_a1 _ _⟩
    rw [← HT.out]; unfold rp inC; rw [Bool.eq_iff_iff]; simp; omega

/-- does one come ahead of another one? -/
def ahd (ax ay bx b_y : Int) : Bool := decide (ax < bx) || decide (ax = bx) && decide (ay < b_y)
set_option maxRecDepth 100000 in
set_option maxHeartbeats 1000000 in
theorem Ahead_any (ax ay bx b_y : Int) (w : World) : Calls Try.prog 39 #[pI ax ay, pI bx b_y] w fun e w' => e = .returned (.bool (ahd ax ay bx b_y)) ∧ Below w.heap.size w w' := by
  obtain ⟨t, ht⟩ : ∃ t, ahd ax ay bx b_y = t := ⟨_, rfl⟩
  rw [ht]
  have HT := Lib.hid ht
  clear ht
  by_cases h1 : ax < bx <;> by_cases h2 : ax = bx <;> by_cases h3 : ay < b_y
  all_goals first | (exfalso; omega) | skip
  all_goals
    go_enter Try.func39, Try.ntmps39
    go_wp2
    go_ret
    refine ⟨congrArg (fun t => Ending.returned (.bool t)) ?_, below_a2 _ _ _⟩
    rw [← HT.out]; unfold ahd; rw [Bool.eq_iff_iff]; simp; omega
end Go.Proofs.Ytdlpfiiakmhnlaa
namespace Go.Proofs.Ytdlpfiiakmhnlaa
open Go.RowKit

/-- which of two comes first -/
def cmpP (ax ay bx b_y : Int) : Int := or2 (cmpI ax bx) (cmpI ay b_y)
set_option maxRecDepth 100000 in
set_option maxHeartbeats 1000000 in
theorem PtCmp_any (ax ay bx b_y : Int) (w : World) :
    Calls Try.prog 41 #[pI ax ay, pI bx b_y] w fun e w' => e = .returned (.int .i64 (cmpP ax ay bx b_y)) ∧ Below w.heap.size w w' := by
 unfold cmpP
 obtain ⟨x, hx⟩ : ∃ x, cmpI ax bx = x := ⟨_, rfl⟩
 obtain ⟨y, hy⟩ : ∃ y, cmpI ay b_y = y := ⟨_, rfl⟩
 rw [hx, hy]
 have HX := Lib.hid hx
 have HY := Lib.hid hy
 clear hx hy
 go_enter Try.func41, Try.ntmps41
 go_wp2_with fail
 refine name_world ?_
 intro W hW
 have ka : PVar W w.heap.size ax ay := by rw [hW]; exact (Blk.new w _ _).alloc _
 have kb : PVar W (w.heap.size + 1) bx b_y := by rw [hW]; exact Blk.new1 w _ _ _
 have hb0 : Below w.heap.size w W := by rw [hW]; exact below_a2 _ _ _
 clear hW
 have ca := PVar.c ka
 have cb := PVar.c kb
 have la := ka.lt
 have lb := kb.lt
 clear ka kb
 refine wp_region_up W.heap.size 9 [(true, 0), (true, 1), (true, 2), (true, 3), (true, 5), (true, 6), (true, 7), (true, 8), (false, 4)] (by kernel_rfl) (by kernel_rfl) (fun _ _ d _ _ h => by cases d <;> exact h) ?_
 have hb : Below W.heap.size W W.drew := (Below.refl _ _).drew
 iterate 8
  refine wpS_takeL rfl rfl ?_
  go_big_quiet_step (rfl)
  refine wpQuiet_nil ?_
 refine wpS_doL rfl ?_
 intro K hK
 go_wp2_with ((first | (go_at_call 66; (with_reducible refine (Compare_any ax bx _).mono ?_); rintro e w2 ⟨rfl, hn⟩; rw [HX.out]) | (go_at_call 66; (with_reducible refine (Compare_any ay b_y _).mono ?_); rintro e w2 ⟨rfl, hn⟩; rw [HY.out])))
 replace hb := hb.trans (hn.mono hb.size)
 refine hK.out _ _ (up_iff.2 hb) ?_
 clear hK K
 clear hn
 refine wpS_nil ?_
 simp only [List.drop_succ_cons, List.drop_zero]
 replace hb0 := hb0.trans (hb.mono hb0.size)
 clear hb
 clear ca cb la lb
 go_wp2_with fail
 refine (Compare_any ay b_y _).mono ?_
 rintro e u1 ⟨rfl, hn⟩
 rw [HY.out]
 replace hb0 := hb0.trans (hn.mono hb0.size)
 clear hn
 go_wp2_with fail
 refine calls_w ?_
 intro V hV
 have kl : Blk V u1.heap.size #[.int .i64 x, .int .i64 y] 3 := by rw [hV]; exact Blk.new _ _ _
 have hv : Below u1.heap.size u1 V := by rw [hV]; exact below_a1 _ _
 replace hb0 := hb0.trans (hv.mono hb0.size)
 clear hV hv
 refine (Or2_any x y _ _ (kl.cell 0) (kl.cell 1)).mono ?_
 rintro e u2 ⟨rfl, hn⟩
 replace hb0 := hb0.trans (hn.mono hb0.size)
 clear hn kl
 go_wp2
 go_ret
 exact ⟨rfl, hb0⟩
end Go.Proofs.Ytdlpfiiakmhnlaa

namespace Go.Proofs.Ytdlpfiiakmhnlaa
open Go.RowKit

theorem Turn_is (ax ay bx b_y cx cy r : Int) (h : way ax ay bx b_y cx cy = r) (w : World) :
    Calls Try.prog 75 #[pI ax ay, pI bx b_y, pI cx cy] w fun e w' => e = .returned (.int .i64 r) ∧ Below w.heap.size w w' := h ▸ Turn_any ax ay bx b_y cx cy w
theorem PtCmp_is (ax ay bx b_y r : Int) (h : cmpP ax ay bx b_y = r) (w : World) :
    Calls Try.prog 41 #[pI ax ay, pI bx b_y] w fun e w' => e = .returned (.int .i64 r) ∧ Below w.heap.size w w' := h ▸ PtCmp_any ax ay bx b_y w

end Go.Proofs.Ytdlpfiiakmhnlaa
namespace Go.Proofs.Ytdlpfiiakmhnlaa
open Go.ChangeShapes Go.WideShapes Go.ChangeAt Go.RowKit Go.Joins

theorem own : ownKnob Try.prog.godebug = none := by kernel_rfl
theorem laidOut : laidOutB Try.prog = true := by kernel_rfl

section
variable {H : Type} {enc : TypeId × Value → H} {w : World} {base : Nat} {spare : Nat → Bool} {held : Bool}

end
end Go.Proofs.Ytdlpfiiakmhnlaa
namespace Go.Proofs.Ytdlpfiiakmhnlaa
open Go.ChangeShapes Go.WideShapes Go.ChangeAt Go.RowKit Go.Joins
end Go.Proofs.Ytdlpfiiakmhnlaa
namespace Go.Proofs.Ytdlpfiiakmhnlaa
open Go.RowKit

theorem ws1 {W : World} {b : Nat} {u : Int} {t : TypeId} (hu : Wd u) (h : Blk W b #[.int .u64 u] t) : Ws W b [u] :=
  ⟨fun i hi => by
    match i, hi with
    | 0, _ => exact h.cell 0, h.lt, fun d hd => by rw [List.mem_singleton.1 hd]; exact hu, by simp⟩

set_option maxRecDepth 100000 in
set_option maxHeartbeats 1000000 in
theorem bigOf_pos (n : Int) (w : World) (h0 : 0 ≤ n) (h1 : n < 9223372036854775808) : Calls Try.prog 85 #[.int .i64 n] w (GivesBig w n 5) := by
  go_enter Try.func85, Try.ntmps85
  go_wp2_with fail
  refine calls_w ?_
  intro W hW
  have k0 : Blk W w.heap.size #[.bool false, .slice none 0 0] 109 := by rw [hW]; exact (Blk.new w _ _).alloc _
  have kl : Blk W (w.heap.size + 1) #[.int .u64 n] 140 := by rw [hW]; exact Blk.new1 w _ _ _
  have hb0 : Below w.heap.size w W := by rw [hW]; exact below_a2 _ _ _
  clear hW
  have T := Words_any (w.heap.size + 1) 1 1 [n] W (ws1 ⟨h0, by omega⟩ kl) rfl
  rw [show uval [n] = n by simp [uval]] at T
  refine T.mono ?_
  clear T
  rintro e u1 ⟨vm, rfl, hbm, hn⟩
  replace k0 := k0.of hn
  replace hb0 := hb0.trans (hn.mono hb0.size)
  have HBG := Lib.hid hbm
  have hvm := hbm.shape
  clear hbm hn kl
  obtain ⟨n5, a5, q5, c5, rfl⟩ := hvm
  have d0 := k0.cell 0
  have d1 := k0.cell 1
  have f0 := k0.free 0
  have f1 := k0.free 1
  simp only [List.getElem?_toArray, List.getElem?_cons_zero, List.getElem?_cons_succ] at d0 d1
  clear k0
  go_wp2
  simp [bodyPost, results, Try.results85, go_sem, d0, d1]
  exact ⟨_, rfl, HBG.out.set2 d0 (.bool n5) (.slice a5 q5 c5), set2_below hb0 (Nat.le_refl _) _ _⟩

set_option maxRecDepth 100000 in
set_option maxHeartbeats 1000000 in
theorem bigOf_neg (n : Int) (w : World) (h0 : n < 0) (h1 : -9223372036854775808 ≤ n) : Calls Try.prog 85 #[.int .i64 n] w (GivesBig w n 5) := by
  have hn0 : ¬ 0 ≤ n := by omega
  go_enter Try.func85, Try.ntmps85
  go_wp2_with fail
  refine calls_w ?_
  intro W hW
  have k0 : Blk W w.heap.size #[.bool false, .slice none 0 0] 109 := by rw [hW]; exact (Blk.new w _ _).alloc _
  have kl : Blk W (w.heap.size + 1) #[.int .u64 (-(n + 1) + 1)] 140 := by rw [hW]; exact Blk.new1 w _ _ _
  have hb0 : Below w.heap.size w W := by rw [hW]; exact below_a2 _ _ _
  clear hW
  have T := Words_any (w.heap.size + 1) 1 1 [-(n + 1) + 1] W (ws1 ⟨by omega, by omega⟩ kl) rfl
  rw [show uval [-(n + 1) + 1] = -n by simp [uval]; omega] at T
  refine T.mono ?_
  clear T
  rintro e u1 ⟨vm, rfl, hbm, hn⟩
  replace k0 := k0.of hn
  replace hb0 := hb0.trans (hn.mono hb0.size)
  have HB1 := Lib.hid hbm
  have hvm := hbm.shape
  clear hbm hn kl
  obtain ⟨n4, a4, q4, c4, rfl⟩ := hvm
  go_wp2_with fail
  have T := Minus_any _ _ _ _ HB1.out
  rw [Int.neg_neg] at T
  refine T.mono ?_
  clear T
  rintro e u2 ⟨vm, rfl, hbm, hn⟩
  replace k0 := k0.of hn
  replace hb0 := hb0.trans (hn.mono hb0.size)
  have HBG := Lib.hid hbm
  have hvm := hbm.shape
  clear hbm hn HB1
  obtain ⟨n5, a5, q5, c5, rfl⟩ := hvm
  have d0 := k0.cell 0
  have d1 := k0.cell 1
  have f0 := k0.free 0
  have f1 := k0.free 1
  simp only [List.getElem?_toArray, List.getElem?_cons_zero, List.getElem?_cons_succ] at d0 d1
  clear k0
  go_wp2
  simp [bodyPost, results, Try.results85, go_sem, d0, d1]
  exact ⟨_, rfl, HBG.out.set2 d0 (.bool n5) (.slice a5 q5 c5), set2_below hb0 (Nat.le_refl _) _ _⟩
theorem bigOf_any (n : Int) (w : World) (h : In64 n) : Calls Try.prog 85 #[.int .i64 n] w (GivesBig w n 5) := by
  by_cases h0 : 0 ≤ n
  · exact bigOf_pos n w h0 h.2
  · exact bigOf_neg n w (by omega) h.1
end Go.Proofs.Ytdlpfiiakmhnlaa
namespace Go.Proofs.Ytdlpfiiakmhnlaa
open Go.RowKit

theorem allocBg : AllocRuns Try.prog 109 #[.bool false, .slice none 0 0] := fun w => by kernel_rfl
theorem bigOfD_any (a b d : Int) (h : a - b = d) (g : In64 d) (w : World) : Calls Try.prog 85 #[.int .i64 (wrap64 (a - b))] w (GivesBig w d 5) := by
  subst h
  rw [show wrap64 (a - b) = a - b by unfold wrap64; unfold In64 at g; omega]
  exact bigOf_any _ w g

set_option maxRecDepth 100000 in
set_option maxHeartbeats 2000000 in
theorem rTurn_go (ax ay bx b_y cx cy d1 d2 d3 d4 p q r : Int) (h1 : bx - ax = d1) (h2 : cy - ay = d2) (h3 : b_y - ay = d3) (h4 : cx - ax = d4) (g1 : In64 d1) (g2 : In64 d2) (g3 : In64 d3) (g4 : In64 d4) (hp : d1 * d2 = p) (hq : d3 * d4 = q) (hr : p - q = r) (w : World) :
    Calls Try.prog 57 #[pI ax ay, pI bx b_y, pI cx cy] w (GivesBig w r 11) := by
 have H1 := Lib.hid h1
 have H2 := Lib.hid h2
 have H3 := Lib.hid h3
 have H4 := Lib.hid h4
 have H5 := Lib.hid hp
 have H6 := Lib.hid hq
 have H7 := Lib.hid hr
 clear h1 h2 h3 h4 hp hq hr
 go_enter Try.func57, Try.ntmps57
 go_wp2_with fail
 refine name_world ?_
 intro W hW
 have ka : Blk W w.heap.size (pC ax ay) 51 := by rw [hW]; exact (Blk.new w _ _).alloc _ |>.alloc _ |>.alloc _
 have kb : Blk W (w.heap.size + 1) (pC bx b_y) 51 := by rw [hW]; exact (Blk.new1 w _ _ _).alloc _ |>.alloc _
 have kc : Blk W (w.heap.size + 1 + 1) (pC cx cy) 51 := by rw [hW]; exact (Blk.new2 w _ _ _ _).alloc _
 have kz : Blk W (w.heap.size + 1 + 1 + 1) #[.bool false, .slice none 0 0] 109 := by rw [hW]; exact Blk.new3 w _ _ _ _ _
 have hb0 : Below w.heap.size w W := by rw [hW]; exact (below_a3 _ _ _ _).alloc (by simp; omega) _
 clear hW
 have ca0 := ka.cell 0
 have ca1 := ka.cell 1
 have cb0 := kb.cell 0
 have cb1 := kb.cell 1
 have cc0 := kc.cell 0
 have cc1 := kc.cell 1
 simp only [List.getElem?_toArray, List.getElem?_cons_zero, List.getElem?_cons_succ] at ca0 ca1 cb0 cb1 cc0 cc1
 have la := ka.lt
 have lb := kb.lt
 have lc := kc.lt
 have KA := Lib.hid ka
 have KB := Lib.hid kb
 have KC := Lib.hid kc
 have KZ := Lib.hid kz
 clear ka kb kc kz
 refine wp_region_float1 14 13 [(true, 0), (true, 1), (true, 2), (true, 3), (true, 4), (true, 6), (true, 7), (true, 8), (true, 9), (true, 10), (false, 5), (false, 11), (false, 12)] (by kernel_rfl) (by kernel_rfl) (fun _ _ d _ _ => by cases d <;> exact Iff.rfl) rfl rfl rfl allocBg ?_
 have hb : Below W.heap.size W W.drew := (Below.refl _ _).drew
 iterate 10
  refine wpF_take rfl rfl ?_
  go_big_quiet_step (rfl)
  refine wpQuiet_nil ?_
 refine wpF_do rfl ?_
 intro w1 hg K hK
 replace hb := hb.trans (hg.mono hb.size)
 try replace HM := Lib.hid (HM.out.of hg) ;; try replace HN := Lib.hid (HN.out.of hg)
 clear hg
 go_wp2_with ((first | (go_at_call 85; (with_reducible refine (bigOfD_any bx ax d1 H1.out g1 _).mono ?_); rintro e w4 ⟨vm, rfl, hbm, hn⟩; have HM := Lib.hid hbm; have hvm := hbm.shape; clear hbm; obtain ⟨n4, a4, q4, e4, rfl⟩ := hvm) | (go_at_call 85; (with_reducible refine (bigOfD_any cy ay d2 H2.out g2 _).mono ?_); rintro e w5 ⟨vm, rfl, hbm, hn⟩; have HN := Lib.hid hbm; have hvm := hbm.shape; replace HM := Lib.hid (HM.out.of hn); clear hbm; obtain ⟨n5, a5, q5, e5, rfl⟩ := hvm) | (go_at_call 84; refine (bigMul_any _ _ d1 d2 5 5 _ HM.out HN.out (by decide)).mono ?_; rintro e w6 ⟨vm, rfl, hbm, hn⟩; rw [H5.out] at hbm; have HP := Lib.hid hbm; have hvm := hbm.shape; clear hbm HM HN; obtain ⟨n6, a6, q6, e6, rfl⟩ := hvm)))
 refine hK.out _ _ hn ?_
 replace hb := hb.trans (hn.mono hb.size)
 clear hK K
 clear hn
 refine wpF_do rfl ?_
 intro w1 hg K hK
 replace hb := hb.trans (hg.mono hb.size)
 try replace HM := Lib.hid (HM.out.of hg) ;; try replace HN := Lib.hid (HN.out.of hg)
 clear hg
 go_wp2_with ((first | (go_at_call 85; (with_reducible refine (bigOfD_any bx ax d1 H1.out g1 _).mono ?_); rintro e w4 ⟨vm, rfl, hbm, hn⟩; have HM := Lib.hid hbm; have hvm := hbm.shape; clear hbm; obtain ⟨n4, a4, q4, e4, rfl⟩ := hvm) | (go_at_call 85; (with_reducible refine (bigOfD_any cy ay d2 H2.out g2 _).mono ?_); rintro e w5 ⟨vm, rfl, hbm, hn⟩; have HN := Lib.hid hbm; have hvm := hbm.shape; replace HM := Lib.hid (HM.out.of hn); clear hbm; obtain ⟨n5, a5, q5, e5, rfl⟩ := hvm) | (go_at_call 84; refine (bigMul_any _ _ d1 d2 5 5 _ HM.out HN.out (by decide)).mono ?_; rintro e w6 ⟨vm, rfl, hbm, hn⟩; rw [H5.out] at hbm; have HP := Lib.hid hbm; have hvm := hbm.shape; clear hbm HM HN; obtain ⟨n6, a6, q6, e6, rfl⟩ := hvm)))
 refine hK.out _ _ hn ?_
 replace hb := hb.trans (hn.mono hb.size)
 clear hK K
 clear hn
 refine wpF_do rfl ?_
 intro w1 hg K hK
 replace hb := hb.trans (hg.mono hb.size)
 try replace HM := Lib.hid (HM.out.of hg) ;; try replace HN := Lib.hid (HN.out.of hg)
 clear hg
 go_wp2_with ((first | (go_at_call 85; (with_reducible refine (bigOfD_any bx ax d1 H1.out g1 _).mono ?_); rintro e w4 ⟨vm, rfl, hbm, hn⟩; have HM := Lib.hid hbm; have hvm := hbm.shape; clear hbm; obtain ⟨n4, a4, q4, e4, rfl⟩ := hvm) | (go_at_call 85; (with_reducible refine (bigOfD_any cy ay d2 H2.out g2 _).mono ?_); rintro e w5 ⟨vm, rfl, hbm, hn⟩; have HN := Lib.hid hbm; have hvm := hbm.shape; replace HM := Lib.hid (HM.out.of hn); clear hbm; obtain ⟨n5, a5, q5, e5, rfl⟩ := hvm) | (go_at_call 84; refine (bigMul_any _ _ d1 d2 5 5 _ HM.out HN.out (by decide)).mono ?_; rintro e w6 ⟨vm, rfl, hbm, hn⟩; rw [H5.out] at hbm; have HP := Lib.hid hbm; have hvm := hbm.shape; clear hbm HM HN; obtain ⟨n6, a6, q6, e6, rfl⟩ := hvm)))
 refine hK.out _ _ hn ?_
 replace hb := hb.trans (hn.mono hb.size)
 clear hK K
 clear hn
 refine wpF_nil ?_
 clear hb
 intro w1 hg hb b1 lb1 nb1
 replace HP := Lib.hid (HP.out.of hg)
 clear hg
 simp only [Act.put, ptrTo, List.setIfInBounds_toArray, List.set_cons_succ, List.set_cons_zero]
 simp only [List.drop_succ_cons, List.drop_zero]
 have kx : Blk w1 b1 #[.bool false, .slice none 0 0] 109 := nb1
 have v0 := kx.cell 0
 have v1 := kx.cell 1
 have f0 := kx.free 0
 have f1 := kx.free 1
 simp only [List.getElem?_toArray, List.getElem?_cons_zero, List.getElem?_cons_succ] at v0 v1
 have na : w.heap.size ≠ b1 := by omega
 have nb : w.heap.size + 1 ≠ b1 := by omega
 have nc : w.heap.size + 1 + 1 ≠ b1 := by omega
 have nz : w.heap.size + 1 + 1 + 1 ≠ b1 := by have := KZ.out.lt; omega
 have hge : w.heap.size ≤ b1 := Nat.le_trans hb0.size lb1
 have NN := Lib.hid (And.intro na (And.intro nb (And.intro nc nz)))
 have KX := Lib.hid kx
 have V0 := Lib.hid v0
 clear ca0 ca1 cb0 cb1 cc0 cc1 la lb lc nb1 kx na nb nc nz
 go_wp2_with fail
 refine name_world ?_
 intro V hV
 have kx : Blk V b1 #[.bool n6, .slice a6 q6 e6] 109 := by rw [hV]; exact (Blk.put KX.out 0 _).put 1 _
 have ka : Blk V w.heap.size (pC ax ay) 51 := by rw [hV]; exact ((KA.out.of hb).set NN.out.1 _ _ _).set NN.out.1 _ _ _
 have kb : Blk V (w.heap.size + 1) (pC bx b_y) 51 := by rw [hV]; exact ((KB.out.of hb).set NN.out.2.1 _ _ _).set NN.out.2.1 _ _ _
 have kc : Blk V (w.heap.size + 1 + 1) (pC cx cy) 51 := by rw [hV]; exact ((KC.out.of hb).set NN.out.2.2.1 _ _ _).set NN.out.2.2.1 _ _ _
 have kz : Blk V (w.heap.size + 1 + 1 + 1) #[.bool false, .slice none 0 0] 109 := by rw [hV]; exact ((KZ.out.of hb).set NN.out.2.2.2 _ _ _).set NN.out.2.2.2 _ _ _
 have hbV : Below w.heap.size w V := by rw [hV]; exact set2_below (hb0.trans (hb.mono hb0.size)) hge _ _
 replace HP := Lib.hid (show Big V (.agg #[.bool n6, .slice a6 q6 e6]) p 10 by rw [hV]; exact HP.out.set2 V0.out (.bool n6) (.slice a6 q6 e6))
 clear hV hb hb0 KA KB KC KZ KX NN V0 v0 v1 f0 f1 hge lb1
 have ca0 := ka.cell 0
 have ca1 := ka.cell 1
 have cb0 := kb.cell 0
 have cb1 := kb.cell 1
 have cc0 := kc.cell 0
 have cc1 := kc.cell 1
 have cx0 := kx.cell 0
 have cx1 := kx.cell 1
 simp only [List.getElem?_toArray, List.getElem?_cons_zero, List.getElem?_cons_succ] at ca0 ca1 cb0 cb1 cc0 cc1 cx0 cx1
 have la := ka.lt
 have lb := kb.lt
 have lc := kc.lt
 have lx := kx.lt
 have KZ := Lib.hid kz
 clear ka kb kc kz kx
 refine wp_region_up V.heap.size 14 [(true, 0), (true, 1), (true, 2), (true, 3), (true, 4), (true, 5), (true, 7), (true, 8), (true, 9), (true, 10), (true, 11), (false, 6), (false, 12), (false, 13)] (by kernel_rfl) (by kernel_rfl) (fun _ _ d _ _ h => by cases d <;> exact h) ?_
 have hb : Below V.heap.size V V.drew := (Below.refl _ _).drew
 iterate 11
  refine wpS_takeL rfl rfl ?_
  go_big_quiet_step (rfl)
  refine wpQuiet_nil ?_
 refine wpS_doL rfl ?_
 intro K hK
 try replace HM := Lib.hid (HM.out.of hg) ;; try replace HN := Lib.hid (HN.out.of hg)
 go_wp2_with ((first | (go_at_call 85; (with_reducible refine (bigOfD_any b_y ay d3 H3.out g3 _).mono ?_); rintro e w4 ⟨vm, rfl, hbm, hn⟩; have HM := Lib.hid hbm; have hvm := hbm.shape; clear hbm; obtain ⟨n7, a7, q7, e7, rfl⟩ := hvm) | (go_at_call 85; (with_reducible refine (bigOfD_any cx ax d4 H4.out g4 _).mono ?_); rintro e w5 ⟨vm, rfl, hbm, hn⟩; have HN := Lib.hid hbm; have hvm := hbm.shape; replace HM := Lib.hid (HM.out.of hn); clear hbm; obtain ⟨n8, a8, q8, e8, rfl⟩ := hvm) | (go_at_call 84; refine (bigMul_any _ _ d3 d4 5 5 _ HM.out HN.out (by decide)).mono ?_; rintro e w6 ⟨vm, rfl, hbm, hn⟩; rw [H6.out] at hbm; have HQ := Lib.hid hbm; have hvm := hbm.shape; clear hbm HM HN; obtain ⟨n9, a9, q9, e9, rfl⟩ := hvm)))
 replace hb := hb.trans (hn.mono hb.size)
 refine hK.out _ _ (up_iff.2 hb) ?_
 clear hK K
 clear hn
 refine wpS_doL rfl ?_
 intro K hK
 try replace HM := Lib.hid (HM.out.of hg) ;; try replace HN := Lib.hid (HN.out.of hg)
 go_wp2_with ((first | (go_at_call 85; (with_reducible refine (bigOfD_any b_y ay d3 H3.out g3 _).mono ?_); rintro e w4 ⟨vm, rfl, hbm, hn⟩; have HM := Lib.hid hbm; have hvm := hbm.shape; clear hbm; obtain ⟨n7, a7, q7, e7, rfl⟩ := hvm) | (go_at_call 85; (with_reducible refine (bigOfD_any cx ax d4 H4.out g4 _).mono ?_); rintro e w5 ⟨vm, rfl, hbm, hn⟩; have HN := Lib.hid hbm; have hvm := hbm.shape; replace HM := Lib.hid (HM.out.of hn); clear hbm; obtain ⟨n8, a8, q8, e8, rfl⟩ := hvm) | (go_at_call 84; refine (bigMul_any _ _ d3 d4 5 5 _ HM.out HN.out (by decide)).mono ?_; rintro e w6 ⟨vm, rfl, hbm, hn⟩; rw [H6.out] at hbm; have HQ := Lib.hid hbm; have hvm := hbm.shape; clear hbm HM HN; obtain ⟨n9, a9, q9, e9, rfl⟩ := hvm)))
 replace hb := hb.trans (hn.mono hb.size)
 refine hK.out _ _ (up_iff.2 hb) ?_
 clear hK K
 clear hn
 refine wpS_doL rfl ?_
 intro K hK
 try replace HM := Lib.hid (HM.out.of hg) ;; try replace HN := Lib.hid (HN.out.of hg)
 go_wp2_with ((first | (go_at_call 85; (with_reducible refine (bigOfD_any b_y ay d3 H3.out g3 _).mono ?_); rintro e w4 ⟨vm, rfl, hbm, hn⟩; have HM := Lib.hid hbm; have hvm := hbm.shape; clear hbm; obtain ⟨n7, a7, q7, e7, rfl⟩ := hvm) | (go_at_call 85; (with_reducible refine (bigOfD_any cx ax d4 H4.out g4 _).mono ?_); rintro e w5 ⟨vm, rfl, hbm, hn⟩; have HN := Lib.hid hbm; have hvm := hbm.shape; replace HM := Lib.hid (HM.out.of hn); clear hbm; obtain ⟨n8, a8, q8, e8, rfl⟩ := hvm) | (go_at_call 84; refine (bigMul_any _ _ d3 d4 5 5 _ HM.out HN.out (by decide)).mono ?_; rintro e w6 ⟨vm, rfl, hbm, hn⟩; rw [H6.out] at hbm; have HQ := Lib.hid hbm; have hvm := hbm.shape; clear hbm HM HN; obtain ⟨n9, a9, q9, e9, rfl⟩ := hvm)))
 replace hb := hb.trans (hn.mono hb.size)
 refine hK.out _ _ (up_iff.2 hb) ?_
 clear hK K
 clear hn
 refine wpS_nil ?_
 simp only [List.drop_succ_cons, List.drop_zero]
 replace HP := Lib.hid (HP.out.of hb)
 replace KZ := Lib.hid (KZ.out.of hb)
 replace hbV := hbV.trans (hb.mono hbV.size)
 clear hb ca0 ca1 cb0 cb1 cc0 cc1 cx0 cx1 la lb lc lx
 go_wp2_with fail
 refine (bigSub_any _ _ p q 10 _ HP.out HQ.out (by decide)).mono ?_
 rintro e u5 ⟨v5, rfl, hbig, hn⟩
 rw [H7.out] at hbig
 have HBG := Lib.hid hbig
 have hvv := hbig.shape
 clear hbig
 obtain ⟨m5, b5, l5, r5, rfl⟩ := hvv
 have k5 := KZ.out.of hn
 have d0 := k5.cell 0
 have d1' := k5.cell 1
 have f0 := k5.free 0
 have f1 := k5.free 1
 simp only [List.getElem?_toArray, List.getElem?_cons_zero, List.getElem?_cons_succ] at d0 d1'
 have hb5 := hbV.trans (hn.mono hbV.size)
 have hge : w.heap.size ≤ w.heap.size + 1 + 1 + 1 := by omega
 clear hn k5 hbV HP HQ KZ
 go_wp2
 simp [bodyPost, results, Try.results57, go_sem, d0, d1']
 exact ⟨_, rfl, HBG.out.set2 d0 (.bool m5) (.slice b5 l5 r5), set2_below hb5 hge _ _⟩
end Go.Proofs.Ytdlpfiiakmhnlaa
namespace Go.Proofs.Ytdlpfiiakmhnlaa
open Go.RowKit

theorem rTurn_any (ax ay bx b_y cx cy : Int) (h1 : Co ax) (h2 : Co ay) (h3 : Co bx) (h4 : Co b_y) (h5 : Co cx) (h6 : Co cy) (w : World) :
    Calls Try.prog 57 #[pI ax ay, pI bx b_y, pI cx cy] w (GivesBig w (trn ax ay bx b_y cx cy) 11) := by
  refine rTurn_go ax ay bx b_y cx cy _ _ _ _ _ _ _ rfl rfl rfl rfl ?_ ?_ ?_ ?_ rfl rfl rfl w
  · have := co_sub h3 h1; unfold In64; omega
  · have := co_sub h6 h2; unfold In64; omega
  · have := co_sub h4 h2; unfold In64; omega
  · have := co_sub h5 h1; unfold In64; omega
/-- a variable that holds a point of the document's answer -/
abbrev QVar (w : World) (b : Nat) (x y : Int) : Prop := Blk w b (pC x y) 51
theorem QVar.c {w : World} {b : Nat} {x y : Int} (h : QVar w b x y) : w.cell? ⟨b, 0, none⟩ = some (.int .i64 x) ∧ w.cell? ⟨b, 1, none⟩ = some (.int .i64 y) := ⟨h.cell 0, h.cell 1⟩
theorem rR_is (x y : Int) (r : Bool) (h : rp x y = r) (w : World) : Calls Try.prog 38 #[pI x y] w fun e w' => e = .returned (.bool r) ∧ Below w.heap.size w w' := h ▸ rRight_any x y w
theorem bSign_is (v : Value) (n : Int) (L : Nat) (s : Int) (hs : n.sign = s) (w : World) (h : Big w v n L) :
    Calls Try.prog 78 #[v] w fun e w' => e = .returned (.int .i64 s) ∧ Below w.heap.size w w' := hs ▸ bigSign_any v n L w h

set_option maxRecDepth 100000 in
set_option maxHeartbeats 1000000 in
theorem Way_any (ax ay bx b_y cx cy : Int) (w : World) :
    Calls Try.prog 46 #[pI ax ay, pI bx b_y, pI cx cy] w fun e w' => e = .returned (.int .i64 (way ax ay bx b_y cx cy)) ∧ Below w.heap.size w w' := by
 unfold way rp3
 obtain ⟨x, hx⟩ : ∃ x, rp ax ay = x := ⟨_, rfl⟩
 obtain ⟨y, hy⟩ : ∃ y, rp bx b_y = y := ⟨_, rfl⟩
 obtain ⟨z, hz⟩ : ∃ z, rp cx cy = z := ⟨_, rfl⟩
 obtain ⟨s, hs⟩ : ∃ s, (trn ax ay bx b_y cx cy).sign = s := ⟨_, rfl⟩
 rw [hx, hy, hz, hs]
 have HX := Lib.hid hx
 have HY := Lib.hid hy
 have HZ := Lib.hid hz
 have HS := Lib.hid hs
 clear hx hy hz hs
 go_enter Try.func46, Try.ntmps46
 go_wp2_with fail
 first | refine calls_w ?_ | refine name_world ?_
 intro W hW
 have ka : QVar W (w.heap.size) ax ay := by rw [hW]; exact (Blk.new w _ _) |>.alloc _ |>.alloc _
 have kb : QVar W (w.heap.size + 1) bx b_y := by rw [hW]; exact (Blk.new1 w _ _ _) |>.alloc _
 have kc : QVar W (w.heap.size + 1 + 1) cx cy := by rw [hW]; exact (Blk.new2 w _ _ _ _)
 have hb0 : Below w.heap.size w W := by rw [hW]; exact below_a3 _ _ _ _
 clear hW
 refine (rR_is ax ay x HX.out _).mono ?_
 rintro e u1 ⟨rfl, hn⟩
 replace ka : QVar u1 _ _ _ := ka.of hn
 replace kb : QVar u1 _ _ _ := kb.of hn
 replace kc : QVar u1 _ _ _ := kc.of hn
 replace hb0 := hb0.trans (hn.mono hb0.size)
 clear hn 
 cases x
 ·have ca := QVar.c ka
  have la := ka.lt
  have cb := QVar.c kb
  have lb := kb.lt
  have cc := QVar.c kc
  have lc := kc.lt
  go_wp2
  go_ret
  exact ⟨rfl, hb0⟩
 ·have ca := QVar.c ka
  have la := ka.lt
  have cb := QVar.c kb
  have lb := kb.lt
  have cc := QVar.c kc
  have lc := kc.lt
  go_wp2_with fail
  clear ca la cb lb cc lc
  refine (rR_is bx b_y y HY.out _).mono ?_
  rintro e u2 ⟨rfl, hn⟩
  replace ka : QVar u2 _ _ _ := ka.of hn
  replace kb : QVar u2 _ _ _ := kb.of hn
  replace kc : QVar u2 _ _ _ := kc.of hn
  replace hb0 := hb0.trans (hn.mono hb0.size)
  clear hn 
  cases y
  ·have ca := QVar.c ka
   have la := ka.lt
   have cb := QVar.c kb
   have lb := kb.lt
   have cc := QVar.c kc
   have lc := kc.lt
   go_wp2
   go_ret
   exact ⟨rfl, hb0⟩
  ·have ca := QVar.c ka
   have la := ka.lt
   have cb := QVar.c kb
   have lb := kb.lt
   have cc := QVar.c kc
   have lc := kc.lt
   go_wp2_with fail
   clear ca la cb lb cc lc
   refine (rR_is cx cy z HZ.out _).mono ?_
   rintro e u3 ⟨rfl, hn⟩
   replace ka : QVar u3 _ _ _ := ka.of hn
   replace kb : QVar u3 _ _ _ := kb.of hn
   replace kc : QVar u3 _ _ _ := kc.of hn
   replace hb0 := hb0.trans (hn.mono hb0.size)
   clear hn 
   cases z
   ·have ca := QVar.c ka
    have la := ka.lt
    have cb := QVar.c kb
    have lb := kb.lt
    have cc := QVar.c kc
    have lc := kc.lt
    go_wp2
    go_ret
    exact ⟨rfl, hb0⟩
   ·have ca := QVar.c ka
    have la := ka.lt
    have cb := QVar.c kb
    have lb := kb.lt
    have cc := QVar.c kc
    have lc := kc.lt
    go_wp2_with fail
    clear ca la cb lb cc lc
    clear ka kb kc
    refine (rTurn_any ax ay bx b_y cx cy (rp_co HX.out).1 (rp_co HX.out).2 (rp_co HY.out).1 (rp_co HY.out).2 (rp_co HZ.out).1 (rp_co HZ.out).2 _).mono ?_
    rintro e u8 ⟨vm, rfl, hbm, hn⟩
    replace hb0 := hb0.trans (hn.mono hb0.size)
    have HM := Lib.hid hbm
    clear hn hbm
    go_wp2_with fail
    refine (bSign_is vm _ 11 s HS.out _ HM.out).mono ?_
    rintro e u9 ⟨rfl, hn⟩
    replace hb0 := hb0.trans (hn.mono hb0.size)
    clear hn
    go_wp2
    go_ret
    exact ⟨rfl, hb0⟩
end Go.Proofs.Ytdlpfiiakmhnlaa
namespace Go.Proofs.Ytdlpfiiakmhnlaa
open Go.RowKit

theorem trn_swap (ax ay bx b_y cx cy : Int) : trn bx b_y ax ay cx cy = -trn ax ay bx b_y cx cy := by unfold trn; grind
theorem way_cases (ax ay bx b_y cx cy : Int) : way ax ay bx b_y cx cy = -1 ∨ way ax ay bx b_y cx cy = 0 ∨ way ax ay bx b_y cx cy = 1 := by
  unfold way; cases rp3 ax ay bx b_y cx cy
  · exact .inr (.inl rfl)
  · exact sign_cases _
theorem on_lt {ax ay bx b_y px py : Int} (h : trn ax ay bx b_y px py = 0) (hl : ax < bx) :
    (ax < px ∨ ax = px ∧ ay ≤ py) ∧ (px < bx ∨ px = bx ∧ py ≤ b_y) ↔ (min ax bx ≤ px ∧ px ≤ max ax bx) ∧ min ay b_y ≤ py ∧ py ≤ max ay b_y := by
  unfold trn at h
  have hd : 0 < bx - ax := by omega
  constructor
  · intro ⟨h1, h2⟩
    have k0 : 0 ≤ px - ax := by omega
    have k1 : 0 ≤ bx - px := by omega
    refine ⟨by omega, ?_⟩
    by_cases hy : ay ≤ b_y
    · have m1 := Int.mul_nonneg (show 0 ≤ b_y - ay by omega) k0
      have m2 := Int.mul_nonneg (show 0 ≤ b_y - ay by omega) k1
      have a1 : (bx - ax) * 0 ≤ (bx - ax) * (py - ay) := by grind
      have a2 : (bx - ax) * 0 ≤ (bx - ax) * (b_y - py) := by grind
      have b1 := Int.le_of_mul_le_mul_left a1 hd
      have b2 := Int.le_of_mul_le_mul_left a2 hd
      omega
    · have m1 := Int.mul_nonneg (show 0 ≤ ay - b_y by omega) k0
      have m2 := Int.mul_nonneg (show 0 ≤ ay - b_y by omega) k1
      have a1 : (bx - ax) * 0 ≤ (bx - ax) * (ay - py) := by grind
      have a2 : (bx - ax) * 0 ≤ (bx - ax) * (py - b_y) := by grind
      have b1 := Int.le_of_mul_le_mul_left a1 hd
      have b2 := Int.le_of_mul_le_mul_left a2 hd
      omega
  · intro ⟨h1, h2⟩
    refine ⟨?_, ?_⟩
    · by_cases hx : ax < px
      · exact .inl hx
      · have hx : px = ax := by omega
        subst hx
        have : (bx - px) * (py - ay) = 0 := by grind
        rcases Int.mul_eq_zero.1 this with h | h <;> omega
    · by_cases hx : px < bx
      · exact .inl hx
      · have hx : px = bx := by omega
        subst hx
        have : (px - ax) * (py - b_y) = 0 := by grind
        rcases Int.mul_eq_zero.1 this with h | h <;> omega
theorem lex_btw {ax ay bx b_y px py : Int} (h : trn ax ay bx b_y px py = 0) (hl : ahd bx b_y ax ay = false) :
    (!ahd px py ax ay && !ahd bx b_y px py) = (btw ax bx px && btw ay b_y py) := by
  unfold ahd at hl
  have hl' : ¬(bx < ax ∨ bx = ax ∧ b_y < ay) := fun h => by
    have : (decide (bx < ax) || decide (bx = ax) && decide (b_y < ay)) = true := by simpa using h
    rw [hl] at this; cases this
  have h3 : (ax < px ∨ ax = px ∧ ay ≤ py) ∧ (px < bx ∨ px = bx ∧ py ≤ b_y) ↔ (min ax bx ≤ px ∧ px ≤ max ax bx) ∧ min ay b_y ≤ py ∧ py ≤ max ay b_y := by
    by_cases hx : ax < bx
    · exact on_lt h hx
    · obtain rfl : bx = ax := by omega
      omega
  rw [Bool.eq_iff_iff]
  unfold ahd btw
  simp only [Bool.and_eq_true, Bool.not_eq_true', Bool.or_eq_false_iff, Bool.and_eq_false_iff, decide_eq_true_eq, decide_eq_false_iff_not]
  omega
theorem ahd_asym {ax ay bx b_y : Int} (h : ahd ax ay bx b_y = true) : ahd bx b_y ax ay = false := by
  unfold ahd at *
  simp only [Bool.and_eq_true, Bool.or_eq_true, Bool.or_eq_false_iff, Bool.and_eq_false_iff, decide_eq_true_eq, decide_eq_false_iff_not] at *
  omega
theorem btw_comm (a b n : Int) : btw b a n = btw a b n := by unfold btw; rw [Int.min_comm, Int.max_comm]
/-- does one lie on a segment, by the order of points? (h: is b ahead of a) -/
def lexB (h : Bool) (ax ay bx b_y px py : Int) : Bool := bif h then !ahd px py bx b_y && !ahd ax ay px py else !ahd px py ax ay && !ahd bx b_y px py
theorem onB_lex (ax ay bx b_y px py : Int) : onB ax ay bx b_y px py = (rp3 ax ay bx b_y px py && (way ax ay bx b_y px py == 0) && lexB (ahd bx b_y ax ay) ax ay bx b_y px py) := by
  unfold onB lexB way
  cases rp3 ax ay bx b_y px py
  · rfl
  by_cases h0 : trn ax ay bx b_y px py = 0
  · rw [h0]
    cases hl : ahd bx b_y ax ay
    · rw [cond_false, cond_true, lex_btw h0 hl]; simp
    · have h1 : trn bx b_y ax ay px py = 0 := by rw [trn_swap, h0]; rfl
      rw [cond_true, cond_true, lex_btw h1 (ahd_asym hl), btw_comm, btw_comm b_y ay]; simp
  · have : ((trn ax ay bx b_y px py).sign == 0) = false := by simpa using h0
    rw [cond_true, this]; simp
end Go.Proofs.Ytdlpfiiakmhnlaa
namespace Go.Proofs.Ytdlpfiiakmhnlaa
open Go.RowKit

theorem rWay_is (ax ay bx b_y cx cy r : Int) (h : way ax ay bx b_y cx cy = r) (w : World) :
    Calls Try.prog 46 #[pI ax ay, pI bx b_y, pI cx cy] w fun e w' => e = .returned (.int .i64 r) ∧ Below w.heap.size w w' := h ▸ Way_any ax ay bx b_y cx cy w
theorem Blk.put2 {w : World} {b : Nat} {p q : Value} {t : TypeId} (h : Blk w b #[p, q] t) (u v : Value) : Blk ((w.setCell ⟨b, 0, none⟩ u).setCell ⟨b, 1, none⟩ v) b #[u, v] t := (h.put 0 u).put 1 v
theorem Blk.sett {w : World} {b b' : Nat} {c : Array Value} {t : TypeId} (h : Blk w b c t) (hne : b ≠ b') (u v : Value) : Blk ((w.setCell ⟨b', 0, none⟩ u).setCell ⟨b', 1, none⟩ v) b c t := (h.set hne _ _ _).set hne _ _ _
theorem rAhead_is (ax ay bx b_y : Int) (r : Bool) (h : ahd ax ay bx b_y = r) (w : World) : Calls Try.prog 39 #[pI ax ay, pI bx b_y] w fun e w' => e = .returned (.bool r) ∧ Below w.heap.size w w' := h ▸ Ahead_any ax ay bx b_y w
set_option maxRecDepth 100000 in
set_option maxHeartbeats 2000000 in
theorem rOn_any (ax ay bx b_y cx cy : Int) (w : World) :
    Calls Try.prog 47 #[pI ax ay, pI bx b_y, pI cx cy] w fun e w' => e = .returned (.bool (onB ax ay bx b_y cx cy)) ∧ Below w.heap.size w w' := by
 rw [onB_lex]
 unfold rp3 lexB
 obtain ⟨x, hx⟩ : ∃ x, rp ax ay = x := ⟨_, rfl⟩
 obtain ⟨y, hy⟩ : ∃ y, rp bx b_y = y := ⟨_, rfl⟩
 obtain ⟨z, hz⟩ : ∃ z, rp cx cy = z := ⟨_, rfl⟩
 obtain ⟨s, hs⟩ : ∃ s : Int, way ax ay bx b_y cx cy = s := ⟨_, rfl⟩
 obtain ⟨t, ht⟩ : ∃ t : Bool, (s == 0) = t := ⟨_, rfl⟩
 obtain ⟨h, hh⟩ : ∃ h, ahd bx b_y ax ay = h := ⟨_, rfl⟩
 obtain ⟨p, hp⟩ : ∃ p, ahd cx cy bx b_y = p := ⟨_, rfl⟩
 obtain ⟨q, hq⟩ : ∃ q, ahd ax ay cx cy = q := ⟨_, rfl⟩
 obtain ⟨m, hm⟩ : ∃ m, ahd cx cy ax ay = m := ⟨_, rfl⟩
 obtain ⟨n, hn⟩ : ∃ n, ahd bx b_y cx cy = n := ⟨_, rfl⟩
 rw [hx, hy, hz, hs, ht, hh, hp, hq, hm, hn]
 have HX := Lib.hid hx
 have HY := Lib.hid hy
 have HZ := Lib.hid hz
 have HS := Lib.hid hs
 have HH := Lib.hid hh
 have HP := Lib.hid hp
 have HQ := Lib.hid hq
 have HM := Lib.hid hm
 have HN := Lib.hid hn
 clear hx hy hz hs hh hp hq hm hn
 go_enter Try.func47, Try.ntmps47
 go_wp2_with fail
 first | refine calls_w ?_ | refine name_world ?_
 intro W hW
 have ka : QVar W (w.heap.size) ax ay := by rw [hW]; exact (Blk.new w _ _) |>.alloc _ |>.alloc _
 have kb : QVar W (w.heap.size + 1) bx b_y := by rw [hW]; exact (Blk.new1 w _ _ _) |>.alloc _
 have kc : QVar W (w.heap.size + 1 + 1) cx cy := by rw [hW]; exact (Blk.new2 w _ _ _ _)
 have hb0 : Below w.heap.size w W := by rw [hW]; exact below_a3 _ _ _ _
 clear hW
 refine (rR_is ax ay x HX.out _).mono ?_
 rintro e u1 ⟨rfl, hn⟩
 replace ka : QVar u1 _ _ _ := ka.of hn
 replace kb : QVar u1 _ _ _ := kb.of hn
 replace kc : QVar u1 _ _ _ := kc.of hn
 replace hb0 := hb0.trans (hn.mono hb0.size)
 clear hn 
 cases x
 ·have ca := QVar.c ka
  have la := ka.lt
  have cb := QVar.c kb
  have lb := kb.lt
  have cc := QVar.c kc
  have lc := kc.lt
  go_wp2
  go_ret
  exact ⟨rfl, hb0⟩
 ·have ca := QVar.c ka
  have la := ka.lt
  have cb := QVar.c kb
  have lb := kb.lt
  have cc := QVar.c kc
  have lc := kc.lt
  go_wp2_with fail
  clear ca la cb lb cc lc
  refine (rR_is bx b_y y HY.out _).mono ?_
  rintro e u2 ⟨rfl, hn⟩
  replace ka : QVar u2 _ _ _ := ka.of hn
  replace kb : QVar u2 _ _ _ := kb.of hn
  replace kc : QVar u2 _ _ _ := kc.of hn
  replace hb0 := hb0.trans (hn.mono hb0.size)
  clear hn 
  cases y
  ·have ca := QVar.c ka
   have la := ka.lt
   have cb := QVar.c kb
   have lb := kb.lt
   have cc := QVar.c kc
   have lc := kc.lt
   go_wp2
   go_ret
   exact ⟨rfl, hb0⟩
  ·have ca := QVar.c ka
   have la := ka.lt
   have cb := QVar.c kb
   have lb := kb.lt
   have cc := QVar.c kc
   have lc := kc.lt
   go_wp2_with fail
   clear ca la cb lb cc lc
   refine (rR_is cx cy z HZ.out _).mono ?_
   rintro e u3 ⟨rfl, hn⟩
   replace ka : QVar u3 _ _ _ := ka.of hn
   replace kb : QVar u3 _ _ _ := kb.of hn
   replace kc : QVar u3 _ _ _ := kc.of hn
   replace hb0 := hb0.trans (hn.mono hb0.size)
   clear hn 
   cases z
   ·have ca := QVar.c ka
    have la := ka.lt
    have cb := QVar.c kb
    have lb := kb.lt
    have cc := QVar.c kc
    have lc := kc.lt
    go_wp2
    go_ret
    exact ⟨rfl, hb0⟩
   ·have ca := QVar.c ka
    have la := ka.lt
    have cb := QVar.c kb
    have lb := kb.lt
    have cc := QVar.c kc
    have lc := kc.lt
    go_wp2_with fail
    clear ca la cb lb cc lc
    refine (rWay_is ax ay bx b_y cx cy s HS.out _).mono ?_
    rintro e u4 ⟨rfl, hn⟩
    replace ka : QVar u4 _ _ _ := ka.of hn
    replace kb : QVar u4 _ _ _ := kb.of hn
    replace kc : QVar u4 _ _ _ := kc.of hn
    replace hb0 := hb0.trans (hn.mono hb0.size)
    clear hn 
    cases t
    ·have ca := QVar.c ka
     have la := ka.lt
     have cb := QVar.c kb
     have lb := kb.lt
     have cc := QVar.c kc
     have lc := kc.lt
     go_wp2
     go_ret
     exact ⟨rfl, hb0⟩
    ·have ca := QVar.c ka
     have la := ka.lt
     have cb := QVar.c kb
     have lb := kb.lt
     have cc := QVar.c kc
     have lc := kc.lt
     go_wp2_with fail
     clear ca la cb lb cc lc
     have la4 := ka.lt
     have lb4 := kb.lt
     have lc4 := kc.lt
     have HNE := Lib.hid (show (w.heap.size ≠ u4.heap.size ∧ w.heap.size + 1 ≠ u4.heap.size ∧ w.heap.size + 1 + 1 ≠ u4.heap.size ∧ w.heap.size ≠ u4.heap.size + 1 ∧ w.heap.size + 1 ≠ u4.heap.size + 1 ∧ w.heap.size + 1 + 1 ≠ u4.heap.size + 1 ∧ u4.heap.size ≠ u4.heap.size + 1 ∧ w.heap.size < u4.heap.size ∧ w.heap.size + 1 < u4.heap.size ∧ w.heap.size + 1 + 1 < u4.heap.size) from by omega)
     clear la4 lb4 lc4
     refine calls_w ?_
     intro V hV
     have kl : QVar V u4.heap.size ax ay := by rw [hV]; exact (Blk.new _ _ _).alloc _
     have km : QVar V (u4.heap.size + 1) bx b_y := by rw [hV]; exact Blk.new1 _ _ _ _
     have hbV : Below u4.heap.size u4 V := by rw [hV]; exact below_a2 _ _ _
     replace ka : QVar V _ _ _ := ka.of hbV
     replace kb : QVar V _ _ _ := kb.of hbV
     replace kc : QVar V _ _ _ := kc.of hbV
     have hge : w.heap.size ≤ u4.heap.size := hb0.size
     replace hb0 := hb0.trans (hbV.mono hb0.size)
     clear hV hbV
     refine (rAhead_is bx b_y ax ay h HH.out _).mono ?_
     rintro e u5 ⟨rfl, hn⟩
     replace ka : QVar u5 _ _ _ := ka.of hn
     replace kb : QVar u5 _ _ _ := kb.of hn
     replace kc : QVar u5 _ _ _ := kc.of hn
     replace kl : QVar u5 _ _ _ := kl.of hn
     replace km : QVar u5 _ _ _ := km.of hn
     replace hb0 := hb0.trans (hn.mono hb0.size)
     clear hn 
     cases h
     ·have ca := QVar.c ka
      have la := ka.lt
      have cb := QVar.c kb
      have lb := kb.lt
      have cc := QVar.c kc
      have lc := kc.lt
      have cl := QVar.c kl
      have ll := kl.lt
      have cm := QVar.c km
      have lm := km.lt
      go_wp2_with fail
      clear ca la cb lb cc lc cl ll cm lm
      refine (rAhead_is cx cy ax ay m HM.out _).mono ?_
      rintro e u6 ⟨rfl, hn⟩
      replace ka : QVar u6 _ _ _ := ka.of hn
      replace kb : QVar u6 _ _ _ := kb.of hn
      replace kc : QVar u6 _ _ _ := kc.of hn
      replace kl : QVar u6 _ _ _ := kl.of hn
      replace km : QVar u6 _ _ _ := km.of hn
      replace hb0 := hb0.trans (hn.mono hb0.size)
      clear hn 
      cases m
      ·have ca := QVar.c ka
       have la := ka.lt
       have cb := QVar.c kb
       have lb := kb.lt
       have cc := QVar.c kc
       have lc := kc.lt
       have cl := QVar.c kl
       have ll := kl.lt
       have cm := QVar.c km
       have lm := km.lt
       go_wp2_with fail
       clear ca la cb lb cc lc cl ll cm lm
       refine (rAhead_is bx b_y cx cy n HN.out _).mono ?_
       rintro e u7 ⟨rfl, hn⟩
       replace ka : QVar u7 _ _ _ := ka.of hn
       replace kb : QVar u7 _ _ _ := kb.of hn
       replace kc : QVar u7 _ _ _ := kc.of hn
       replace kl : QVar u7 _ _ _ := kl.of hn
       replace km : QVar u7 _ _ _ := km.of hn
       replace hb0 := hb0.trans (hn.mono hb0.size)
       clear hn 
       cases n
       ·have ca := QVar.c ka
        have la := ka.lt
        have cb := QVar.c kb
        have lb := kb.lt
        have cc := QVar.c kc
        have lc := kc.lt
        have cl := QVar.c kl
        have ll := kl.lt
        have cm := QVar.c km
        have lm := km.lt
        go_wp2
        go_ret
        exact ⟨rfl, hb0⟩
       ·have ca := QVar.c ka
        have la := ka.lt
        have cb := QVar.c kb
        have lb := kb.lt
        have cc := QVar.c kc
        have lc := kc.lt
        have cl := QVar.c kl
        have ll := kl.lt
        have cm := QVar.c km
        have lm := km.lt
        go_wp2
        go_ret
        exact ⟨rfl, hb0⟩
      ·have ca := QVar.c ka
       have la := ka.lt
       have cb := QVar.c kb
       have lb := kb.lt
       have cc := QVar.c kc
       have lc := kc.lt
       have cl := QVar.c kl
       have ll := kl.lt
       have cm := QVar.c km
       have lm := km.lt
       go_wp2
       go_ret
       exact ⟨rfl, hb0⟩
     ·have ca := QVar.c ka
      have la := ka.lt
      have cb := QVar.c kb
      have lb := kb.lt
      have cc := QVar.c kc
      have lc := kc.lt
      have cl := QVar.c kl
      have ll := kl.lt
      have cm := QVar.c km
      have lm := km.lt
      have fl0 := kl.free 0
      have fl1 := kl.free 1
      have fm0 := km.free 0
      have fm1 := km.free 1
      obtain ⟨n1, n2, n3, n4, n5, n6, n7, _, _, _⟩ := HNE.out
      go_wp2_with fail
      refine calls_w ?_
      intro V2 hV2
      clear ca la cb lb cc lc cl ll cm lm
      have hb2 : Below u4.heap.size u5 V2 := by rw [hV2]; exact set2_below (set2_below (Below.refl _ _) (Nat.le_refl _) _ _) (by omega) _ _
      replace ka : QVar V2 _ _ _ := ka.below hb2 HNE.out.2.2.2.2.2.2.2.1
      replace kb : QVar V2 _ _ _ := kb.below hb2 HNE.out.2.2.2.2.2.2.2.2.1
      replace kc : QVar V2 _ _ _ := kc.below hb2 HNE.out.2.2.2.2.2.2.2.2.2
      replace km : QVar V2 (u4.heap.size + 1) ax ay := by rw [hV2]; exact (km.sett (Ne.symm n7) _ _).put2 _ _
      replace kl : QVar V2 u4.heap.size bx b_y := by rw [hV2]; exact (kl.put2 _ _).sett n7 _ _
      replace hb0 := hb0.trans (hb2.mono hge)
      clear hb2 hV2 n1 n2 n3 n4 n5 n6 n7 fl0 fl1 fm0 fm1
      refine (rAhead_is cx cy bx b_y p HP.out _).mono ?_
      rintro e u6 ⟨rfl, hn⟩
      replace ka : QVar u6 _ _ _ := ka.of hn
      replace kb : QVar u6 _ _ _ := kb.of hn
      replace kc : QVar u6 _ _ _ := kc.of hn
      replace kl : QVar u6 _ _ _ := kl.of hn
      replace km : QVar u6 _ _ _ := km.of hn
      replace hb0 := hb0.trans (hn.mono hb0.size)
      clear hn 
      cases p
      ·have ca := QVar.c ka
       have la := ka.lt
       have cb := QVar.c kb
       have lb := kb.lt
       have cc := QVar.c kc
       have lc := kc.lt
       have cl := QVar.c kl
       have ll := kl.lt
       have cm := QVar.c km
       have lm := km.lt
       go_wp2_with fail
       clear ca la cb lb cc lc cl ll cm lm
       refine (rAhead_is ax ay cx cy q HQ.out _).mono ?_
       rintro e u7 ⟨rfl, hn⟩
       replace ka : QVar u7 _ _ _ := ka.of hn
       replace kb : QVar u7 _ _ _ := kb.of hn
       replace kc : QVar u7 _ _ _ := kc.of hn
       replace kl : QVar u7 _ _ _ := kl.of hn
       replace km : QVar u7 _ _ _ := km.of hn
       replace hb0 := hb0.trans (hn.mono hb0.size)
       clear hn 
       cases q
       ·have ca := QVar.c ka
        have la := ka.lt
        have cb := QVar.c kb
        have lb := kb.lt
        have cc := QVar.c kc
        have lc := kc.lt
        have cl := QVar.c kl
        have ll := kl.lt
        have cm := QVar.c km
        have lm := km.lt
        go_wp2
        go_ret
        exact ⟨rfl, hb0⟩
       ·have ca := QVar.c ka
        have la := ka.lt
        have cb := QVar.c kb
        have lb := kb.lt
        have cc := QVar.c kc
        have lc := kc.lt
        have cl := QVar.c kl
        have ll := kl.lt
        have cm := QVar.c km
        have lm := km.lt
        go_wp2
        go_ret
        exact ⟨rfl, hb0⟩
      ·have ca := QVar.c ka
       have la := ka.lt
       have cb := QVar.c kb
       have lb := kb.lt
       have cc := QVar.c kc
       have lc := kc.lt
       have cl := QVar.c kl
       have ll := kl.lt
       have cm := QVar.c km
       have lm := km.lt
       go_wp2
       go_ret
       exact ⟨rfl, hb0⟩
end Go.Proofs.Ytdlpfiiakmhnlaa

namespace Go.Proofs.Ytdlpfiiakmhnlaa
open Go.RowKit

section
variable {P : Program}
/-- a copy of elements of k cells into a row -/
theorem run_copy_rowk (w : World) (dT sT ty elem : TypeId) (g o dLen dCap : Nat) (a : Addr) (sLen sCap k : Nat) (cur : Array Value) (t : TypeId) (cs : List Value)
    (hu : P.underlying dT = some (.slice elem)) (hs : (P.info? elem).map (·.size) = some k)
    (hg : w.heap[g]? = some (.cells cur t (0, 0))) (hn : cs.length = Nat.min sLen dLen * k)
    (hsrc : ∀ j v, cs[j]? = some v → w.cell? (a.add j) = some v) (hfit : o + cs.length ≤ cur.size) (h1 : ∀ v ∈ cs, v.oneCell' = true) :
    (Builtin.copy_ #[dT, sT] ty #[.slice (some ⟨g, o, none⟩) dLen dCap, .slice (some a) sLen sCap]).run P w =
      .ok (goInt (Nat.min sLen dLen)) (w.setRow g (cur.toList.take o ++ cs ++ cur.toList.drop (o + cs.length)).toArray) := by
  have hl := run_loadCells_list (P := P) w a cs hsrc
  have hst := run_storeCells_at P g o t cs 0 cur w hg (by simpa using hfit) h1
  cases hq : P.info? elem with
  | none => simp [hq] at hs
  | some i =>
    have hi : i.size = k := by simpa [hq] using hs
    simp [Builtin.copy_, run_underlying hu, Builtin.lenOf, Builtin.firstCells, sizeOf, typeInfo, hq, hi, ← hn, hl, hst]
/-- a clear of a part of a row -/
theorem run_clear_rowk (w : World) (t e ty : TypeId) (i : TypeInfo) (z : Value) (ht : P.underlying t = some (.slice e)) (hi : P.info? e = some i) (hz : i.zero = some z) (g o n c : Nat) (cur : Array Value) (t' : TypeId)
    (hg : w.heap[g]? = some (.cells cur t' (0, 0))) (hn : 0 < n) (hfit : o + n * z.cells.size ≤ cur.size) (h1 : ∀ v ∈ z.cells.toList, v.oneCell' = true) :
    (Builtin.clear_ #[t] ty #[.slice (some ⟨g, o, none⟩) n c]).run P w = .ok (.tuple #[]) (w.setRow g (cur.toList.take o ++ (Builtin.zeroCells z.cells n).toList ++ cur.toList.drop (o + n * z.cells.size)).toArray) := by
  have hsz : (Builtin.zeroCells z.cells n).toList.length = n * z.cells.size := by rw [Array.length_toList]; exact size_zeroCells z.cells n
  have hst := run_storeCells_at P g o t' (Builtin.zeroCells z.cells n).toList 0 cur w hg (by rw [hsz]; simpa using hfit) (by
    intro v hv
    simp [Builtin.zeroCells] at hv
    obtain ⟨k, hk, hv⟩ := hv
    subst hv
    have hs0 : 0 < z.cells.size := by
      rcases Nat.eq_zero_or_pos z.cells.size with h0 | h0
      · rw [h0] at hk; omega
      · exact h0
    have hm : k % z.cells.size < z.cells.size := Nat.mod_lt _ hs0
    refine h1 _ ?_
    rw [getElem!_pos z.cells _ hm]; simp)
  rw [hsz] at hst
  obtain ⟨m, rfl⟩ : ∃ m, n = m + 1 := ⟨n - 1, by omega⟩
  simp [Builtin.clear_, run_underlying ht, zeroValue, typeInfo, hi, hz, hst]
theorem step_copy_rowk {ops : Array Oper} {o : Oper} {a : Act} {w : World} {K : Act → World → Prop} {Q : Exit → Act → World → Prop} {E : Prop} (hgd : o.guard = none) (d s : Operand) (dT sT : TypeId)
    (ho : o.op = .call { callee := .builtin .copy, args := #[d, s], argTypes := #[dT, sT] }) (v u : Value) (hd : a.eval d = v) (hs : a.eval s = u) {v' : Value} {w' : World} (hr : (Builtin.copy_ #[dT, sT] o.type #[v, u]).run P w = .ok v' w') (hK : K (a.put o.dst v') w') :
    if Region.wanted o (yielded ops a.tmps) = true then Oper.wp P o a w K Q else E := by
  have hw : Region.wanted o (yielded ops a.tmps) = true := by simp [Region.wanted, hgd]
  rw [if_pos hw]
  unfold Oper.wp
  simp [execOp, ho, resolve, invoke, builtin, hd, hs, hr, Result.andThen]
  exact hK
theorem wpList_copy_rowk {w : World} {ops : Array Oper} {rest : List Oper} {o : Oper} {a : Act} {Q : Exit → Act → World → Prop} (hgd : o.guard = none) (d s : Operand) (dT sT : TypeId)
    (ho : o.op = .call { callee := .builtin .copy, args := #[d, s], argTypes := #[dT, sT] }) (v u : Value) (hd : a.eval d = v) (hs : a.eval s = u) {v' : Value} {w' : World} (hr : (Builtin.copy_ #[dT, sT] o.type #[v, u]).run P w = .ok v' w') (h : wpList P ops Q rest (a.put o.dst v') w') : wpList P ops Q (o :: rest) a w := by
  refine wpList_plain hgd fun K hK => ?_
  unfold Oper.wp
  simp [execOp, ho, resolve, invoke, builtin, hd, hs, hr, Result.andThen]
  exact hK _ _ h
theorem wpList_clear_run {w : World} {ops : Array Oper} {rest : List Oper} {o : Oper} {a : Act} {Q : Exit → Act → World → Prop} (hgd : o.guard = none) (d : Operand) (dT : TypeId)
    (ho : o.op = .call { callee := .builtin .clear, args := #[d], argTypes := #[dT] }) (v : Value) (hd : a.eval d = v) {v' : Value} {w' : World} (hr : (Builtin.clear_ #[dT] o.type #[v]).run P w = .ok v' w') (h : wpList P ops Q rest (a.put o.dst v') w') : wpList P ops Q (o :: rest) a w := by
  refine wpList_plain hgd fun K hK => ?_
  unfold Oper.wp
  simp [execOp, ho, resolve, invoke, builtin, hd, hr, Result.andThen]
  exact hK _ _ h
theorem wpList_append_run {w : World} {ops : Array Oper} {rest : List Oper} {o : Oper} {a : Act} {Q : Exit → Act → World → Prop} (hgd : o.guard = none) (s x : Operand) (t t' : TypeId)
    (ho : o.op = .call { callee := .builtin .append, args := #[s, x], argTypes := #[t, t'] }) (v u : Value) (hs : a.eval s = v) (hx : a.eval x = u) {v' : Value} {w' : World} (hr : (Builtin.append_ #[t, t'] o.type #[v, u]).run P w = .ok v' w') (h : wpList P ops Q rest (a.put o.dst v') w') : wpList P ops Q (o :: rest) a w := by
  refine wpList_plain hgd fun K hK => ?_
  unfold Oper.wp
  simp [execOp, ho, resolve, invoke, builtin, hs, hx, hr, Result.andThen]
  exact hK _ _ h
end
theorem add_pl (g o n : Nat) : (⟨g, o, none⟩ : Addr).add n = ⟨g, o + n, none⟩ := by
  unfold Addr.add; split
  · rename_i h; rw [h, Nat.add_zero]
  · rfl
/-- the cells of a list of halves -/
def hC : List (Nat × Nat) → List Value
  | [] => []
  | h :: l => .int .i64 h.1 :: .int .i64 h.2 :: hC l
theorem hC_len : ∀ l, (hC l).length = l.length * 2
  | [] => rfl
  | h :: l => by show (hC l).length + 1 + 1 = (l.length + 1) * 2; rw [hC_len l]; omega
theorem hC_app : ∀ l m, hC (l ++ m) = hC l ++ hC m
  | [], _ => rfl
  | h :: l, m => by show _ :: _ :: hC (l ++ m) = _; rw [hC_app l m]; rfl
theorem hC_take : ∀ l i, (hC l).take (i * 2) = hC (l.take i)
  | [], i => by cases i <;> rfl
  | h :: l, 0 => rfl
  | h :: l, i + 1 => by
    rw [show (i + 1) * 2 = i * 2 + 1 + 1 by omega]
    show _ :: _ :: (hC l).take (i * 2) = _ :: _ :: hC (l.take i)
    rw [hC_take l i]
theorem hC_drop : ∀ l i, (hC l).drop (i * 2) = hC (l.drop i)
  | [], i => by cases i <;> rfl
  | h :: l, 0 => rfl
  | h :: l, i + 1 => by
    rw [show (i + 1) * 2 = i * 2 + 1 + 1 by omega]
    show (hC l).drop (i * 2) = hC (l.drop i)
    exact hC_drop l i
theorem hC_one : ∀ l, ∀ u ∈ hC l, u.oneCell' = true
  | [], u, h => by cases h
  | x :: l, u, h => by
    rcases List.mem_cons.1 h with rfl | h
    · rfl
    · rcases List.mem_cons.1 h with rfl | h
      · rfl
      · exact hC_one l u h
theorem hC_at : ∀ l j x, l[j]? = some x → (hC l)[j * 2]? = some (.int .i64 (x.1 : Nat)) ∧ (hC l)[j * 2 + 1]? = some (.int .i64 (x.2 : Nat))
  | [], j, x, h => by simp at h
  | y :: l, 0, x, h => by simp at h; subst h; exact ⟨rfl, rfl⟩
  | y :: l, j + 1, x, h => by
    rw [show (j + 1) * 2 = j * 2 + 1 + 1 by omega]
    exact hC_at l j x (by simpa using h)
end Go.Proofs.Ytdlpfiiakmhnlaa

namespace Go.Proofs.Ytdlpfiiakmhnlaa
open Go.RowKit

section
variable {P : Program} (w : World)
theorem append_lies {base : Nat} {t ty e : TypeId} {i : TypeInfo} {z : Value} {size bytes : Nat} (ht : P.underlying t = some (.slice e)) (hi : P.info? e = some i) (hz : i.zero = some z)
    (hsize : i.size = size) (hby : i.bytes = bytes) (hzs : z.cells.size = size) (hsz : 0 < size)
    {v : Value} {n : Nat} {xs : List Value} (hown : w.ownsRow base e size v n xs)
    {a : Addr} {m c : Nat} {news : List Value} (hl : news.length = m * size) (hnews : ∀ j u, news[j]? = some u → w.cell? (a.add j) = some u) (h1 : ∀ u ∈ news, u.oneCell' = true)
    (h63 : n + m ≤ maxLen) (hbytes : (n + m) * bytes ≤ 140737488355328) {v' : Value} {w' : World} (hr : (Builtin.append_ #[t, t] ty #[v, .slice (some a) m c]).run P w = .ok v' w') :
    ∀ g', v'.ownBlock = some g' → v.ownBlock = some g' ∨ w.heap.size ≤ g' := by
  intro g' hg'
  have h63' := h63
  unfold maxLen at h63'
  rcases hown.2 with ⟨rfl, rfl⟩ | ⟨g, cap, cur, rfl, hbg, hg, hnc, hcm, hcs, htake⟩
  · have hx : xs = [] := List.eq_nil_of_length_eq_zero (by simpa using hown.1)
    subst hx
    obtain ⟨v2, w2, hr2, h2, _⟩ := run_append_own (P := P) w w.heap.size t ty e i z size bytes ht hi hz hsize hby hzs hsz _ 0 [] (World.ownsRow_nil w _ e size) a m c news hl hnews h1 h63 hbytes (Nat.le_refl _)
    rw [hr] at hr2
    cases hr2
    right
    rcases h2.2 with ⟨rfl, _⟩ | ⟨g2, cap2, cur2, rfl, hb2, _⟩
    · cases hg'
    · cases hg'; exact hb2
  · by_cases hroom : n + m ≤ cap
    · obtain ⟨w2, hr2, _⟩ := run_append_own_spare (P := P) w base t ty e i size ht hi hsize g n cap xs hown a m c news hl hnews h1 hroom
      rw [hr] at hr2
      cases hr2
      exact .inl hg'
    · subst hsize; subst hby
      have holds : ∀ j u, xs[j]? = some u → w.cell? ((⟨g, 0, none⟩ : Addr).add j) = some u := hown.cells (g := g) rfl
      have hr2 := run_append_grow (P := P) w t ty e i z ht hi hz ⟨g, 0, none⟩ n cap xs hown.1 holds a m c news hl hnews (by omega) (by omega) (growslice_fits (by omega) hbytes)
      rw [hr] at hr2
      cases hr2
      cases hg'
      exact .inr (Nat.le_refl _)
theorem wpList_append_lies {ops : Array Oper} {rest : List Oper} {o : Oper} {a : Act} {Q : Exit → Act → World → Prop} (hgd : o.guard = none) (s x : Operand) (t : TypeId)
    (ho : o.op = .call { callee := .builtin .append, args := #[s, x], argTypes := #[t, t] })
    (base : Nat) (e : TypeId) (i : TypeInfo) (z : Value) (size bytes : Nat) (ht : P.underlying t = some (.slice e)) (hi : P.info? e = some i) (hz : i.zero = some z)
    (hsize : i.size = size) (hby : i.bytes = bytes) (hzs : z.cells.size = size) (hsz : 0 < size)
    (v : Value) (n : Nat) (xs : List Value) (hs : a.eval s = v) (hown : w.ownsRow base e size v n xs)
    (ad : Addr) (m c : Nat) (news : List Value) (hx : a.eval x = .slice (some ad) m c) (hl : news.length = m * size) (hnews : ∀ j u, news[j]? = some u → w.cell? (ad.add j) = some u) (h1 : ∀ u ∈ news, u.oneCell' = true)
    (h63 : n + m ≤ maxLen) (hbytes : (n + m) * bytes ≤ 140737488355328) (hbase : base ≤ w.heap.size)
    (h : ∀ v' w', w'.ownsRow base e size v' (n + m) (xs ++ news) → w.grownBy w' v.ownBlock → (∀ g', v'.ownBlock = some g' → v.ownBlock = some g' ∨ w.heap.size ≤ g') → wpList P ops Q rest (a.put o.dst v') w') : wpList P ops Q (o :: rest) a w := by
  refine wpList_plain hgd fun K hK => ?_
  obtain ⟨v', w', hr, h2, h3, _⟩ := run_append_own (P := P) w base t o.type e i z size bytes ht hi hz hsize hby hzs hsz v n xs hown ad m c news hl hnews h1 h63 hbytes hbase
  have h4 := append_lies w ht hi hz hsize hby hzs hsz hown hl hnews h1 h63 hbytes hr
  unfold Oper.wp execOp
  simp only [ho, resolve, invoke, builtin, Sem.run_bind, Sem.run_pure, Result.andThen_ok, List.map_toArray, List.map_cons, List.map_nil, hs, hx, hr]
  exact hK _ _ (h v' w' h2 h3 h4)
end

theorem info_half : (Try.prog.info? 102).map (fun i => (i.zero, i.size, i.bytes)) = some (some (.agg #[.int .i64 0, .int .i64 0]), 2, 16) := by kernel_rfl
/-- a list of halves in own memory -/
def HRow (w : World) (base : Nat) (v : Value) (L : List (Nat × Nat)) : Prop := w.ownsRow base 102 2 v L.length (hC L)
theorem HRow.of {w w' : World} {base : Nat} {v : Value} {L : List (Nat × Nat)} (h : HRow w base v L) (hb : Below w.heap.size w w') : HRow w' base v L := by
  refine ⟨h.1, h.2.imp id ?_⟩
  rintro ⟨g, cap, cur, rfl, hbg, hg, r⟩
  exact ⟨g, cap, cur, rfl, hbg, (hb.block _ (Array.getElem?_eq_some_iff.1 hg).1).trans hg, r⟩
theorem HRow.grown {w w' : World} {base : Nat} {v : Value} {L : List (Nat × Nat)} {row : Option Nat} (h : HRow w base v L) (hg : w.grownBy w' row) (hne : ∀ g, v.ownBlock = some g → row ≠ some g) : HRow w' base v L := by
  refine ⟨h.1, h.2.imp id ?_⟩
  rintro ⟨g, cap, cur, rfl, hbg, hh, r⟩
  exact ⟨g, cap, cur, rfl, hbg, (hg.block _ (Array.getElem?_eq_some_iff.1 hh).1 (fun e => hne g rfl e.symm)).trans hh, r⟩
theorem take_put {l cs : List Value} {o : Nat} (h : o + cs.length ≤ l.length) : (l.take o ++ cs ++ l.drop (o + cs.length)).take (o + cs.length) = l.take o ++ cs := by
  rw [List.take_append_of_le_length (by simp; omega)]
  rw [List.take_of_length_le (by simp; omega)]
theorem cell_row {w : World} {g : Nat} {cur : Array Value} {t : TypeId} (hg : w.heap[g]? = some (.cells cur t (0, 0))) (o : Nat) : w.cell? ⟨g, o, none⟩ = cur[o]? := by
  unfold World.cell?; simp [hg]
theorem HRow.n {w : World} {base n : Nat} {v : Value} {L : List (Nat × Nat)} (h : Hid (HRow w base v L)) (hn : Hid (L.length = n)) : w.ownsRow base 102 2 v n (hC L) := hn.out ▸ h.out
theorem half_src {w : World} {vb b c : Nat} (h : Hid (Blk w vb #[.int .i64 b, .int .i64 c] 102)) (j : Nat) (u : Value) (hj : [Value.int .i64 (b : Int), Value.int .i64 (c : Int)][j]? = some u) : w.cell? ((⟨vb, 0, none⟩ : Addr).add j) = some u := by
  rw [add_pl, Nat.zero_add, h.out.cell j, ← hj, ← Array.getElem?_toList]
theorem half_one (b c : Int) : ∀ u ∈ [Value.int .i64 b, Value.int .i64 c], u.oneCell' = true := by
  intro u hu; simp at hu; rcases hu with rfl | rfl <;> rfl
set_option maxRecDepth 100000 in
set_option maxHeartbeats 1000000 in
theorem Insert_end (base : Nat) (v : Value) (L : List (Nat × Nat)) (b c : Nat) (vb : Nat) (w : World) (hown : HRow w base v L) (hvb : Blk w vb #[.int .i64 b, .int .i64 c] 102) (hL : L.length < 100000) (hbase : base ≤ w.heap.size) :
    Calls Try.prog 91 #[v, .int .i64 (L.length : Nat), .slice (some ⟨vb, 0, none⟩) 1 1] w fun e w' => ∃ v', e = .returned v' ∧ HRow w' base v' (L ++ [(b, c)]) ∧ w.grownBy w' v.ownBlock ∧ (∀ g, v'.ownBlock = some g → v.ownBlock = some g ∨ w.heap.size ≤ g) := by
  obtain ⟨i0, hi, hz0, hz1, hz2⟩ := info_parts info_half
  have hv : ∃ ao cap, v = .slice ao L.length cap ∧ L.length ≤ cap ∧ cap ≤ 9223372036854775807 := by
    rcases hown.2 with ⟨rfl, hn⟩ | ⟨g, cap, cur, rfl, _, _, h1, h2, _⟩
    · exact ⟨none, 0, by rw [hn], by omega, by omega⟩
    · exact ⟨_, cap, rfl, h1, by unfold maxLen at h2; omega⟩
  obtain ⟨ao, cap, rfl, hc1, hc2⟩ := hv
  have HO := Lib.hid hown
  obtain ⟨n, hn⟩ : ∃ n, L.length = n := ⟨_, rfl⟩
  rw [hn] at hc1 hL HO ⊢
  have HN := Lib.hid hn
  clear hown hn
  have HB := Lib.hid hvb
  clear hvb
  go_enter Try.func91, Try.ntmps91
  go_wp2_with (at_builtin; refine wpList_append_lies w rfl _ _ 103 rfl base 102 i0 (Value.agg #[.int .i64 0, .int .i64 0]) 2 16 Try.underlying103 hi hz0 hz1 hz2 rfl (by decide) _ n (hC L) rfl (HRow.n HO HN) ⟨vb, 0, none⟩ 1 1 [.int .i64 b, .int .i64 c] rfl rfl (half_src HB) (half_one _ _) (by unfold maxLen; omega) (by omega) hbase ?_)
  all_goals
    intro v' w' own gr lies
    have HW := Lib.hid own
    clear own
    go_wp2
    go_ret
    refine ⟨_, rfl, ?_, (by first | exact gr | (cases ao <;> exact gr)), (by first | exact lies | (cases ao <;> exact lies))⟩
    unfold HRow
    rw [List.length_append, HN.out, hC_app]
    exact HW.out
end Go.Proofs.Ytdlpfiiakmhnlaa

namespace Go.Proofs.Ytdlpfiiakmhnlaa
open Go.RowKit

theorem half_sz : (Try.prog.info? 102).map (·.size) = some 2 := by
  obtain ⟨i0, hi, hz0, hz1, hz2⟩ := info_parts info_half
  rw [hi]; simp [hz1]
theorem half_sizeOf (w : World) : (Go.sizeOf 102).run Try.prog w = .ok 2 w := by
  obtain ⟨i0, hi, hz0, hz1, hz2⟩ := info_parts info_half
  simp [sizeOf, typeInfo, hi, hz1]
theorem shape_row {w : World} {g : Nat} {cur : Array Value} {t : TypeId} (hg : w.heap[g]? = some (.cells cur t (0, 0))) : w.shape? g = some (t, cur.size) := by
  unfold World.shape?; simp [hg]
theorem frozen_row {w : World} {g : Nat} {cur : Array Value} {t : TypeId} (hg : w.heap[g]? = some (.cells cur t (0, 0))) (o : Nat) : w.frozen? ⟨g, o, none⟩ = false := by
  unfold World.frozen?; simp [hg]
/-- cells laid over a list -/
def lay (l : List Value) (o : Nat) (cs : List Value) : List Value := l.take o ++ cs ++ l.drop (o + cs.length)
theorem lay_len {l cs : List Value} {o : Nat} (h : o + cs.length ≤ l.length) : (lay l o cs).length = l.length := by unfold lay; simp; omega
theorem lay_take {l cs : List Value} {o k : Nat} (h : o + cs.length ≤ l.length) (hk : k ≤ o) : (lay l o cs).take k = l.take k := by
  unfold lay
  rw [List.append_assoc, List.take_append_of_le_length (by simp; omega), List.take_take]
  congr 1; omega
theorem lay_mid {l cs : List Value} {o : Nat} (h : o + cs.length ≤ l.length) : (lay l o cs).take (o + cs.length) = l.take o ++ cs := take_put h
theorem lay_drop {l cs : List Value} {o k : Nat} (h : o + cs.length ≤ l.length) (hk : o + cs.length ≤ k) : (lay l o cs).drop k = l.drop k := by
  unfold lay
  rw [List.drop_append]
  rw [List.drop_of_length_le (by simp; omega)]
  rw [List.nil_append, List.drop_drop]
  congr 1; simp; omega
theorem take_split {l : List Value} (a b : Nat) : l.take (a + b) = l.take a ++ (l.drop a).take b := List.take_add
set_option maxRecDepth 100000 in
set_option maxHeartbeats 2000000 in
theorem Insert_shift (base g cap : Nat) (cur : Array Value) (L : List (Nat × Nat)) (i b c : Nat) (vb : Nat) (w : World) (hbg : base ≤ g) (hg : w.heap[g]? = some (.cells cur 102 (0, 0))) (hcs : cur.size = cap * 2) (htk : cur.toList.take (L.length * 2) = hC L)
    (hvb : Blk w vb #[.int .i64 b, .int .i64 c] 102) (hne : vb ≠ g) (hi : i < L.length) (hroom : L.length + 1 ≤ cap) (hcap : cap ≤ maxLen) :
    Calls Try.prog 91 #[.slice (some ⟨g, 0, none⟩) L.length cap, .int .i64 (i : Nat), .slice (some ⟨vb, 0, none⟩) 1 1] w fun e w' => ∃ v', e = .returned v' ∧ HRow w' base v' (L.take i ++ (b, c) :: L.drop i) ∧ w.grownBy w' (some g) ∧ (∀ g', v'.ownBlock = some g' → some g = some g' ∨ w.heap.size ≤ g') := by
 obtain ⟨n, hn⟩ : ∃ n, L.length = n := ⟨_, rfl⟩
 have hc63 : cap ≤ 9223372036854775807 := by unfold maxLen at hcap; omega
 have hovf : ∀ lb cb, (callFunc 100 #[.slice (some ⟨vb, 0, none⟩) 1 1, .slice (some ⟨g, (i + 1) * 2, none⟩) lb cb]).run Try.prog w = .ok (.value (.bool false)) w := fun lb cb => by
  rw [run_callFunc_extern Try.func100 (by kernel_rfl) (by kernel_rfl) (by kernel_rfl) (e := Extern.SlicesOverlaps.overlaps #[103, 103] #[4]) (by kernel_rfl),
   Lib.run_overlaps_apart w 103 4 102 Try.underlying103 2 half_sizeOf ⟨vb, 0, none⟩ ⟨g, (i + 1) * 2, none⟩ 1 1 lb cb hne _ _ _ _ (shape_row hvb) (shape_row hg) (by rw [hcs]; omega) (frozen_row hvb 0) (frozen_row hvb _)]
  rfl
 have hdl : (hC (L.drop i)).length = (n - i) * 2 := by rw [hC_len, List.length_drop, hn]
 have hcl : cur.toList.length = cap * 2 := by rw [Array.length_toList, hcs]
 have hsrc : ∀ j u, (hC (L.drop i))[j]? = some u → w.cell? ((⟨g, i * 2, none⟩ : Addr).add j) = some u := fun j u hj => by
  have hjl : j < (n - i) * 2 := by rw [← hdl]; exact (List.getElem?_eq_some_iff.1 hj).1
  rw [add_pl, cell_row hg, ← hC_drop, List.getElem?_drop, ← htk, List.getElem?_take_of_lt (by omega)] at *
  rw [← Array.getElem?_toList]; exact hj
 rw [hn] at hi hroom ⊢
 have hcp1 : ∀ ty dc sc, (Builtin.copy_ #[103, 103] ty #[.slice (some ⟨g, (i + 1) * 2, none⟩) (n - i) dc, .slice (some ⟨g, i * 2, none⟩) (n + 1 - i) sc]).run Try.prog w.drew = .ok (goInt (Nat.min (n + 1 - i) (n - i))) (w.drew.setRow g (lay cur.toList ((i + 1) * 2) (hC (L.drop i))).toArray) := fun ty dc sc =>
  run_copy_rowk w.drew _ _ ty 102 g ((i + 1) * 2) (n - i) dc ⟨g, i * 2, none⟩ (n + 1 - i) sc 2 cur 102 (hC (L.drop i)) Try.underlying103 half_sz hg (by rw [hdl]; simp only [Nat.min_def]; split <;> omega) hsrc (by rw [hdl, hcs]; omega) (hC_one _)
 obtain ⟨W1, hW1⟩ : ∃ W1, W1 = w.drew.setRow g (lay cur.toList ((i + 1) * 2) (hC (L.drop i))).toArray := ⟨_, rfl⟩
 have hg1 : W1.heap[g]? = some (.cells (lay cur.toList ((i + 1) * 2) (hC (L.drop i))).toArray 102 (0, 0)) := by rw [hW1]; exact setRow_heap w.drew g cur _ _ _ hg
 have hvb1 : Blk W1 vb #[.int .i64 b, .int .i64 c] 102 := by rw [hW1]; exact (setRow_other w.drew g vb _ hne).trans hvb
 have hl1 : (lay cur.toList ((i + 1) * 2) (hC (L.drop i))).length = cap * 2 := by rw [lay_len (by rw [hdl, hcl]; omega), hcl]
 have hcp2 : ∀ ty dc, (Builtin.copy_ #[103, 103] ty #[.slice (some ⟨g, i * 2, none⟩) (n + 1 - i) dc, .slice (some ⟨vb, 0, none⟩) 1 1]).run Try.prog W1 = .ok (goInt (Nat.min 1 (n + 1 - i))) (W1.setRow g (lay (lay cur.toList ((i + 1) * 2) (hC (L.drop i))) (i * 2) [.int .i64 b, .int .i64 c]).toArray) := fun ty dc =>
  run_copy_rowk W1 _ _ ty 102 g (i * 2) (n + 1 - i) dc ⟨vb, 0, none⟩ 1 1 2 _ 102 [.int .i64 b, .int .i64 c] Try.underlying103 half_sz hg1 (by show 2 = _; simp only [Nat.min_def]; split <;> omega) (half_src (Lib.hid hvb1)) (by rw [List.size_toArray]; show i * 2 + 2 ≤ (lay cur.toList ((i + 1) * 2) (hC (L.drop i))).length; rw [hl1]; omega) (half_one _ _)
 have hq : W1.setRow g (lay (lay cur.toList ((i + 1) * 2) (hC (L.drop i))) (i * 2) [.int .i64 b, .int .i64 c]).toArray = W1.setRow g (lay (lay cur.toList ((i + 1) * 2) (hC (L.drop i))) (i * 2) [.int .i64 b, .int .i64 c]).toArray := rfl
 obtain ⟨W2, hW2⟩ : ∃ W2, W2 = W1.setRow g (lay (lay cur.toList ((i + 1) * 2) (hC (L.drop i))) (i * 2) [.int .i64 b, .int .i64 c]).toArray := ⟨_, rfl⟩
 clear hq
 have hpost : HRow W2 base (.slice (some ⟨g, 0, none⟩) (n + 1) cap) (L.take i ++ (b, c) :: L.drop i) := by
  have hll : (L.take i ++ (b, c) :: L.drop i).length = n + 1 := by simp; omega
  have hsz : (lay (lay cur.toList ((i + 1) * 2) (hC (L.drop i))) (i * 2) [.int .i64 b, .int .i64 c]).length = cap * 2 := by rw [lay_len (by rw [hl1]; show i * 2 + 2 ≤ _; omega), hl1]
  unfold HRow
  rw [hll]
  refine ⟨by rw [hC_len, hll], .inr ⟨g, cap, (lay (lay cur.toList ((i + 1) * 2) (hC (L.drop i))) (i * 2) [.int .i64 b, .int .i64 c]).toArray, rfl, hbg, ?_, hroom, hcap, ?_, ?_⟩⟩
  ·rw [hW2]; exact setRow_heap W1 g _ _ _ _ hg1
  ·rw [List.size_toArray, hsz]
  ·show List.take ((n + 1) * 2) (lay (lay cur.toList ((i + 1) * 2) (hC (L.drop i))) (i * 2) [.int .i64 (b : Int), .int .i64 (c : Int)]) = _
   have e1 : (n + 1) * 2 = (i * 2 + 2) + (n - i) * 2 := by omega
   rw [e1, take_split, show i * 2 + 2 = i * 2 + [Value.int .i64 (b : Int), Value.int .i64 (c : Int)].length from rfl, lay_mid (by rw [hl1]; show i * 2 + 2 ≤ _; omega), lay_drop (by rw [hl1]; show i * 2 + 2 ≤ _; omega) (Nat.le_refl _)]
   rw [lay_take (by rw [hdl, hcl]; omega) (by omega)]
   have e2 : cur.toList.take (i * 2) = hC (L.take i) := by
    rw [← hC_take, ← htk, List.take_take]; congr 1; omega
   have e3 : ((lay cur.toList ((i + 1) * 2) (hC (L.drop i))).drop (i * 2 + [Value.int .i64 (b : Int), Value.int .i64 (c : Int)].length)).take ((n - i) * 2) = hC (L.drop i) := by
    have := lay_mid (l := cur.toList) (cs := hC (L.drop i)) (o := (i + 1) * 2) (by rw [hdl, hcl]; omega)
    rw [take_split, hdl] at this
    have h4 := lay_take (l := cur.toList) (cs := hC (L.drop i)) (o := (i + 1) * 2) (k := (i + 1) * 2) (by rw [hdl, hcl]; omega) (Nat.le_refl _)
    rw [h4] at this
    have h5 := List.append_cancel_left this
    rw [show i * 2 + [Value.int .i64 (b : Int), Value.int .i64 (c : Int)].length = (i + 1) * 2 by show i * 2 + 2 = _; omega]
    exact h5
   rw [e2, e3, hC_app]
   show _ = hC (L.take i) ++ (_ :: _ :: hC (L.drop i))
   simp
 have hgr : w.grownBy W2 (some g) := by
  refine ⟨by rw [hW2, hW1]; rfl, by rw [hW2, hW1]; rfl, by rw [hW2, hW1]; rfl, by rw [hW2, hW1]; simp, fun k hk hne' => ?_⟩
  have hkg : k ≠ g := fun e => hne' (by rw [e])
  rw [hW2, setRow_other W1 g k _ hkg, hW1, setRow_other w.drew g k _ hkg]; rfl
 have HP := Lib.hid hpost
 have HG := Lib.hid hgr
 rw [← hW1] at hcp1
 rw [← hW2] at hcp2
 have hz2 : ¬ ((i : Int) = (n : Int)) := by omega
 have hw1 : IntKind.i64.wrap ((i : Int) + 1) = (i : Int) + 1 := by rw [IntKind.wrap_i64]; omega
 have hin : i ≤ n := by omega
 have hb2 : ¬ (cap = i + 1) := by omega
 have hb4 : ¬ (cap = i) := by omega
 have hb3 : (i : Int) ≤ (n : Int) + 1 := by omega
 have hb1 : (0 : Int) ≤ (i : Int) + 1 := by omega
 have htn : ((i : Int) + 1).toNat = i + 1 := by omega
 have hb5 : (i : Int) + 1 ≤ (n : Int) + 1 := by omega
 have mixed : Try.prog.follows .mixedOrders = true := by kernel_rfl
 clear hpost hgr hW1 hW2 hg1 hvb1 hl1 hsrc hdl hcl htk hg hcs hvb
 go_enter Try.func91, Try.ntmps91
 go_wp2_with (simp only [hovf])
 go_region_law_o (refine step_copy_rowk rfl _ _ 103 103 rfl _ _ (by simp [Act.eval, Act.put]) (by simp [Act.eval, Act.put]) (hcp1 _ _ _) ?_)
 go_wp2_with (at_builtin; refine wpList_copy_rowk rfl _ _ 103 103 rfl _ _ rfl rfl (hcp2 _ _) ?_)
 go_ret
 exact ⟨_, rfl, HP.out, HG.out, fun g' h => .inl h⟩
end Go.Proofs.Ytdlpfiiakmhnlaa

namespace Go.Proofs.Ytdlpfiiakmhnlaa
open Go.RowKit

set_option maxRecDepth 100000 in
set_option maxHeartbeats 2000000 in
theorem Insert_grow (base g cap : Nat) (cur : Array Value) (L : List (Nat × Nat)) (i b c : Nat) (vb : Nat) (w : World) (hbase : base ≤ w.heap.size) (hg : w.heap[g]? = some (.cells cur 102 (0, 0))) (hcs : cur.size = cap * 2) (htk : cur.toList.take (L.length * 2) = hC L)
    (hvb : Blk w vb #[.int .i64 b, .int .i64 c] 102) (hi : i < L.length) (hfull : cap < L.length + 1) (hnc : L.length ≤ cap) (hL : L.length < 100000) :
    Calls Try.prog 91 #[.slice (some ⟨g, 0, none⟩) L.length cap, .int .i64 (i : Nat), .slice (some ⟨vb, 0, none⟩) 1 1] w fun e w' => ∃ v', e = .returned v' ∧ HRow w' base v' (L.take i ++ (b, c) :: L.drop i) ∧ w.grownBy w' (some g) ∧ (∀ g', v'.ownBlock = some g' → some g = some g' ∨ w.heap.size ≤ g') := by
 obtain ⟨n, hn⟩ : ∃ n, L.length = n := ⟨_, rfl⟩
 obtain rfl : cap = n := by omega
 clear hnc hfull
 rw [hn] at hi hL htk ⊢
 obtain ⟨i0, hi0, hz0, hz1, hz2⟩ := info_parts info_half
 have hgl := (Array.getElem?_eq_some_iff.1 hg).1
 have hvl : vb < w.heap.size := hvb.lt
 have hcl : cur.toList.length = cap * 2 := by rw [Array.length_toList, hcs]
 have hol : (hC (L.take i)).length = i * 2 := by rw [hC_len, List.length_take]; omega
 have holdc : ∀ j u, (hC (L.take i))[j]? = some u → w.drew.cell? ((⟨g, 0, none⟩ : Addr).add j) = some u := fun j u hj => by
  have hjl : j < i * 2 := by rw [← hol]; exact (List.getElem?_eq_some_iff.1 hj).1
  show w.cell? _ = _
  rw [add_pl, Nat.zero_add, cell_row hg, ← Array.getElem?_toList]
  rw [← hC_take, ← htk, List.take_take, List.getElem?_take_of_lt (by omega)] at hj
  exact hj
 obtain ⟨gc, hgc⟩ : ∃ gc, grownCap w (cap + 1) cap 102 = gc := ⟨_, rfl⟩
 have hgc1 : cap + 1 ≤ gc := by rw [← hgc]; exact grownCap_ge _ _ _ _
 have hgc2 : gc ≤ maxLen := by rw [← hgc]; exact grownCap_le_maxLen _ _ _ _ (by unfold maxLen; omega)
 obtain ⟨cu, hcu⟩ : ∃ cu, (hC (L.take i)).toArray ++ Builtin.zeroCells (Value.agg #[.int .i64 0, .int .i64 0]).cells (cap + 1 - i) ++ Builtin.zeroCells (Value.agg #[.int .i64 0, .int .i64 0]).cells (gc - (cap + 1)) = cu := ⟨_, rfl⟩
 have hcus : cu.size = gc * 2 := by
  rw [← hcu, Array.size_append, Array.size_append, size_zeroCells, size_zeroCells, List.size_toArray, hol]
  show i * 2 + (cap + 1 - i) * 2 + (gc - (cap + 1)) * 2 = gc * 2
  omega
 have hcut : cu.toList.take (i * 2) = hC (L.take i) := by
  rw [← hcu, Array.toList_append, Array.toList_append, List.append_assoc, List.take_append_of_le_length (by rw [List.toList_toArray, hol]; exact Nat.le_refl _), List.toList_toArray, List.take_of_length_le (by rw [hol]; exact Nat.le_refl _)]
 obtain ⟨Wa, hWa⟩ : ∃ Wa, Wa = w.drew.alloc (.cells cu 102) := ⟨_, rfl⟩
 have hrun : ∀ ty, (Builtin.append_ #[103, 3] ty #[.slice (some ⟨g, 0, none⟩) i cap, .int .i64 ((cap : Int) + 1 - (i : Int))]).run Try.prog w = .ok (.slice (some ⟨w.heap.size, 0, none⟩) (cap + 1) gc) Wa := fun ty => by
  have h := Lib.run_append_grow_zeros (P := Try.prog) w 103 3 ty 102 i0 (Value.agg #[.int .i64 0, .int .i64 0]) .i64 .i64 Try.underlying103 Try.underlying3 hi0 hz0 (some ⟨g, 0, none⟩) i cap (hC (L.take i)) (by rw [hz1]; exact run_firstCells_some w.drew 2 i ⟨g, 0, none⟩ i cap (hC (L.take i)) hol holdc) (cap + 1 - i) (by omega) (by rw [hz1]; omega) (by omega) (by omega) (by rw [hz2]; omega) (by rw [hz2]; exact growslice_fits (by omega) (by omega))
  rw [show i + (cap + 1 - i) = cap + 1 by omega, hgc, hcu, ← hWa, show ((cap + 1 - i : Nat) : Int) = (cap : Int) + 1 - (i : Int) by omega] at h
  exact h
 have hga : Wa.heap[w.heap.size]? = some (.cells cu 102 (0, 0)) := by rw [hWa]; exact heap_alloc_new w.drew _
 have hbk : ∀ k, k < w.heap.size → Wa.heap[k]? = w.heap[k]? := fun k hk => by rw [hWa]; exact Below.heap_alloc w.drew _ k hk
 have hvba : Blk Wa vb #[.int .i64 b, .int .i64 c] 102 := (hbk vb hvl).trans hvb
 have hcl2 : cu.toList.length = gc * 2 := by rw [Array.length_toList, hcus]
 have hcp1 : ∀ ty dc, (Builtin.copy_ #[103, 103] ty #[.slice (some ⟨w.heap.size, i * 2, none⟩) (cap + 1 - i) dc, .slice (some ⟨vb, 0, none⟩) 1 1]).run Try.prog Wa = .ok (goInt (Nat.min 1 (cap + 1 - i))) (Wa.setRow w.heap.size (lay cu.toList (i * 2) [.int .i64 b, .int .i64 c]).toArray) := fun ty dc =>
  run_copy_rowk Wa _ _ ty 102 w.heap.size (i * 2) (cap + 1 - i) dc ⟨vb, 0, none⟩ 1 1 2 cu 102 [.int .i64 b, .int .i64 c] Try.underlying103 half_sz hga (by show 2 = _; simp only [Nat.min_def]; split <;> omega) (half_src (Lib.hid hvba)) (by rw [hcus]; show i * 2 + 2 ≤ _; omega) (half_one _ _)
 obtain ⟨W1, hW1⟩ : ∃ W1, W1 = Wa.setRow w.heap.size (lay cu.toList (i * 2) [.int .i64 b, .int .i64 c]).toArray := ⟨_, rfl⟩
 have hg1 : W1.heap[w.heap.size]? = some (.cells (lay cu.toList (i * 2) [.int .i64 b, .int .i64 c]).toArray 102 (0, 0)) := by rw [hW1]; exact setRow_heap Wa w.heap.size _ _ _ _ hga
 have hbk1 : ∀ k, k < w.heap.size → W1.heap[k]? = w.heap[k]? := fun k hk => by rw [hW1, setRow_other Wa w.heap.size k _ (by omega)]; exact hbk k hk
 have hl1 : (lay cu.toList (i * 2) [Value.int .i64 (b : Int), Value.int .i64 (c : Int)]).length = gc * 2 := by rw [lay_len (by rw [hcl2]; show i * 2 + 2 ≤ _; omega), hcl2]
 have hdl : (hC (L.drop i)).length = (cap - i) * 2 := by rw [hC_len, List.length_drop, hn]
 have hsrc : ∀ j u, (hC (L.drop i))[j]? = some u → W1.drew.cell? ((⟨g, i * 2, none⟩ : Addr).add j) = some u := fun j u hj => by
  have hjl : j < (cap - i) * 2 := by rw [← hdl]; exact (List.getElem?_eq_some_iff.1 hj).1
  show W1.cell? _ = _
  rw [add_pl, cell_row (w := W1) ((hbk1 g hgl).trans hg), ← Array.getElem?_toList]
  rw [← hC_drop, List.getElem?_drop, ← htk, List.getElem?_take_of_lt (by omega)] at hj
  exact hj
 have hcp2 : ∀ ty dc sc, (Builtin.copy_ #[103, 103] ty #[.slice (some ⟨w.heap.size, (i + 1) * 2, none⟩) (cap - i) dc, .slice (some ⟨g, i * 2, none⟩) (cap - i) sc]).run Try.prog W1.drew = .ok (goInt (Nat.min (cap - i) (cap - i))) (W1.drew.setRow w.heap.size (lay (lay cu.toList (i * 2) [.int .i64 b, .int .i64 c]) ((i + 1) * 2) (hC (L.drop i))).toArray) := fun ty dc sc =>
  run_copy_rowk W1.drew _ _ ty 102 w.heap.size ((i + 1) * 2) (cap - i) dc ⟨g, i * 2, none⟩ (cap - i) sc 2 _ 102 (hC (L.drop i)) Try.underlying103 half_sz hg1 (by rw [hdl]; simp only [Nat.min_def]; split <;> omega) hsrc (by rw [List.size_toArray, hdl]; show (i + 1) * 2 + (cap - i) * 2 ≤ (lay cu.toList (i * 2) [Value.int .i64 (b : Int), Value.int .i64 (c : Int)]).length; rw [hl1]; omega) (hC_one _)
 obtain ⟨W2, hW2⟩ : ∃ W2, W2 = W1.drew.setRow w.heap.size (lay (lay cu.toList (i * 2) [.int .i64 b, .int .i64 c]) ((i + 1) * 2) (hC (L.drop i))).toArray := ⟨_, rfl⟩
 have hpost : HRow W2 base (.slice (some ⟨w.heap.size, 0, none⟩) (cap + 1) gc) (L.take i ++ (b, c) :: L.drop i) := by
  have hll : (L.take i ++ (b, c) :: L.drop i).length = cap + 1 := by simp; omega
  have hsz : (lay (lay cu.toList (i * 2) [Value.int .i64 (b : Int), Value.int .i64 (c : Int)]) ((i + 1) * 2) (hC (L.drop i))).length = gc * 2 := by rw [lay_len (by rw [hl1, hdl]; omega), hl1]
  unfold HRow
  rw [hll]
  refine ⟨by rw [hC_len, hll], .inr ⟨w.heap.size, gc, (lay (lay cu.toList (i * 2) [.int .i64 b, .int .i64 c]) ((i + 1) * 2) (hC (L.drop i))).toArray, rfl, hbase, ?_, hgc1, hgc2, ?_, ?_⟩⟩
  ·rw [hW2]; exact setRow_heap W1.drew w.heap.size _ _ _ _ hg1
  ·rw [List.size_toArray, hsz]
  ·show List.take ((cap + 1) * 2) (lay (lay cu.toList (i * 2) [.int .i64 (b : Int), .int .i64 (c : Int)]) ((i + 1) * 2) (hC (L.drop i))) = _
   have e1 : (cap + 1) * 2 = (i + 1) * 2 + (hC (L.drop i)).length := by rw [hdl]; omega
   rw [e1, lay_mid (by rw [hl1, hdl]; omega)]
   rw [show (i + 1) * 2 = i * 2 + [Value.int .i64 (b : Int), Value.int .i64 (c : Int)].length by show _ = i * 2 + 2; omega, lay_mid (by rw [hcl2]; show i * 2 + 2 ≤ _; omega), hcut, hC_app]
   show _ = hC (L.take i) ++ (_ :: _ :: hC (L.drop i))
   simp
 have hgr : w.grownBy W2 (some g) := by
  refine ⟨by rw [hW2, hW1, hWa]; rfl, by rw [hW2, hW1, hWa]; rfl, by rw [hW2, hW1, hWa]; rfl, by rw [hW2, hW1, hWa]; simp, fun k hk hne' => ?_⟩
  rw [hW2, setRow_other W1.drew w.heap.size k _ (by omega)]; exact hbk1 k hk
 have HP := Lib.hid hpost
 have HG := Lib.hid hgr
 rw [← hW1] at hcp1
 rw [← hW2] at hcp2
 have hz2' : ¬ ((i : Int) = (cap : Int)) := by omega
 have hw1 : IntKind.i64.wrap ((i : Int) + 1) = (i : Int) + 1 := by rw [IntKind.wrap_i64]; omega
 have hin : i ≤ cap := by omega
 have hb2 : ¬ (gc = i + 1) := by omega
 have hb4 : ¬ (cap = i) := by omega
 have hb6 : ¬ (gc = i) := by omega
 have hb3 : (i : Int) ≤ (cap : Int) + 1 := by omega
 have hb1 : (0 : Int) ≤ (i : Int) + 1 := by omega
 have htn : ((i : Int) + 1).toNat = i + 1 := by omega
 have hb5 : (i : Int) + 1 ≤ (cap : Int) + 1 := by omega
 have mixed : Try.prog.follows .mixedOrders = true := by kernel_rfl
 have hc63 : gc ≤ 9223372036854775807 := by unfold maxLen at hgc2; omega
 clear hpost hgr hW1 hW2 hg1 hvba hl1 hsrc hdl hcl htk hg hcs hvb hbk hbk1 hga hWa hcu hcus hcut hcl2 holdc hol hgc hi0 hz0 hz1 hz2
 go_enter Try.func91, Try.ntmps91
 go_wp2_with (at_builtin; refine wpList_append_run rfl _ _ 103 3 rfl _ _ rfl rfl (hrun _) ?_)
 go_wp2_with (at_builtin; refine wpList_copy_rowk rfl _ _ 103 103 rfl _ _ rfl rfl (hcp1 _ _) ?_)
 go_region_law_o (refine step_copy_rowk rfl _ _ 103 103 rfl _ _ (by simp [Act.eval, Act.put]) (by simp [Act.eval, Act.put]) (hcp2 _ _ _) ?_)
 go_wp2
 go_ret
 refine ⟨_, rfl, HP.out, HG.out, fun g' h => ?_⟩
 cases h
 exact .inr (Nat.le_refl _)
end Go.Proofs.Ytdlpfiiakmhnlaa

namespace Go.Proofs.Ytdlpfiiakmhnlaa
open Go.RowKit

theorem Insert_h (base : Nat) (v : Value) (L : List (Nat × Nat)) (i b c : Nat) (vb : Nat) (w : World) (hown : HRow w base v L) (hvb : Blk w vb #[.int .i64 b, .int .i64 c] 102) (hne : v.ownBlock ≠ some vb) (hi : i ≤ L.length) (hL : L.length < 100000) (hbase : base ≤ w.heap.size) :
    Calls Try.prog 91 #[v, .int .i64 (i : Nat), .slice (some ⟨vb, 0, none⟩) 1 1] w fun e w' => ∃ v', e = .returned v' ∧ HRow w' base v' (L.take i ++ (b, c) :: L.drop i) ∧ w.grownBy w' v.ownBlock ∧ (∀ g, v'.ownBlock = some g → v.ownBlock = some g ∨ w.heap.size ≤ g) := by
  by_cases he : i = L.length
  · subst he
    have := Insert_end base v L b c vb w hown hvb hL hbase
    rw [List.take_length, List.drop_length]
    exact this
  · rcases hown.2 with ⟨rfl, hn⟩ | ⟨g, cap, cur, rfl, hbg, hg, h1, h2, h3, h4⟩
    · omega
    · by_cases hr : L.length + 1 ≤ cap
      · exact Insert_shift base g cap cur L i b c vb w hbg hg h3 h4 hvb (fun e => hne (by rw [e]; rfl)) (by omega) hr h2
      · exact Insert_grow base g cap cur L i b c vb w hbase hg h3 h4 hvb (by omega) (by omega) h1 hL
theorem step_append_run {P : Program} {ops : Array Oper} {o : Oper} {a : Act} {w : World} {K : Act → World → Prop} {Q : Exit → Act → World → Prop} {E : Prop} (hgd : o.guard = none) (s x : Operand) (t t' : TypeId)
    (ho : o.op = .call { callee := .builtin .append, args := #[s, x], argTypes := #[t, t'] }) (v u : Value) (hs : a.eval s = v) (hx : a.eval x = u) {v' : Value} {w' : World} (hr : (Builtin.append_ #[t, t'] o.type #[v, u]).run P w = .ok v' w') (hK : K (a.put o.dst v') w') :
    if Region.wanted o (yielded ops a.tmps) = true then Oper.wp P o a w K Q else E := by
  have hw : Region.wanted o (yielded ops a.tmps) = true := by simp [Region.wanted, hgd]
  rw [if_pos hw]
  unfold Oper.wp
  simp [execOp, ho, resolve, invoke, builtin, hs, hx, hr, Result.andThen]
  exact hK
set_option maxRecDepth 100000 in
set_option maxHeartbeats 2000000 in
theorem Delete_h (base : Nat) (v : Value) (L : List (Nat × Nat)) (i : Nat) (w : World) (hown : HRow w base v L) (hi : i < L.length) (hL : L.length < 100000) :
    Calls Try.prog 69 #[v, .int .i64 (i : Nat), .int .i64 ((i : Int) + 1)] w fun e w' => ∃ v', e = .returned v' ∧ HRow w' base v' (L.take i ++ L.drop (i + 1)) ∧ w.grownBy w' v.ownBlock ∧ (∀ g, v'.ownBlock = some g → v.ownBlock = some g ∨ w.heap.size ≤ g) := by
 rcases hown.2 with ⟨rfl, hn⟩ | ⟨g, cap, cur, rfl, hbg, hg, hnc, hcap, hcs, htk⟩
 ·omega
 obtain ⟨n, hn⟩ : ∃ n, L.length = n := ⟨_, rfl⟩
 rw [hn] at hi hL htk hnc ⊢
 obtain ⟨i0, hi0, hz0, hz1, hz2⟩ := info_parts info_half
 have hcl : cur.toList.length = cap * 2 := by rw [Array.length_toList, hcs]
 have hdl : (hC (L.drop (i + 1))).length = (n - (i + 1)) * 2 := by rw [hC_len, List.length_drop, hn]
 have hsrc : ∀ j u, (hC (L.drop (i + 1)))[j]? = some u → w.drew.cell? ((⟨g, (i + 1) * 2, none⟩ : Addr).add j) = some u := fun j u hj => by
  have hjl : j < (n - (i + 1)) * 2 := by rw [← hdl]; exact (List.getElem?_eq_some_iff.1 hj).1
  show w.cell? _ = _
  rw [add_pl, cell_row hg, ← Array.getElem?_toList]
  rw [← hC_drop, List.getElem?_drop, ← htk, List.getElem?_take_of_lt (by omega)] at hj
  exact hj
 obtain ⟨W1, hW1⟩ : ∃ W1, W1 = w.drew.setRow g (lay cur.toList (i * 2) (hC (L.drop (i + 1)))).toArray := ⟨_, rfl⟩
 have hl1 : (lay cur.toList (i * 2) (hC (L.drop (i + 1)))).length = cap * 2 := by rw [lay_len (by rw [hcl, hdl]; omega), hcl]
 have hap : ∀ ty c2, (Builtin.append_ #[103, 103] ty #[.slice (some ⟨g, 0, none⟩) i cap, .slice (some ⟨g, (i + 1) * 2, none⟩) (n - (i + 1)) c2]).run Try.prog w.drew = .ok (.slice (some ⟨g, 0, none⟩) (n - 1) cap) W1 := fun ty c2 => by
  have h := run_append_room (P := Try.prog) w.drew 103 ty 102 i0 Try.underlying103 hi0 g i cap cur hg ⟨g, (i + 1) * 2, none⟩ (n - (i + 1)) c2 (hC (L.drop (i + 1))) (by rw [hz1, hdl]) hsrc (hC_one _) (by omega) (by rw [hz1, hdl, hcs]; omega)
  rw [hz1, show i + (n - (i + 1)) = n - 1 by omega] at h
  rw [hW1]; exact h
 have hap0 : n = i + 1 → ∀ ty c2, (Builtin.append_ #[103, 103] ty #[.slice (some ⟨g, 0, none⟩) i cap, .slice (some ⟨g, 0, none⟩) 0 c2]).run Try.prog w.drew = .ok (.slice (some ⟨g, 0, none⟩) i cap) W1 := fun e ty c2 => by
  have hnil : L.drop (i + 1) = [] := by rw [List.drop_eq_nil_iff]; omega
  have h := run_append_room (P := Try.prog) w.drew 103 ty 102 i0 Try.underlying103 hi0 g i cap cur hg ⟨g, 0, none⟩ 0 c2 [] (by simp) (fun j u hj => by simp at hj) (fun u hu => by cases hu) (by omega) (by rw [hz1, hcs]; show i * 2 + 0 ≤ _; omega)
  rw [hz1, Nat.add_zero] at h
  rw [hW1, hnil]; exact h
 have hg1 : W1.heap[g]? = some (.cells (lay cur.toList (i * 2) (hC (L.drop (i + 1)))).toArray 102 (0, 0)) := by rw [hW1]; exact setRow_heap w.drew g cur _ _ _ hg
 obtain ⟨Z, hZ⟩ : ∃ Z, (Builtin.zeroCells (Value.agg #[.int .i64 0, .int .i64 0]).cells 1).toList = Z := ⟨_, rfl⟩
 have hZl : Z.length = 2 := by rw [← hZ, Array.length_toList, size_zeroCells]; rfl
 obtain ⟨W2, hW2⟩ : ∃ W2, W2 = W1.setRow g (lay (lay cur.toList (i * 2) (hC (L.drop (i + 1)))) ((n - 1) * 2) Z).toArray := ⟨_, rfl⟩
 have hcr : ∀ ty c2, (Builtin.clear_ #[103] ty #[.slice (some ⟨g, (n - 1) * 2, none⟩) 1 c2]).run Try.prog W1 = .ok (.tuple #[]) W2 := fun ty c2 => by
  have h := run_clear_rowk (P := Try.prog) W1 103 102 ty i0 (Value.agg #[.int .i64 0, .int .i64 0]) Try.underlying103 hi0 hz0 g ((n - 1) * 2) 1 c2 _ _ hg1 (by omega) (by have e := hl1; rw [← List.size_toArray] at e; rw [e]; show (n - 1) * 2 + 1 * 2 ≤ _; omega) (by intro v hv; simp [Value.cells] at hv; rcases hv with rfl | rfl <;> rfl)
  rw [hZ] at h
  rw [hW2]
  unfold lay at h ⊢
  rw [hZl]
  exact h
 have hpost : HRow W2 base (.slice (some ⟨g, 0, none⟩) (n - 1) cap) (L.take i ++ L.drop (i + 1)) := by
  have hll : (L.take i ++ L.drop (i + 1)).length = n - 1 := by simp; omega
  unfold HRow
  rw [hll]
  refine ⟨by rw [hC_len, hll], .inr ⟨g, cap, (lay (lay cur.toList (i * 2) (hC (L.drop (i + 1)))) ((n - 1) * 2) Z).toArray, rfl, hbg, ?_, by omega, hcap, ?_, ?_⟩⟩
  ·rw [hW2]; exact setRow_heap W1 g _ _ _ _ hg1
  ·rw [List.size_toArray, lay_len (by rw [hl1, hZl]; omega), hl1]
  ·show List.take ((n - 1) * 2) (lay (lay cur.toList (i * 2) (hC (L.drop (i + 1)))) ((n - 1) * 2) Z) = _
   rw [lay_take (by rw [hl1, hZl]; omega) (Nat.le_refl _)]
   rw [show (n - 1) * 2 = i * 2 + (hC (L.drop (i + 1))).length by rw [hdl]; omega, lay_mid (by rw [hcl, hdl]; omega), hC_app]
   congr 1
   rw [← hC_take, ← htk, List.take_take]; congr 1; omega
 have hgr : w.grownBy W2 (some g) := by
  refine ⟨by rw [hW2, hW1]; rfl, by rw [hW2, hW1]; rfl, by rw [hW2, hW1]; rfl, by rw [hW2, hW1]; simp, fun k hk hne' => ?_⟩
  have hkg : k ≠ g := fun e => hne' (by rw [e])
  rw [hW2, setRow_other W1 g k _ hkg, hW1, setRow_other w.drew g k _ hkg]; rfl
 have HP := Lib.hid hpost
 have HG := Lib.hid hgr
 have hc63 : cap ≤ 9223372036854775807 := by unfold maxLen at hcap; omega
 have hz2' : ¬ ((i : Int) = (i : Int) + 1) := by omega
 have hb1 : (0 : Int) ≤ (i : Int) + 1 := by omega
 have htn : ((i : Int) + 1).toNat = i + 1 := by omega
 have hb5 : (i : Int) + 1 ≤ (n : Int) := by omega
 have hb3 : (i : Int) ≤ (i : Int) + 1 := by omega
 have hb6 : ¬ (cap = i) := by omega
 have hic : i ≤ cap := by omega
 have hjc : i + 1 ≤ cap := by omega
 have hin : i ≤ n := by omega
 have mixed : Try.prog.follows .mixedOrders = true := by kernel_rfl
 clear hpost hgr hW1 hW2 hg1 hl1 hsrc hdl hcl htk hg hcs hi0 hz0 hz1 hz2 hZ hZl hown
 by_cases hlast : n = i + 1
 ·have hap1 := hap0 hlast
  clear hap0
  subst hlast
  have hb9 : i + 1 - i = 1 := by omega
  have hb11 : i + 1 - (i + 1) = 0 := by omega
  have e1 : i + 1 - 1 = i := by omega
  rw [hb11] at hap
  rw [e1] at hap hcr HP
  by_cases hce : cap = i + 1
  ·clear hap
   subst hce
   go_enter Try.func69, Try.ntmps69
   go_wp2_with fail
   go_region_law_o (go_loud (refine step_append_run rfl (.tmp 22) (.tmp 25) 103 103 rfl (.slice (some ⟨g, 0, none⟩) i (i + 1)) (.slice (some ⟨g, 0, none⟩) 0 0) (by simp [Act.eval, Act.put]) (by simp [Act.eval, Act.put]) (hap1 _ _) ?_))
   go_wp2_with (at_builtin; refine wpList_clear_run rfl _ 103 rfl _ rfl (hcr _ _) ?_)
   go_ret
   exact ⟨_, rfl, HP.out, HG.out, fun g' h => .inl h⟩
  ·clear hap1
   have hb7 : ¬ (cap = i + 1) := hce
   go_enter Try.func69, Try.ntmps69
   go_wp2_with fail
   go_region_law_o (go_loud (refine step_append_run rfl (.tmp 22) (.tmp 25) 103 103 rfl (.slice (some ⟨g, 0, none⟩) i cap) (.slice (some ⟨g, (i + 1) * 2, none⟩) 0 (cap - (i + 1))) (by simp [Act.eval, Act.put]) (by simp [Act.eval, Act.put]) (hap _ _) ?_))
   go_wp2_with (at_builtin; refine wpList_clear_run rfl _ 103 rfl _ rfl (hcr _ _) ?_)
   go_ret
   exact ⟨_, rfl, HP.out, HG.out, fun g' h => .inl h⟩
 ·clear hap0
  have hb7 : ¬ (cap = i + 1) := by omega
  have hb8 : (n : Int) - 1 = ((n - 1 : Nat) : Int) := by omega
  go_enter Try.func69, Try.ntmps69
  go_wp2_with fail
  go_region_law_o (refine step_append_run rfl (.tmp 22) (.tmp 25) 103 103 rfl (.slice (some ⟨g, 0, none⟩) i cap) (.slice (some ⟨g, (i + 1) * 2, none⟩) (n - (i + 1)) (cap - (i + 1))) (by simp [Act.eval, Act.put]) (by simp [Act.eval, Act.put]) (hap _ _) ?_)
  have hn1 : n - 1 ≤ n := by omega
  have hb9 : n - (n - 1) = 1 := by omega
  have hb10 : ¬ (cap = n - 1) := by omega
  go_wp2_with (at_builtin; refine wpList_clear_run rfl _ 103 rfl _ rfl (hcr _ _) ?_)
  go_ret
  exact ⟨_, rfl, HP.out, HG.out, fun g' h => .inl h⟩
end Go.Proofs.Ytdlpfiiakmhnlaa

namespace Go.Proofs.Ytdlpfiiakmhnlaa
open Go.RowKit

section
variable {P : Program} {C : World → Prop} {Q : Exit → Act → World → Prop}
theorem len_value {o : Oper} {c : Call} {ρ : Operand → Value} {w w' : World} {n : Next} (hp : o.op = .call c) (hb : c.callee = .builtin .len) (h : (execOp ρ o).run P w = .ok n w') : ∃ v, n = .value v := by
  unfold execOp at h
  rw [hp] at h
  dsimp only at h
  unfold resolve at h
  rw [hb] at h
  simp only [Sem.run_bind, Sem.run_pure, Result.andThen_ok, invoke, builtin] at h
  cases h1 : Sem.run P (Builtin.len_ c.argTypes o.type (c.args.map ρ)) w with
  | halt y w1 => rw [h1] at h; simp [Result.andThen] at h
  | ok p w1 => rw [h1] at h; simp only [Result.andThen] at h; exact ⟨_, ((Result.ok.inj h).1).symm⟩
theorem len_yields {o : Oper} {c : Call} {a : Act} {v : Value} (hp : o.op = .call c) (hb : c.callee = .builtin .len) (h : ∀ w, C w → o.quietAt P a C w v) : ∀ w, C w → (execOp a.eval o).run P w = .ok (.value v) w := by
  intro w hw
  have h3 := h w hw
  unfold Oper.quietAt at h3
  cases hr : (execOp a.eval o).run P w with
  | ok n w' =>
    rw [hr] at h3
    obtain ⟨u, rfl⟩ := len_value hp hb hr
    simp only [Oper.quietUpon] at h3
    rw [h3.1, h3.2]
  | halt x w' => rw [hr] at h3; simp only [Oper.quietUpon] at h3
theorem wpS_takeB {l : List Oper} {T : Act → World → Prop} {σ : List (Bool × Nat)} {i : Nat} {o : Oper} {c : Call} {a : Act} {w : World} (ho : l[i]? = some o) (hp : o.op = .call c) (hb : c.callee = .builtin .len)
    (h : wpQuiet P l.toArray C (fun a' => wpS P l.toArray C Q T σ a' w) [o] a) : wpS P l.toArray C Q T ((true, i) :: σ) a w := by
  unfold wpQuiet at h
  by_cases hw : Region.wanted o (yielded l.toArray a.tmps) = true
  · rw [if_pos hw] at h
    obtain ⟨v, h1, h2⟩ := h
    exact ⟨o, v, by simpa using ho, .inl ⟨hw, len_yields hp hb h1⟩, h2⟩
  · rw [if_neg hw] at h
    exact ⟨o, undef, by simpa using ho, .inr ⟨by simpa using hw, rfl⟩, h⟩
end
end Go.Proofs.Ytdlpfiiakmhnlaa

namespace Go.Proofs.Ytdlpfiiakmhnlaa
open Go.RowKit

abbrev hI (b c : Int) : Value := .agg #[.int .i64 b, .int .i64 c]
abbrev HVar (w : World) (bl : Nat) (b c : Int) : Prop := Blk w bl #[.int .i64 b, .int .i64 c] 102
theorem HVar.c {w : World} {bl : Nat} {b c : Int} (h : HVar w bl b c) : w.cell? ⟨bl, 0, none⟩ = some (.int .i64 b) ∧ w.cell? ⟨bl, 1, none⟩ = some (.int .i64 c) := ⟨h.cell 0, h.cell 1⟩
set_option maxRecDepth 100000 in
set_option maxHeartbeats 1000000 in
theorem byTo_is (a b c d r : Int) (hr : cmpI a c = r) (w : World) : Calls Try.prog 53 #[hI a b, hI c d] w fun e w' => e = .returned (.int .i64 r) ∧ Below w.heap.size w w' := by
  go_enter Try.func53, Try.ntmps53
  go_wp2_with fail
  refine calls_w ?_
  intro V hV
  have hbV : Below w.heap.size w V := by rw [hV]; exact below_a2 _ _ _
  clear hV
  subst hr
  refine (Compare_any a c V).mono ?_
  rintro e W2 ⟨rfl, hn⟩
  have hb2 := hbV.trans (hn.mono hbV.size)
  clear hn hbV
  go_wp2
  go_ret
  exact ⟨rfl, hb2⟩
/-- the halves rise -/
def SortH (L : List (Nat × Nat)) : Prop := ∀ (j k : Nat) (x y : Nat × Nat), j < k → L[j]? = some x → L[k]? = some y → x.1 < y.1
theorem HRow.val {w : World} {base : Nat} {v : Value} {L : List (Nat × Nat)} (h : HRow w base v L) :
    ∃ ao cap, v = .slice ao L.length cap ∧ L.length ≤ cap ∧ cap ≤ 9223372036854775807 ∧ (0 < L.length → ∃ g, ao = some ⟨g, 0, none⟩ ∧ base ≤ g ∧ g < w.heap.size ∧ ∀ j x, L[j]? = some x → w.cell? ⟨g, j * 2, none⟩ = some (.int .i64 (x.1 : Nat)) ∧ w.cell? ⟨g, j * 2 + 1, none⟩ = some (.int .i64 (x.2 : Nat))) := by
  rcases h.2 with ⟨rfl, hn⟩ | ⟨g, cap, cur, rfl, hb, hg, h1, h2, h3, h4⟩
  · exact ⟨none, 0, by rw [hn], by omega, by omega, fun h0 => by omega⟩
  · refine ⟨_, cap, rfl, h1, by unfold maxLen at h2; omega, fun _ => ⟨g, rfl, hb, (Array.getElem?_eq_some_iff.1 hg).1, fun j x hx => ?_⟩⟩
    have hj : j < L.length := (List.getElem?_eq_some_iff.1 hx).1
    have := hC_at L j x hx
    rw [cell_row hg, cell_row hg, ← Array.getElem?_toList, ← Array.getElem?_toList]
    rw [← h4, List.getElem?_take_of_lt (by omega), List.getElem?_take_of_lt (by omega)] at this
    exact this
set_option maxRecDepth 100000 in
set_option maxHeartbeats 2000000 in
theorem Find_h (base : Nat) (v : Value) (L : List (Nat × Nat)) (b z : Int) (w : World) (hown : HRow w base v L) (hs : SortH L) (hL : L.length < 100000) :
    Calls Try.prog 52 #[v, hI b z, .func (.func 53) #[] #[]] w fun e w' => ∃ (i : Nat) (ok : Bool), e = .returned (.tuple #[.int .i64 i, .bool ok]) ∧ Below w.heap.size w w' ∧ i ≤ L.length ∧ (∀ j x, L[j]? = some x → (j < i → (x.1 : Int) < b) ∧ (i ≤ j → b ≤ (x.1 : Int))) ∧ (ok = true ↔ ∃ x, L[i]? = some x ∧ (x.1 : Int) = b) := by
 obtain ⟨ao, cap, rfl, hc1, hc2, hc3⟩ := hown.val
 obtain ⟨n, hn⟩ : ∃ n, L.length = n := ⟨_, rfl⟩
 rw [hn] at hc1 hc3 hL ⊢
 have HN := Lib.hid hn
 have HC := Lib.hid hc3
 have HS := Lib.hid hs
 clear hown hn hc3 hs
 go_enter Try.func52, Try.ntmps52
 go_wp2_with fail
 refine name_world ?_
 intro V hV
 have KB : Hid (HVar V w.heap.size b z) := by rw [hV]; exact Lib.hid (Blk.new w _ _)
 have hbV : Below w.heap.size w V := by rw [hV]; exact below_a1 _ _
 clear hV
 go_wp2_with fail
 go_loopg [8, 9] n (fun gk s8 s9 wr => ∃ lo hi : Nat, s8 = .int .i64 lo ∧ s9 = .int .i64 hi ∧ lo ≤ hi ∧ hi ≤ n ∧ hi - lo ≤ gk ∧ Hid (∀ j x, L[j]? = some x → (j < lo → (x.1 : Int) < b) ∧ (hi ≤ j → b ≤ (x.1 : Int))) ∧ Hid (HVar wr w.heap.size b z) ∧ Below w.heap.size w wr)
 case atStart => exact ⟨0, n, rfl, rfl, Nat.zero_le _, Nat.le_refl _, by omega, Lib.hid (fun j x hx => ⟨fun h => by omega, fun h => by have := (List.getElem?_eq_some_iff.1 hx).1; have := HN.out; omega⟩), KB, hbV⟩
 case round =>
  clear KB hbV
  obtain ⟨lo, hi, rfl, rfl, h1, h2, h3, HI, KB, hb⟩ := hrel
  by_cases hlt : lo < hi
  ·obtain ⟨m, hm⟩ : ∃ m, lo + (hi - lo) / 2 = m := ⟨_, rfl⟩
   have hml : lo ≤ m ∧ m < hi := by omega
   have hmi : (lo : Int) + Int.tdiv ((hi : Int) - (lo : Int)) 2 = (m : Int) := by
    rw [Int.tdiv_eq_ediv_of_nonneg (by omega)]; omega
   obtain ⟨g, rfl, hbg, hgl, hcell⟩ := HC.out (by omega)
   obtain ⟨x, hx⟩ : ∃ x, L[m]? = some x := ⟨_, List.getElem?_eq_getElem (show m < L.length by rw [HN.out]; omega)⟩
   have hcx := hcell m x hx
   obtain ⟨xt, xc⟩ := x
   have p0 : wr.cell? ⟨g, m * 2, none⟩ = some (.int .i64 (xt : Int)) := (hb.cell (p := ⟨g, m * 2, none⟩) hgl).trans hcx.1
   have p1 : wr.cell? ⟨g, m * 2 + 1, none⟩ = some (.int .i64 (xc : Int)) := (hb.cell (p := ⟨g, m * 2 + 1, none⟩) hgl).trans hcx.2
   have HX := Lib.hid hx
   obtain ⟨r, hr⟩ : ∃ r, cmpI (xt : Int) b = r := ⟨_, rfl⟩
   have HR := Lib.hid hr
   have hr3 : (r = -1 ∧ (xt : Int) < b) ∨ (0 ≤ r ∧ r ≤ 1 ∧ b ≤ (xt : Int)) := by rw [← hr]; unfold cmpI; omega
   have hgw : g < wr.heap.size := Nat.lt_of_lt_of_le hgl hb.size
   clear hcell hcx hx hr
   have kb := HVar.c KB.out
   have lb := KB.out.lt
   have hdi : (hi : Int) - (lo : Int) ≤ 9223372036854775807 := by omega
   go_wp2_with fail
   have hbk := hb
   refine wp_region_up wr.heap.size 6 [(true, 0), (true, 1), (true, 2), (true, 3), (true, 4), (true, 5)] (by kernel_rfl) (by kernel_rfl) (fun _ _ d _ _ h => by cases d <;> exact h) ?_
   have hb : Below wr.heap.size wr wr.drew := (Below.refl _ _).drew
   iterate 6
    refine wpS_takeL rfl rfl ?_
    go_big_quiet_step (rfl)
    refine wpQuiet_nil ?_
   refine wpS_nil ?_
   simp only [List.drop_succ_cons, List.drop_zero]
   have hb_ := hb
   replace hb := hbk
   clear hbk
   have KB2 := Lib.hid (KB.out.of hb_)
   clear KB
   go_wp2_with fail
   refine (byTo_is xt xc b z r HR.out _).mono ?_
   rintro e W2 ⟨rfl, hn⟩
   have KB3 := Lib.hid (KB2.out.of hn)
   have hb3 := (hb.trans (hb_.mono hb.size)).trans (hn.mono (hb.trans (hb_.mono hb.size)).size)
   clear hn hb hb_ KB2 kb lb p0 p1
   rcases hr3 with ⟨rfl, hr4⟩ | ⟨hr4, hr5, hr6⟩
   ·go_wp2_with fail
    go_roundg (hi - (m + 1))
    case measure => omega
    case rel =>
     refine ⟨m + 1, hi, by norm_cast, rfl, by omega, h2, Nat.le_refl _, Lib.hid (fun j x hx => ⟨fun hj => ?_, fun hj => (HI.out j x hx).2 hj⟩), KB3, hb3⟩
     by_cases e : j = m
     ·subst e; rw [HX.out] at hx; injection hx with hx; subst hx; exact hr4
     ·have := HS.out j m x _ (by omega) hx HX.out
      have h7 : x.1 < xt := this
      omega
   ·have hr7 : ¬ r < 0 := by omega
    go_wp2_with fail
    go_roundg (m - lo)
    case measure => omega
    case rel =>
     refine ⟨lo, m, rfl, rfl, by omega, by omega, Nat.le_refl _, Lib.hid (fun j x hx => ⟨fun hj => (HI.out j x hx).1 hj, fun hj => ?_⟩), KB3, hb3⟩
     by_cases e : j = m
     ·subst e; rw [HX.out] at hx; injection hx with hx; subst hx; exact hr6
     ·have := HS.out m j _ x (by omega) HX.out hx
      have h7 : xt < x.1 := this
      omega
  ·have e : lo = hi := by omega
   subst e
   clear hlt h1 h3
   by_cases hln : lo < n
   ·obtain ⟨g, rfl, hbg, hgl, hcell⟩ := HC.out (by omega)
    obtain ⟨x, hx⟩ : ∃ x, L[lo]? = some x := ⟨_, List.getElem?_eq_getElem (show lo < L.length by rw [HN.out]; omega)⟩
    have hcx := hcell lo x hx
    obtain ⟨xt, xc⟩ := x
    have p0 : wr.cell? ⟨g, lo * 2, none⟩ = some (.int .i64 (xt : Int)) := (hb.cell (p := ⟨g, lo * 2, none⟩) hgl).trans hcx.1
    have p1 : wr.cell? ⟨g, lo * 2 + 1, none⟩ = some (.int .i64 (xc : Int)) := (hb.cell (p := ⟨g, lo * 2 + 1, none⟩) hgl).trans hcx.2
    have HX := Lib.hid hx
    obtain ⟨r, hr⟩ : ∃ r, cmpI (xt : Int) b = r := ⟨_, rfl⟩
    have HR := Lib.hid hr
    have hr3 : (r = 0 ∧ (xt : Int) = b) ∨ (r ≠ 0 ∧ (xt : Int) ≠ b) := by rw [← hr]; unfold cmpI; omega
    have hgw : g < wr.heap.size := Nat.lt_of_lt_of_le hgl hb.size
    clear hcell hcx hx hr
    have kb := HVar.c KB.out
    have lb := KB.out.lt
    go_wp2_with fail
    have hbk := hb
    refine wp_region_up wr.heap.size 16 [(true, 0), (true, 1), (true, 2), (true, 3), (true, 4), (true, 5), (true, 6), (true, 7), (true, 8), (true, 9), (true, 10), (true, 11), (false, 12), (true, 13), (true, 14), (true, 15)] (by kernel_rfl) (by kernel_rfl) (fun _ _ d _ _ h => by cases d <;> exact h) ?_
    have hb : Below wr.heap.size wr wr.drew := (Below.refl _ _).drew
    iterate 12
     first | refine wpS_takeL rfl rfl ?_ | refine wpS_takeB rfl rfl rfl ?_
     first | go_big_quiet_step (rfl) | (go_big_quiet_want; go_big_quiet_op; refine ⟨_, fun _ => rfl, ?_⟩; go_big_quiet_on)
     refine wpQuiet_nil ?_
    refine wpS_doL rfl ?_
    intro K hK
    go_wp2_with ((go_at_call 53; (with_reducible refine (byTo_is xt xc b z r HR.out _).mono ?_); rintro e w2 ⟨rfl, hn⟩))
    try replace hb := hb.trans (hn.mono hb.size)
    refine hK.out _ _ (up_iff.2 hb) ?_
    clear hK K
    try clear hn
    iterate 3
     first | refine wpS_takeL rfl rfl ?_ | refine wpS_takeB rfl rfl rfl ?_
     first | go_big_quiet_step (rfl) | (go_big_quiet_want; go_big_quiet_op; refine ⟨_, fun _ => rfl, ?_⟩; go_big_quiet_on)
     refine wpQuiet_nil ?_
    refine wpS_nil ?_
    simp only [List.drop_succ_cons, List.drop_zero]
    have hb_ := hb
    replace hb := hbk
    clear hbk
    have hb3 := hb.trans (hb_.mono hb.size)
    clear hb hb_ kb lb p0 p1 KB
    rcases hr3 with ⟨rfl, hr4⟩ | ⟨hr4, hr5⟩
    ·go_wp2
     simp [bodyPost, results, Try.results52, go_sem]
     exact ⟨lo, rfl, hb3, by omega, fun j a b_1 h => HI.out j (a, b_1) h, ⟨_, ⟨_, HX.out⟩, hr4⟩⟩
    ·have hr6 : (r == 0) = false := by simpa using hr4
     go_wp2
     simp [bodyPost, results, Try.results52, go_sem, hr6]
     refine ⟨lo, rfl, hb3, by omega, fun j a b_1 h => HI.out j (a, b_1) h, fun x y h h' => ?_⟩
     rw [HX.out] at h; injection h with h; injection h with h _; exact hr5 (by omega)
   ·have hbk := hb
    go_wp2_with fail
    refine wp_region_up wr.heap.size 16 [(true, 0), (true, 1), (true, 2), (true, 3), (true, 4), (true, 5), (true, 6), (true, 7), (true, 8), (true, 9), (true, 10), (true, 11), (false, 12), (true, 13), (true, 14), (true, 15)] (by kernel_rfl) (by kernel_rfl) (fun _ _ d _ _ h => by cases d <;> exact h) ?_
    have hb : Below wr.heap.size wr wr.drew := (Below.refl _ _).drew
    iterate 12
     first | refine wpS_takeL rfl rfl ?_ | refine wpS_takeB rfl rfl rfl ?_
     first | go_big_quiet_step (rfl) | (go_big_quiet_want; go_big_quiet_op; refine ⟨_, fun _ => rfl, ?_⟩; go_big_quiet_on)
     refine wpQuiet_nil ?_
    refine wpS_doL rfl ?_
    intro K hK
    go_wp2_with (fail)
    try replace hb := hb.trans (hn.mono hb.size)
    refine hK.out _ _ (up_iff.2 hb) ?_
    clear hK K
    try clear hn
    iterate 3
     first | refine wpS_takeL rfl rfl ?_ | refine wpS_takeB rfl rfl rfl ?_
     first | go_big_quiet_step (rfl) | (go_big_quiet_want; go_big_quiet_op; refine ⟨_, fun _ => rfl, ?_⟩; go_big_quiet_on)
     refine wpQuiet_nil ?_
    refine wpS_nil ?_
    simp only [List.drop_succ_cons, List.drop_zero]
    have hb_ := hb
    replace hb := hbk
    clear hbk
    go_wp2
    simp [bodyPost, results, Try.results52, go_sem]
    refine ⟨lo, rfl, hb.drew, by omega, fun j a b_1 h => HI.out j (a, b_1) h, fun x y h h' => ?_⟩
    have := (List.getElem?_eq_some_iff.1 h).1
    have := HN.out
    omega
end Go.Proofs.Ytdlpfiiakmhnlaa

namespace Go.Proofs.Ytdlpfiiakmhnlaa
open Go.RowKit

abbrev ptr (t o : Nat) : Value := .pointer (some ⟨t, o, none⟩)
/-- where a store's parts lie -/
structure SD where
  po : Option Addr
  pc : Nat
  ob : Nat
  oc : Nat
  V : Nat → Value
/-- the blocks of a store that its calls may write -/
def SD.has (D : SD) (t N b : Nat) : Prop := b = t ∨ b = D.ob ∨ ∃ a, a < N ∧ (D.V a).ownBlock = some b
structure SM (w : World) (t : Nat) (D : SD) (N : Nat) (X Y : Nat → Int) (O : Nat → List (Nat × Nat)) (n : Int) : Prop where
  blk : Blk w t #[.slice D.po N D.pc, .slice (some ⟨D.ob, 0, none⟩) N D.oc, .int .i64 n] 87
  pts : Pts w D.po N D.pc X Y
  pty : 0 < N → ∃ a cur, D.po = some a ∧ w.heap[a.block]? = some (.cells cur 41 (0, 0))
  out : ∃ cur, w.heap[D.ob]? = some (.cells cur 103 (0, 0)) ∧ ∀ a, a < N → cur[a]? = some (D.V a)
  ocl : N ≤ D.oc
  och : D.oc ≤ 9223372036854775807
  rows : ∀ a, a < N → HRow w 0 (D.V a) (O a)
  apart : ∀ a b g, a < N → b < N → a ≠ b → (D.V a).ownBlock = some g → (D.V b).ownBlock ≠ some g
  small : N ≤ 4096
  dom : ∀ a, a < N → ∀ x, x ∈ O a → x.1 < N ∧ x.2 < N
  sort : ∀ a, a < N → SortH (O a)
/-- what may have been written: the blocks of S -/
structure Fr (w w' : World) (S : Nat → Prop) : Prop where
  os : w'.os = w.os
  tape : w'.tape = w.tape
  output : w'.output = w.output
  size : w.heap.size ≤ w'.heap.size
  block : ∀ k, k < w.heap.size → ¬ S k → w'.heap[k]? = w.heap[k]?
theorem Fr.below {w w' : World} {S : Nat → Prop} {B : Nat} (h : Fr w w' S) (hB : B ≤ w.heap.size) (hS : ∀ k, S k → B ≤ k) : Below B w w' :=
  ⟨h.os, h.tape, h.output, h.size, fun k hk => h.block k (by omega) fun hs => by have := hS k hs; omega⟩
theorem Fr.ofBelow {w w' : World} {S : Nat → Prop} (h : Below w.heap.size w w') : Fr w w' S := ⟨h.os, h.tape, h.output, h.size, fun k hk _ => h.block k hk⟩
theorem Fr.trans {w w' w'' : World} {S S' : Nat → Prop} (h : Fr w w' S) (k : Fr w' w'' S') (hs : ∀ b, S' b → S b ∨ w.heap.size ≤ b) : Fr w w'' S :=
  ⟨k.os.trans h.os, k.tape.trans h.tape, k.output.trans h.output, Nat.le_trans h.size k.size, fun b hb hn => (k.block b (Nat.lt_of_lt_of_le hb h.size) (fun h' => by rcases hs b h' with h' | h'; exact hn h'; omega)).trans (h.block b hb hn)⟩
theorem Fr.cell {w w' : World} {S : Nat → Prop} (h : Fr w w' S) {p : Addr} (hp : p.block < w.heap.size) (hS : ¬ S p.block) : w'.cell? p = w.cell? p := World.cell?_of_block (w := w) (h.block p.block hp hS)
theorem Fr.blk {w w' : World} {S : Nat → Prop} (h : Fr w w' S) {b : Nat} {c : Array Value} {ty : TypeId} (hb : Blk w b c ty) (hS : ¬ S b) : Blk w' b c ty := (h.block b hb.lt hS).trans hb
theorem HRow.lt {w : World} {base : Nat} {v : Value} {L : List (Nat × Nat)} (h : HRow w base v L) {g : Nat} (hg : v.ownBlock = some g) : g < w.heap.size := (World.ownsRow.lt h g hg).2
theorem HRow.fr {w w' : World} {base : Nat} {v : Value} {L : List (Nat × Nat)} {S : Nat → Prop} (h : HRow w base v L) (hg : Fr w w' S) (hne : ∀ g, v.ownBlock = some g → ¬ S g) : HRow w' base v L := by
  refine ⟨h.1, h.2.imp id ?_⟩
  rintro ⟨g, cap, cur, rfl, hbg, hh, r⟩
  exact ⟨g, cap, cur, rfl, hbg, (hg.block _ (Array.getElem?_eq_some_iff.1 hh).1 (hne g rfl)).trans hh, r⟩
theorem Pts.fr {w w' : World} {ao : Option Addr} {n cap : Nat} {X Y : Nat → Int} {S : Nat → Prop} (h : Pts w ao n cap X Y) (hf : Fr w w' S) (hS : ∀ a, ao = some a → 0 < n → ¬ S a.block) : Pts w' ao n cap X Y := by
  refine ⟨fun h0 => ?_, h.capl, h.capb⟩
  obtain ⟨a, h1, h2, h3⟩ := h.ptr h0
  refine ⟨a, h1, Nat.lt_of_lt_of_le h2 hf.size, fun i hi => ?_⟩
  have e1 : ∀ k, (a.add k).block = a.block := fun k => by unfold Addr.add; split <;> rfl
  have e2 : ∀ k l, ((a.add k).add l).block = a.block := fun k l => by unfold Addr.add; split <;> split <;> rfl
  have hn := hS a h1 h0
  rw [hf.cell (by rw [e1]; exact h2) (by rw [e1]; exact hn), hf.cell (by rw [e2]; exact h2) (by rw [e2]; exact hn)]
  exact h3 i hi
/-- a store stays where nothing of it is written -/
theorem SM.fr {w w' : World} {t : Nat} {D : SD} {N : Nat} {X Y : Nat → Int} {O : Nat → List (Nat × Nat)} {n : Int} {S : Nat → Prop} (h : SM w t D N X Y O n) (hf : Fr w w' S) (hS : ∀ b, D.has t N b → ¬ S b) (hp : ∀ a, D.po = some a → 0 < N → ¬ S a.block) : SM w' t D N X Y O n := by
  obtain ⟨cur, hc, hcur⟩ := h.out
  refine ⟨hf.blk h.blk (hS t (.inl rfl)), h.pts.fr hf hp, fun h0 => by
    obtain ⟨a, cu, h1, h2⟩ := h.pty h0
    exact ⟨a, cu, h1, (hf.block _ (Array.getElem?_eq_some_iff.1 h2).1 (hp a h1 h0)).trans h2⟩, ⟨cur, (hf.block _ (Array.getElem?_eq_some_iff.1 hc).1 (hS _ (.inr (.inl rfl)))).trans hc, hcur⟩, h.ocl, h.och, fun a ha => (h.rows a ha).fr hf fun g hg => hS g (.inr (.inr ⟨a, ha, hg⟩)), h.apart, h.small, h.dom, h.sort⟩
theorem SM.of {w w' : World} {t : Nat} {D : SD} {N : Nat} {X Y : Nat → Int} {O : Nat → List (Nat × Nat)} {n : Int} (h : SM w t D N X Y O n) (hb : Below w.heap.size w w') : SM w' t D N X Y O n :=
  h.fr (S := fun _ => False) (Fr.ofBelow hb) (fun _ _ => id) (fun _ _ _ => id)
theorem SM.lt {w : World} {t : Nat} {D : SD} {N : Nat} {X Y : Nat → Int} {O : Nat → List (Nat × Nat)} {n : Int} (h : SM w t D N X Y O n) {b : Nat} (hb : D.has t N b) : b < w.heap.size := by
  rcases hb with rfl | rfl | ⟨a, ha, hg⟩
  · exact h.blk.lt
  · obtain ⟨cur, hc, _⟩ := h.out; exact (Array.getElem?_eq_some_iff.1 hc).1
  · exact (h.rows a ha).lt hg
theorem HRow.typ {w : World} {base : Nat} {v : Value} {L : List (Nat × Nat)} (h : HRow w base v L) {g : Nat} (hg : v.ownBlock = some g) {c : Array Value} {ty : TypeId} (hb : w.heap[g]? = some (.cells c ty (0, 0))) : ty = 102 := by
  rcases h.2 with ⟨e, _⟩ | ⟨g', cap, cur', e, _, hh, _⟩
  · rw [e] at hg; cases hg
  · rw [e] at hg; cases hg
    have hh' : w.heap[g']? = some (.cells c ty (0, 0)) := hb
    rw [hh] at hh'; injection hh' with hh'; injection hh' with _ h3; exact h3.symm
/-- a block of another kind is none of a store's -/
theorem SM.notHas {w : World} {t : Nat} {D : SD} {N : Nat} {X Y : Nat → Int} {O : Nat → List (Nat × Nat)} {n : Int} (h : SM w t D N X Y O n) {b : Nat} {c : Array Value} {ty : TypeId} (hb : w.heap[b]? = some (.cells c ty (0, 0)))
    (h1 : ty ≠ 87) (h2 : ty ≠ 103) (h3 : ty ≠ 102) : ¬ D.has t N b := by
  rintro (e | e | ⟨a, ha, hg⟩)
  · have hk := h.blk
    rw [e, show w.heap[t]? = _ from hk] at hb; injection hb with hb; injection hb with _ h4; exact h1 h4.symm
  · obtain ⟨cur, hc, _⟩ := h.out
    rw [e, hc] at hb; injection hb with hb; injection hb with _ h4; exact h2 h4.symm
  · exact h3 ((h.rows a ha).typ hg hb)
theorem SM.pne {w : World} {t : Nat} {D : SD} {N : Nat} {X Y : Nat → Int} {O : Nat → List (Nat × Nat)} {n : Int} (h : SM w t D N X Y O n) (a : Addr) (ha : D.po = some a) (h0 : 0 < N) : ¬ D.has t N a.block := by
  obtain ⟨a', cur, h1, h2⟩ := h.pty h0
  rw [ha] at h1; injection h1 with h1; subst h1
  exact h.notHas h2 (by decide) (by decide) (by decide)
theorem SM.c {w : World} {t : Nat} {D : SD} {N : Nat} {X Y : Nat → Int} {O : Nat → List (Nat × Nat)} {n : Int} (h : SM w t D N X Y O n) :
    w.cell? ⟨t, 0, none⟩ = some (.slice D.po N D.pc) ∧ w.cell? ⟨t, 1, none⟩ = some (.slice (some ⟨D.ob, 0, none⟩) N D.oc) ∧ w.cell? ⟨t, 2, none⟩ = some (.int .i64 n) := ⟨h.blk.cell 0, h.blk.cell 1, h.blk.cell 2⟩
theorem SM.row {w : World} {t : Nat} {D : SD} {N : Nat} {X Y : Nat → Int} {O : Nat → List (Nat × Nat)} {n : Int} (h : SM w t D N X Y O n) {a : Nat} (ha : a < N) : w.cell? ⟨D.ob, a, none⟩ = some (D.V a) := by
  obtain ⟨cur, hc, hcur⟩ := h.out
  rw [cell_row hc, hcur a ha]
theorem sort_ge {L : List (Nat × Nat)} (hs : SortH L) : ∀ (i : Nat) (x : Nat × Nat), L[i]? = some x → i ≤ x.1
  | 0, _, _ => Nat.zero_le _
  | i + 1, x, hx => by
    have hi : i + 1 < L.length := (List.getElem?_eq_some_iff.1 hx).1
    have h1 := sort_ge hs i _ (List.getElem?_eq_getElem (show i < L.length by omega))
    have h2 := hs i (i + 1) _ x (by omega) (List.getElem?_eq_getElem (show i < L.length by omega)) hx
    omega
theorem sort_len {L : List (Nat × Nat)} {N : Nat} (hs : SortH L) (hd : ∀ x, x ∈ L → x.1 < N) : L.length ≤ N := by
  by_cases h : L.length = 0
  · omega
  · have hi : L.length - 1 < L.length := by omega
    have h1 := sort_ge hs _ _ (List.getElem?_eq_getElem hi)
    have h2 := hd _ (List.getElem_mem hi)
    omega
theorem SM.len {w : World} {t : Nat} {D : SD} {N : Nat} {X Y : Nat → Int} {O : Nat → List (Nat × Nat)} {n : Int} (h : SM w t D N X Y O n) (a : Nat) (ha : a < N) : (O a).length < 100000 := by
  have := sort_len (h.sort a ha) (fun x hx => (h.dom a ha x hx).1)
  have := h.small
  omega
def hasI (N : Nat) (a : Int) : Bool := decide (0 ≤ a) && decide (a < N)
set_option maxRecDepth 100000 in
set_option maxHeartbeats 1000000 in
theorem has_is (t : Nat) (D : SD) (N : Nat) (X Y : Nat → Int) (O : Nat → List (Nat × Nat)) (n a : Int) (w : World) (h : SM w t D N X Y O n) :
    Calls Try.prog 51 #[ptr t 0, .int .i64 a] w fun e w' => e = .returned (.bool (hasI N a)) ∧ Below w.heap.size w w' := by
  obtain ⟨c0, c1, c2⟩ := h.c
  have hs := h.small
  clear h
  by_cases h1 : 0 ≤ a <;> by_cases h2 : a < N
  all_goals
    go_enter Try.func51, Try.ntmps51
    go_wp2
    go_ret
    exact ⟨by unfold hasI; simp [h1, h2], Below.refl _ _⟩
set_option maxRecDepth 100000 in
theorem Len_is (t : Nat) (D : SD) (N : Nat) (X Y : Nat → Int) (O : Nat → List (Nat × Nat)) (n : Int) (w : World) (h : SM w t D N X Y O n) :
    Calls Try.prog 30 #[ptr t 0] w fun e w' => e = .returned (.int .i64 n) ∧ Below w.heap.size w w' := by
  obtain ⟨c0, c1, c2⟩ := h.c
  clear h
  go_enter Try.func30, Try.ntmps30
  go_wp2
  go_ret
  exact ⟨rfl, Below.refl _ _⟩
/-- the third corner of a side of a vertex -/
def lookH (L : List (Nat × Nat)) (b : Int) : Option Nat := (L.find? fun x => decide ((x.1 : Int) = b)).map (·.2)
def leftO (N : Nat) (O : Nat → List (Nat × Nat)) (a b : Int) : Option Nat := if 0 ≤ a ∧ a < N then lookH (O a.toNat) b else none
theorem lookH_some {L : List (Nat × Nat)} (hs : SortH L) {i : Nat} {x : Nat × Nat} {b : Int} (hx : L[i]? = some x) (hb : (x.1 : Int) = b) : lookH L b = some x.2 := by
  unfold lookH
  have hi : i < L.length := (List.getElem?_eq_some_iff.1 hx).1
  have : L.find? (fun x => decide ((x.1 : Int) = b)) = some x := by
    rw [List.find?_eq_some_iff_getElem]
    refine ⟨by simpa using hb, i, hi, (List.getElem?_eq_some_iff.1 hx).2, fun j hj => ?_⟩
    have h3 := hs j i _ x hj (List.getElem?_eq_getElem (by omega)) hx
    simp; omega
  rw [this]; rfl
theorem lookH_none {L : List (Nat × Nat)} {b : Int} (h : ∀ x, x ∈ L → (x.1 : Int) ≠ b) : lookH L b = none := by
  unfold lookH
  have : L.find? (fun x => decide ((x.1 : Int) = b)) = none := by
    rw [List.find?_eq_none]; intro x hx; simpa using h x hx
  rw [this]; rfl
end Go.Proofs.Ytdlpfiiakmhnlaa

namespace Go.Proofs.Ytdlpfiiakmhnlaa
open Go.RowKit

set_option maxRecDepth 100000 in
set_option maxHeartbeats 2000000 in
theorem Left_is (t : Nat) (D : SD) (N : Nat) (X Y : Nat → Int) (O : Nat → List (Nat × Nat)) (n a b : Int) (w : World) (h : SM w t D N X Y O n) (R : Option Nat) (hR : leftO N O a b = R) :
    Calls Try.prog 21 #[ptr t 0, .int .i64 a, .int .i64 b] w fun e w' => e = .returned (.tuple #[.int .i64 (R.getD 0 : Nat), .bool R.isSome]) ∧ Below w.heap.size w w' := by
 have HM := Lib.hid h
 have HR := Lib.hid hR
 clear h hR
 go_enter Try.func21, Try.ntmps21
 go_wp2_with fail
 refine (has_is t D N X Y O n a w HM.out).mono ?_
 rintro e W1 ⟨rfl, hb1⟩
 have HM1 := Lib.hid (HM.out.of hb1)
 clear HM
 by_cases ha : 0 ≤ a ∧ a < N
 ·obtain ⟨a', rfl⟩ : ∃ a' : Nat, a = a' := ⟨a.toNat, by omega⟩
  have haN : a' < N := by omega
  have hh : hasI N (a' : Int) = true := by unfold hasI; simp; omega
  have hle : leftO N O (a' : Int) b = lookH (O a') b := by unfold leftO; rw [if_pos ha]; rfl
  rw [hh]
  have HLE := Lib.hid hle
  clear hle
  have HROW := Lib.hid (HM1.out.rows a' haN)
  have HSR := Lib.hid (HM1.out.sort a' haN)
  obtain ⟨c0, c1, c2⟩ := HM1.out.c
  have cr := HM1.out.row haN
  have hsm := HM1.out.small
  have hln := HM1.out.len a' haN
  obtain ⟨ao, cap, hv, hc1, hc2, hc3⟩ := HROW.out.val
  have HC3 := Lib.hid hc3
  rw [hv] at cr HROW
  clear hh hc3
  go_wp2_with fail
  refine (Find_h 0 _ (O a') b 0 W1 HROW.out HSR.out hln).mono ?_
  rintro e W2 ⟨i, ok, rfl, hb2, hi, hj, hok⟩
  have hbb := hb1.trans (hb2.mono hb1.size)
  have HM2 := Lib.hid (HM1.out.of hb2)
  cases ok
  ·have hno : lookH (O a') b = none := by
    refine lookH_none fun x hx hxb => ?_
    obtain ⟨j, hjl, hje⟩ := List.getElem_of_mem hx
    have hjx : (O a')[j]? = some x := by rw [List.getElem?_eq_getElem hjl, hje]
    have h4 := hj j x hjx
    by_cases hji : j < i
    ·have := h4.1 hji; omega
    ·have hil : i < (O a').length := by omega
     have h5 := hj i _ (List.getElem?_eq_getElem hil)
     by_cases e : i = j
     ·subst e
      exact absurd (hok.2 ⟨x, hjx, hxb⟩) (by simp)
     ·have h6 := HSR.out i j _ x (by omega) (List.getElem?_eq_getElem hil) hjx
      have h7 := h5.2 (Nat.le_refl _)
      omega
   obtain rfl : R = none := by rw [← HR.out, HLE.out]; exact hno
   clear hj hok hno HC3 HSR HROW c0 c1 c2 cr hv
   go_wp2
   simp [bodyPost, results, Try.results21, go_sem]
   exact hbb
  ·obtain ⟨x, hx, hxb⟩ := hok.1 rfl
   have hso := lookH_some HSR.out hx hxb
   have hil : i < (O a').length := (List.getElem?_eq_some_iff.1 hx).1
   obtain ⟨g, rfl, _, hgl, hcell⟩ := HC3.out (by omega)
   have hcx := hcell i x hx
   obtain ⟨xt, xc⟩ := x
   have p0 : W2.cell? ⟨g, i * 2, none⟩ = some (.int .i64 (xt : Int)) := (hb2.cell (p := ⟨g, i * 2, none⟩) hgl).trans hcx.1
   have p1 : W2.cell? ⟨g, i * 2 + 1, none⟩ = some (.int .i64 (xc : Int)) := (hb2.cell (p := ⟨g, i * 2 + 1, none⟩) hgl).trans hcx.2
   obtain rfl : R = some xc := by rw [← HR.out, HLE.out]; exact hso
   clear hj hok hx hxb hso HC3 HSR HROW c0 c1 c2 cr hcell hcx
   obtain ⟨c0, c1, c2⟩ := HM2.out.c
   have cr := HM2.out.row haN
   rw [hv] at cr
   clear hv
   go_wp2
   simp [bodyPost, results, Try.results21, go_sem]
   exact hbb
 ·have hh : hasI N a = false := by unfold hasI; simp; omega
  have hle : leftO N O a b = none := by unfold leftO; rw [if_neg ha]
  obtain rfl : R = none := by rw [← HR.out]; exact hle
  rw [hh]
  clear hh hle HM1
  go_wp2
  simp [bodyPost, results, Try.results21, go_sem]
  exact hb1
end Go.Proofs.Ytdlpfiiakmhnlaa

namespace Go.Proofs.Ytdlpfiiakmhnlaa
open Go.RowKit

/-- a half put in its place -/
def insH (b c : Nat) : List (Nat × Nat) → List (Nat × Nat)
  | [] => [(b, c)]
  | x :: l => if x.1 < b then x :: insH b c l else (b, c) :: x :: l
theorem insH_at (b c : Nat) : ∀ (L : List (Nat × Nat)) (i : Nat), i ≤ L.length → (∀ (j : Nat) (x : Nat × Nat), L[j]? = some x → (j < i → (x.1 : Int) < (b : Int)) ∧ (i ≤ j → (b : Int) ≤ (x.1 : Int))) → L.take i ++ (b, c) :: L.drop i = insH b c L
  | [], i, hi, _ => by
    have : i = 0 := by simpa using hi
    subst this; rfl
  | x :: l, 0, _, h => by
    have := (h 0 x rfl).2 (Nat.le_refl _)
    show (b, c) :: x :: l = if x.1 < b then _ else _
    rw [if_neg (by omega)]
  | x :: l, i + 1, hi, h => by
    have h0 := (h 0 x rfl).1 (by omega)
    show x :: (l.take i ++ (b, c) :: l.drop i) = if x.1 < b then x :: insH b c l else _
    rw [if_pos (by omega), insH_at b c l i (by simpa using hi) (fun j y hy => ?_)]
    have := h (j + 1) y (by simpa using hy)
    exact ⟨fun hj => this.1 (by omega), fun hj => this.2 (by omega)⟩
theorem insH_len (b c : Nat) : ∀ L, (insH b c L).length = L.length + 1
  | [] => rfl
  | x :: l => by
    show (if x.1 < b then x :: insH b c l else _).length = _
    split
    · show (insH b c l).length + 1 = _; rw [insH_len b c l]; rfl
    · rfl
theorem mem_insH {b c : Nat} {x : Nat × Nat} : ∀ {L}, x ∈ insH b c L ↔ x = (b, c) ∨ x ∈ L
  | [] => by simp [insH]
  | y :: l => by
    unfold insH
    split
    · rw [List.mem_cons, mem_insH (L := l), List.mem_cons]
      constructor
      · rintro (h | h | h)
        · exact .inr (.inl h)
        · exact .inl h
        · exact .inr (.inr h)
      · rintro (h | h | h)
        · exact .inr (.inl h)
        · exact .inl h
        · exact .inr (.inr h)
    · rw [List.mem_cons]
theorem sortH_pair {L : List (Nat × Nat)} : SortH L ↔ L.Pairwise fun x y => x.1 < y.1 := by
  rw [List.pairwise_iff_getElem]
  constructor
  · intro h i j hi hj hij
    exact h i j _ _ hij (List.getElem?_eq_getElem hi) (List.getElem?_eq_getElem hj)
  · intro h j k x y hjk hx hy
    obtain ⟨h1, rfl⟩ := List.getElem?_eq_some_iff.1 hx
    obtain ⟨h2, rfl⟩ := List.getElem?_eq_some_iff.1 hy
    exact h j k h1 h2 hjk
theorem insH_sort {b c : Nat} : ∀ {L}, SortH L → (∀ x, x ∈ L → x.1 ≠ b) → SortH (insH b c L)
  | [], _, _ => by rw [sortH_pair]; exact List.pairwise_singleton _ _
  | x :: l, h, hn => by
    rw [sortH_pair] at h ⊢
    have hc := List.pairwise_cons.1 h
    unfold insH
    split
    · rename_i hlt
      refine List.pairwise_cons.2 ⟨fun y hy => ?_, sortH_pair.1 (insH_sort (sortH_pair.2 hc.2) fun y hy => hn y (List.mem_cons_of_mem _ hy))⟩
      rcases mem_insH.1 hy with rfl | hy
      · exact hlt
      · exact hc.1 y hy
    · rename_i hge
      have hx := hn x (List.mem_cons_self ..)
      refine List.pairwise_cons.2 ⟨fun y hy => ?_, h⟩
      show b < y.1
      rcases List.mem_cons.1 hy with rfl | hy
      · omega
      · have := hc.1 y hy; omega
theorem lookH_absent {L : List (Nat × Nat)} {b : Nat} (h : lookH L b = none) : ∀ x, x ∈ L → x.1 ≠ b := by
  intro x hx e
  unfold lookH at h
  rw [Option.map_eq_none_iff, List.find?_eq_none] at h
  have := h x hx
  simp at this; omega
theorem lookH_ins {L : List (Nat × Nat)} {b c d : Nat} (hs : SortH L) (h : lookH L b = none) : lookH (insH b c L) d = if d = b then some c else lookH L d := by
  have hso := insH_sort (c := c) hs (lookH_absent h)
  by_cases e : d = b
  · subst e
    rw [if_pos rfl]
    have hm : (d, c) ∈ insH d c L := mem_insH.2 (.inl rfl)
    obtain ⟨i, hi, hx⟩ := List.getElem_of_mem hm
    exact lookH_some hso (i := i) (x := (d, c)) (by rw [List.getElem?_eq_getElem hi, hx]) rfl
  · rw [if_neg e]
    cases hl : L.find? (fun x => decide ((x.1 : Int) = (d : Int))) with
    | none =>
      have h1 : lookH L d = none := by unfold lookH; rw [hl]; rfl
      rw [h1]
      refine lookH_none fun x hx hxd => ?_
      rcases mem_insH.1 hx with rfl | hx
      · exact e (by omega)
      · exact lookH_absent h1 x hx (by omega)
    | some y =>
      have h1 : lookH L d = some y.2 := by unfold lookH; rw [hl]; rfl
      have hy := List.find?_some hl
      have hym := List.mem_of_find?_eq_some hl
      have hm : y ∈ insH b c L := mem_insH.2 (.inr hym)
      obtain ⟨i, hi, hx⟩ := List.getElem_of_mem hm
      rw [h1]
      exact lookH_some hso (i := i) (x := y) (by rw [List.getElem?_eq_getElem hi, hx]) (by simpa using hy)
/-- one side put in -/
def put1 (O : Nat → List (Nat × Nat)) (a b c : Nat) : Nat → List (Nat × Nat) := fun v => if v = a then insH b c (O a) else O v
def putT (O : Nat → List (Nat × Nat)) (a b c : Nat) : Nat → List (Nat × Nat) := put1 (put1 (put1 O a b c) b c a) c a b
abbrev tI (a b c : Int) : Value := .agg #[.int .i64 a, .int .i64 b, .int .i64 c]
abbrev sI (a b c : Int) : Value := .agg #[.int .i64 a, .int .i64 b, .int .i64 c, .int .i64 b, .int .i64 c, .int .i64 a, .int .i64 c, .int .i64 a, .int .i64 b]
set_option maxRecDepth 100000 in
set_option maxHeartbeats 1000000 in
theorem sides_is (a b c : Int) (w : World) : Calls Try.prog 50 #[tI a b c] w fun e w' => e = .returned (sI a b c) ∧ Below w.heap.size w w' := by
  go_enter Try.func50, Try.ntmps50
  go_wp2
  simp [bodyPost, results, Try.results50, go_sem]
  exact below_a2 _ _ _
set_option maxRecDepth 100000 in
theorem side_at (a b c : Int) (k : Nat) (hk : k < 3) (w : World) : Sem.run Try.prog (Instr.index 96 (sI a b c) (.int .i64 k)) w = .ok (if k = 0 then tI a b c else if k = 1 then tI b c a else tI c a b) w := by
  rcases (show k = 0 ∨ k = 1 ∨ k = 2 by omega) with rfl | rfl | rfl <;> kernel_rfl
theorem SM.rowne {w : World} {t : Nat} {D : SD} {N : Nat} {X Y : Nat → Int} {O : Nat → List (Nat × Nat)} {n : Int} (h : SM w t D N X Y O n) {a : Nat} (ha : a < N) {g : Nat} (hg : (D.V a).ownBlock = some g) : g ≠ t ∧ g ≠ D.ob ∧ g < w.heap.size := by
  refine ⟨fun e => ?_, fun e => ?_, (h.rows a ha).lt hg⟩
  · subst e; exact absurd ((h.rows a ha).typ hg h.blk) (by decide)
  · obtain ⟨cur, hc, _⟩ := h.out
    subst e; exact absurd ((h.rows a ha).typ hg hc) (by decide)
/-- a row of the store is set anew -/
theorem SM.set {w w1 w2 : World} {t : Nat} {D : SD} {N : Nat} {X Y : Nat → Int} {O : Nat → List (Nat × Nat)} {n : Int} (h : SM w t D N X Y O n) {a : Nat} (ha : a < N) {v' : Value} {L' : List (Nat × Nat)}
    (hr : HRow w1 0 v' L') (hg : w.grownBy w1 (D.V a).ownBlock) (hl : ∀ g, v'.ownBlock = some g → (D.V a).ownBlock = some g ∨ w.heap.size ≤ g) (hw2 : w2 = w1.setCell ⟨D.ob, a, none⟩ v')
    (hd : ∀ x, x ∈ L' → x.1 < N ∧ x.2 < N) (hs : SortH L') :
    ∃ D' : SD, SM w2 t D' N X Y (fun v => if v = a then L' else O v) n ∧ Fr w w2 (D.has t N) ∧ (∀ g, D'.has t N g → D.has t N g ∨ w.heap.size ≤ g) ∧ D'.po = D.po := by
 obtain ⟨cur, hc, hcur⟩ := h.out
 have hob := (Array.getElem?_eq_some_iff.1 hc).1
 have hfg : Fr w w1 (fun b => (D.V a).ownBlock = some b) := ⟨hg.os, hg.tape, hg.output, hg.size, fun k hk hn => hg.block k hk (fun e => hn e.symm)⟩
 have hrow : ∀ b, b < N → ∀ g, (D.V b).ownBlock = some g → g ≠ D.ob ∧ g ≠ t ∧ g < w.heap.size := by
  intro b hb g hgg
  have hlt := (h.rows b hb).lt hgg
  rcases (h.rows b hb).2 with ⟨e, _⟩ | ⟨g', cap, cur', e, _, hh, _⟩
  ·rw [e] at hgg; cases hgg
  ·rw [e] at hgg; cases hgg
   refine ⟨fun e => ?_, fun e => ?_, hlt⟩
   ·have e' : g' = D.ob := e
    rw [e', hc] at hh; injection hh with hh; injection hh with _ h3; exact absurd h3 (by decide)
   ·have hb := h.blk
    have e' : g' = t := e
    rw [e'] at hh
    rw [show w.heap[t]? = _ from hb] at hh; injection hh with hh; injection hh with _ h3; exact absurd h3 (by decide)
 have hobt : D.ob ≠ t := by
  intro e
  have hb := h.blk
  rw [e, show w.heap[t]? = _ from hb] at hc; injection hc with hc; injection hc with _ h3; exact absurd h3 (by decide)
 have hna : ∀ g, (D.V a).ownBlock = some g → g ≠ D.ob := fun g hgg => (hrow a ha g hgg).1
 have hc1 : w1.heap[D.ob]? = some (.cells cur 103 (0, 0)) := (hfg.block _ hob (fun e => hna _ e rfl)).trans hc
 have hcs : a < cur.size := by
  have := hcur a ha
  exact (Array.getElem?_eq_some_iff.1 this).1
 have hc2 : w2.heap[D.ob]? = some (.cells (cur.setIfInBounds a v') 103 (0, 0)) := by
  rw [hw2, setCell_eq_setRow w1 D.ob a cur _ _ v' hc1]
  exact setRow_heap w1 D.ob cur _ _ _ hc1
 have hoth : ∀ k, k ≠ D.ob → w2.heap[k]? = w1.heap[k]? := fun k hk => by rw [hw2]; exact Below.heap_setCell w1 ⟨D.ob, a, none⟩ v' k hk
 have hsz : w2.heap.size = w1.heap.size := by rw [hw2]; simp [World.setCell]
 have hf2 : Fr w w2 (D.has t N) := by
  refine ⟨by rw [hw2]; exact hg.os, by rw [hw2]; exact hg.tape, by rw [hw2]; exact hg.output, by rw [hsz]; exact hg.size, fun k hk hn => ?_⟩
  rw [hoth k (fun e => hn (.inr (.inl e)))]
  exact hfg.block k hk (fun e => hn (.inr (.inr ⟨a, ha, e⟩)))
 have hvob : ∀ g, v'.ownBlock = some g → g ≠ D.ob := by
  intro g hgg
  rcases hl g hgg with h4 | h4
  ·exact hna g h4
  ·omega
 obtain ⟨D', hpo, hpc, hob', hoc, hV1, hV2⟩ : ∃ D' : SD, D'.po = D.po ∧ D'.pc = D.pc ∧ D'.ob = D.ob ∧ D'.oc = D.oc ∧ D'.V a = v' ∧ ∀ b, b ≠ a → D'.V b = D.V b :=
  ⟨⟨D.po, D.pc, D.ob, D.oc, fun v => if v = a then v' else D.V v⟩, rfl, rfl, rfl, rfl, if_pos rfl, fun b hb => if_neg hb⟩
 obtain ⟨O', hO, hO1, hO2⟩ : ∃ O', O' = (fun v => if v = a then L' else O v) ∧ O' a = L' ∧ ∀ b, b ≠ a → O' b = O b := ⟨_, rfl, if_pos rfl, fun b hb => if_neg hb⟩
 rw [← hO]
 have hhas : ∀ g, D'.has t N g → D.has t N g ∨ w.heap.size ≤ g := by
  rintro g (hh | hh | ⟨b, hb, hh⟩)
  ·exact .inl (.inl hh)
  ·exact .inl (.inr (.inl (hh.trans hob')))
  ·by_cases e : b = a
   ·rw [e, hV1] at hh
    rcases hl g hh with h4 | h4
    ·exact .inl (.inr (.inr ⟨a, ha, h4⟩))
    ·exact .inr h4
   ·rw [hV2 b e] at hh; exact .inl (.inr (.inr ⟨b, hb, hh⟩))
 refine ⟨D', ⟨?_, ?_, ?_, ?_, by rw [hoc]; exact h.ocl, by rw [hoc]; exact h.och, ?_, ?_, h.small, ?_, ?_⟩, hf2, hhas, hpo⟩
 ·rw [hpo, hpc, hob', hoc]
  have hb1 : Blk w1 t _ _ := hfg.blk h.blk (fun e => (hrow a ha t e).2.1 rfl)
  exact (hoth t hobt.symm).trans hb1
 ·rw [hpo, hpc]; exact h.pts.fr hf2 h.pne
 ·rw [hpo]
  intro h0
  obtain ⟨p, cu, h1, h2⟩ := h.pty h0
  exact ⟨p, cu, h1, (hf2.block _ (Array.getElem?_eq_some_iff.1 h2).1 (h.pne p h1 h0)).trans h2⟩
 ·rw [hob']
  refine ⟨_, hc2, fun b hb => ?_⟩
  by_cases e : b = a
  ·rw [e, hV1, Array.getElem?_setIfInBounds]; simp [hcs]
  ·rw [hV2 b e, Array.getElem?_setIfInBounds_ne (by omega)]; exact hcur b hb
 ·intro b hb
  have hf12 : Fr w1 w2 (fun k => k = D.ob) := ⟨by rw [hw2]; rfl, by rw [hw2]; rfl, by rw [hw2]; rfl, by rw [hsz]; exact Nat.le_refl _, fun k _ hn => hoth k hn⟩
  by_cases e : b = a
  ·rw [e, hV1, hO1]
   exact hr.fr hf12 hvob
  ·rw [hV2 b e, hO2 b e]
   have h1 : HRow w1 0 (D.V b) (O b) := (h.rows b hb).fr hfg fun g hgg e2 => h.apart b a g hb ha e hgg e2
   exact h1.fr hf12 fun g hgg => (hrow b hb g hgg).1
 ·intro b b' g hb hb' hne hgg hgg'
  by_cases e : b = a
  ·have e' : b' ≠ a := fun e' => hne (e.trans e'.symm)
   rw [e, hV1] at hgg
   rw [hV2 b' e'] at hgg'
   rcases hl g hgg with h4 | h4
   ·exact h.apart a b' g ha hb' (fun h5 => e' h5.symm) h4 hgg'
   ·have := (hrow b' hb' g hgg').2.2; omega
  ·rw [hV2 b e] at hgg
   by_cases e' : b' = a
   ·rw [e', hV1] at hgg'
    rcases hl g hgg' with h4 | h4
    ·exact h.apart b a g hb ha e hgg h4
    ·have := (hrow b hb g hgg).2.2; omega
   ·rw [hV2 b' e'] at hgg'
    exact h.apart b b' g hb hb' hne hgg hgg'
 ·intro b hb x hx
  by_cases e : b = a
  ·rw [e, hO1] at hx; exact hd x hx
  ·rw [hO2 b e] at hx; exact h.dom b hb x hx
 ·intro b hb
  by_cases e : b = a
  ·rw [e, hO1]; exact hs
  ·rw [hO2 b e]; exact h.sort b hb
end Go.Proofs.Ytdlpfiiakmhnlaa

namespace Go.Proofs.Ytdlpfiiakmhnlaa
open Go.RowKit

section
variable {P : Program} {ops : Array Oper} {C : World → Prop} {Q : Exit → Act → World → Prop}
theorem nil_value {o : Oper} {x : Operand} {ρ : Operand → Value} {w w' : World} {n : Next} (hp : o.op = .nilCheck x) (h : (execOp ρ o).run P w = .ok n w') : ∃ v, n = .value v := by
  unfold execOp at h
  rw [hp] at h
  dsimp only at h
  split at h
  · simp [runtimePanic] at h
  · simp [runtimePanic] at h
  · simp [runtimePanic] at h
  · split at h
    · simp [runtimePanic] at h
    · simp only [Sem.run_bind] at h
      cases h1 : Sem.run P program w with
      | halt y w1 => rw [h1] at h; simp [Result.andThen] at h
      | ok p w1 =>
        rw [h1] at h
        simp only [Result.andThen] at h
        cases h2 : Sem.run P (nilAhead (p.types.size + Made.depth) _ _ _) w1 with
        | halt y w2 => rw [h2] at h; simp at h
        | ok b w2 =>
          rw [h2] at h
          simp only at h
          split at h
          · simp [unsupported, Result.andThen] at h
          · exact ⟨_, ((Result.ok.inj h).1).symm⟩
    · exact ⟨_, ((Result.ok.inj h).1).symm⟩
  · exact ⟨_, ((Result.ok.inj h).1).symm⟩
theorem nil_yields {o : Oper} {x : Operand} {a : Act} {v : Value} (hp : o.op = .nilCheck x) (h : ∀ w, C w → o.quietAt P a C w v) : ∀ w, C w → (execOp a.eval o).run P w = .ok (.value v) w := by
  intro w hw
  have h3 := h w hw
  unfold Oper.quietAt at h3
  cases hr : (execOp a.eval o).run P w with
  | ok n w' =>
    rw [hr] at h3
    obtain ⟨u, rfl⟩ := nil_value hp hr
    simp only [Oper.quietUpon] at h3
    rw [h3.1, h3.2]
  | halt x w' => rw [hr] at h3; simp only [Oper.quietUpon] at h3
theorem wpS_takeN {l : List Oper} {T : Act → World → Prop} {σ : List (Bool × Nat)} {i : Nat} {o : Oper} {a : Act} {w : World} (ho : l[i]? = some o) (hp : ∃ x, o.op = .nilCheck x)
    (h : wpQuiet P l.toArray C (fun a' => wpS P l.toArray C Q T σ a' w) [o] a) : wpS P l.toArray C Q T ((true, i) :: σ) a w := by
  obtain ⟨x, hx⟩ := hp
  have ho' : l.toArray[i]? = some o := by simpa using ho
  unfold wpQuiet at h
  by_cases hw : Region.wanted o (yielded l.toArray a.tmps) = true
  · rw [if_pos hw] at h
    obtain ⟨v, h1, h2⟩ := h
    exact ⟨o, v, ho', .inl ⟨hw, nil_yields hx h1⟩, h2⟩
  · rw [if_neg hw] at h
    exact ⟨o, undef, ho', .inr ⟨by simpa using hw, rfl⟩, h⟩
end
end Go.Proofs.Ytdlpfiiakmhnlaa

namespace Go.Proofs.Ytdlpfiiakmhnlaa
open Go.RowKit

structure OutL (l : List Nat) (W w' : World) : Prop where
  os : w'.os = W.os
  tape : w'.tape = W.tape
  output : w'.output = W.output
  size : W.heap.size ≤ w'.heap.size
  block : ∀ k, k < W.heap.size → k ∉ l → w'.heap[k]? = W.heap[k]?
theorem OutL.refl (l : List Nat) (W : World) : OutL l W W := ⟨rfl, rfl, rfl, Nat.le_refl _, fun _ _ _ => rfl⟩
theorem OutL.ofBelow {l : List Nat} {w w' : World} (h : Below w.heap.size w w') : OutL l w w' := ⟨h.os, h.tape, h.output, h.size, fun k hk _ => h.block k hk⟩
theorem OutL.trans {l : List Nat} {W w w' : World} (h : OutL l W w) (h' : OutL l w w') : OutL l W w' :=
  ⟨h'.os.trans h.os, h'.tape.trans h.tape, h'.output.trans h.output, Nat.le_trans h.size h'.size, fun k hk hc => (h'.block k (Nat.lt_of_lt_of_le hk h.size) hc).trans (h.block k hk hc)⟩
theorem OutL.mono {l l' : List Nat} {W w : World} (h : OutL l W w) (hl : ∀ k, k < W.heap.size → k ∈ l → k ∈ l') : OutL l' W w :=
  ⟨h.os, h.tape, h.output, h.size, fun k hk hc => h.block k hk fun hm => hc (hl k hk hm)⟩
theorem OutL.set {l : List Nat} {W w : World} (h : OutL l W w) {b : Nat} (hb : b ∈ l) (o : Nat) (s : Option Nat) (v : Value) : OutL l W (w.setCell ⟨b, o, s⟩ v) :=
  ⟨h.os, h.tape, h.output, by simpa [World.setCell] using h.size, fun k hk hc => (Below.heap_setCell _ _ _ _ (fun e => hc (by have : k = b := e; rw [this]; exact hb))).trans (h.block k hk hc)⟩
theorem OutL.alloc {l : List Nat} {W w : World} (h : OutL l W w) (o : Obj) : OutL l W (w.alloc o) := h.trans (.ofBelow ((Below.refl _ _).alloc (Nat.le_refl _) o))
theorem OutL.drew {l : List Nat} {W w : World} (h : OutL l W w) : OutL l W w.drew := h.trans (.ofBelow (Below.refl _ _).drew)
theorem OutL.below {l : List Nat} {B : Nat} {W w : World} (h : OutL l W w) (hB : B ≤ W.heap.size) (hl : ∀ k ∈ l, B ≤ k) : Below B W w :=
  ⟨h.os, h.tape, h.output, h.size, fun k hk => h.block k (by omega) fun hm => by have := hl k hm; omega⟩
def UpL (l : List Nat) (W : World) : Type := { w' : World // OutL l W w' }
def UpL.w {l : List Nat} {W : World} (u : UpL l W) : World := u.1
@[go_sem] theorem UpL.cell {l : List Nat} {W : World} (u : UpL l W) (b o : Nat) (h : b < W.heap.size) (hc : b ∉ l) : u.w.cell? ⟨b, o, none⟩ = W.cell? ⟨b, o, none⟩ :=
  World.cell?_of_block (w := W) (u.2.block b h hc)
theorem upl {l : List Nat} {W w' : World} (h : OutL l W w') : ∃ u : UpL l W, w' = u.w := ⟨⟨w', h⟩, rfl⟩
theorem wp_region_upl {P : Program} {Q : Exit → Act → World → Prop} {id : Nat} {a : Act} {w : World} {l : List Oper} (c : List Nat) (n : Nat) (σ : List (Bool × Nat)) (hm : P.follows .mixedOrders = true)
    (hB : (Region.noSelect l.toArray && headB .any l.toArray n && decide (σ.length = n) && decide (n ≤ l.length) && schedB .any l.toArray n σ (Array.replicate l.length false)) = true)
    (hQ : ∀ c a d v w, Q (.panic c) (Act.put a d v) w → Q (.panic c) a w)
    (h : wpS P l.toArray (fun w' => ∃ u : UpL c w, w' = u.w) Q (fun a' w' => wpList P l.toArray Q (l.drop n) a' w') σ a w.drew) : (Code.region id l.toArray true).wp P Q a w :=
  wp_region_sched n σ _ hm hB hQ (upl ((OutL.refl c w).drew)) h
end Go.Proofs.Ytdlpfiiakmhnlaa

namespace Go.Proofs.Ytdlpfiiakmhnlaa
open Go.RowKit

theorem name_Kw {K : Act → World → Prop} {a : Act} {w : World} (h : ∀ W, W = w → K a W) : K a w := h w rfl
theorem SM.outf {w : World} {t : Nat} {D : SD} {N : Nat} {X Y : Nat → Int} {O : Nat → List (Nat × Nat)} {n : Int} (h : SM w t D N X Y O n) (a : Nat) : w.frozen? ⟨D.ob, a, none⟩ = false := by
  obtain ⟨cur, hc, _⟩ := h.out
  exact frozen_row hc a
/-- the number of triangles is set anew -/
theorem SM.setn {w : World} {t : Nat} {D : SD} {N : Nat} {X Y : Nat → Int} {O : Nat → List (Nat × Nat)} {n : Int} (h : SM w t D N X Y O n) (m : Int) : SM (w.setCell ⟨t, 2, none⟩ (.int .i64 m)) t D N X Y O m ∧ Fr w (w.setCell ⟨t, 2, none⟩ (.int .i64 m)) (fun b => b = t) := by
  have hf : Fr w (w.setCell ⟨t, 2, none⟩ (.int .i64 m)) (fun b => b = t) := ⟨rfl, rfl, rfl, by simp [World.setCell], fun k _ hn => Below.heap_setCell w ⟨t, 2, none⟩ _ k hn⟩
  obtain ⟨cur, hc, hcur⟩ := h.out
  have hobt : D.ob ≠ t := by
    intro e
    have hb := h.blk
    rw [e, show w.heap[t]? = _ from hb] at hc; injection hc with hc; injection hc with _ h3; exact absurd h3 (by decide)
  refine ⟨⟨h.blk.put 2 _, h.pts.fr hf (fun a ha h0 e => h.pne a ha h0 (.inl e)), fun h0 => by
    obtain ⟨a, cu, h1, h2⟩ := h.pty h0
    exact ⟨a, cu, h1, (hf.block _ (Array.getElem?_eq_some_iff.1 h2).1 (fun e => h.pne a h1 h0 (.inl e))).trans h2⟩, ⟨cur, (hf.block _ (Array.getElem?_eq_some_iff.1 hc).1 hobt).trans hc, hcur⟩, h.ocl, h.och, fun a ha => (h.rows a ha).fr hf fun g hg => (h.rowne ha hg).1, h.apart, h.small, h.dom, h.sort⟩, hf⟩
def OK (O : Nat → List (Nat × Nat)) (a b c : Nat) : Nat → Nat → List (Nat × Nat)
  | 0 => O
  | 1 => put1 O a b c
  | 2 => put1 (put1 O a b c) b c a
  | _ => putT O a b c
set_option maxRecDepth 100000 in
set_option maxHeartbeats 4000000 in
theorem put_is (t : Nat) (D : SD) (N : Nat) (X Y : Nat → Int) (O : Nat → List (Nat × Nat)) (n : Int) (a b c : Nat) (w : World) (h : SM w t D N X Y O n) (na : a < N) (nb : b < N) (nc : c < N) (hab : a ≠ b) (hbc : b ≠ c) (hac : a ≠ c)
    (f1 : lookH (O a) b = none) (f2 : lookH (O b) c = none) (f3 : lookH (O c) a = none) (hn : 0 ≤ n ∧ n < 1000000000) :
    Calls Try.prog 72 #[ptr t 0, tI a b c] w fun e w' => e = .returned (.tuple #[]) ∧ ∃ D', SM w' t D' N X Y (putT O a b c) (n + 1) ∧ Fr w w' (D.has t N) ∧ (∀ g, D'.has t N g → D.has t N g ∨ w.heap.size ≤ g) ∧ D'.po = D.po := by
 have HM := Lib.hid h
 have HA0 : Hid (lookH (OK O a b c 0 a) b = none) := f1
 have HA1 : Hid (lookH (OK O a b c 1 b) c = none) := by
  refine Lib.hid ?_
  show lookH (if b = a then _ else O b) c = none
  rw [if_neg (fun e => hab e.symm)]; exact f2
 have HA2 : Hid (lookH (OK O a b c 2 c) a = none) := by
  refine Lib.hid ?_
  show lookH (if c = b then _ else if c = a then _ else O c) a = none
  rw [if_neg (fun e => hbc e.symm), if_neg (fun e => hac e.symm)]; exact f3
 clear h f1 f2 f3
 go_enter Try.func72, Try.ntmps72
 go_wp2_with fail
 refine calls_w ?_
 intro V hV
 have hb0 : Below w.heap.size w V := by rw [hV]; exact below_a1 _ _
 clear hV
 refine (sides_is a b c V).mono ?_
 rintro e W1 ⟨rfl, hn1⟩
 have hb1 := hb0.trans (hn1.mono hb0.size)
 have HM1 := Lib.hid (HM.out.of hb1)
 clear hn1 hb0
 go_wp2_with fail
 go_loopg [10] 3 (fun gk s10 wr => ∃ (k : Nat) (Dk : SD), s10 = .int .i64 k ∧ k ≤ 3 ∧ 3 - k ≤ gk ∧ Hid (SM wr t Dk N X Y (OK O a b c k) n) ∧ Hid (Fr w wr (D.has t N)) ∧ Hid (∀ g, Dk.has t N g → D.has t N g ∨ w.heap.size ≤ g) ∧ Dk.po = D.po)
 case atStart => exact ⟨0, D, rfl, by omega, by omega, HM1, Lib.hid (Fr.ofBelow hb1), Lib.hid fun g hg => .inl hg, rfl⟩
 case round =>
  clear HM1 hb1 HM
  obtain ⟨k, Dk, rfl, hk, hg, HM, HF, HH, hpo⟩ := hrel
  rcases (show k = 0 ∨ k = 1 ∨ k = 2 ∨ k = 3 by omega) with rfl | rfl | rfl | rfl
  ·have hix : ∀ w, Sem.run Try.prog (Instr.index 96 (sI a b c) (.int .i64 0)) w = .ok (tI a b c) w := fun w => side_at a b c 0 (by omega) w
   go_wp2_with fail
   refine name_world ?_
   intro W2 hW2
   have kt : Blk W2 wr.heap.size #[.int .i64 (a : Nat), .int .i64 (b : Nat), .int .i64 (c : Nat)] 36 := by rw [hW2]; exact Blk.new wr _ _
   have hbw : Below wr.heap.size wr W2 := by rw [hW2]; exact below_a1 wr _
   clear hW2
   have HM2 := Lib.hid (HM.out.of hbw)
   have HF2 := Lib.hid (HF.out.trans (Fr.ofBelow (S := fun _ => False) hbw) (fun b hb => hb.elim))
   have KT := Lib.hid kt
   have hsz2 : wr.heap.size ≤ W2.heap.size := hbw.size
   clear hbw kt HM HF
   obtain ⟨c0, c1, c2⟩ := HM2.out.c
   obtain ⟨v, hv⟩ : ∃ v, Dk.V a = v := ⟨_, rfl⟩
   have cr := HM2.out.row na
   have hrow := HM2.out.rows a na
   rw [hv] at cr hrow
   obtain ⟨ob, hob⟩ : ∃ ob, Dk.ob = ob := ⟨_, rfl⟩
   rw [hob] at cr c1
   have HROW := Lib.hid hrow
   have HSR := Lib.hid (HM2.out.sort a na)
   have hln := HM2.out.len a na
   have hsm := HM2.out.small
   have k0 := KT.out.cell 0
   have k1 := KT.out.cell 1
   have k2 := KT.out.cell 2
   have lt := HM2.out.lt (b := t) (.inl rfl)
   have lo : ob < W2.heap.size := by rw [← hob]; exact HM2.out.lt (.inr (.inl rfl))
   have lk := KT.out.lt
   have HV := Lib.hid (And.intro hv hob)
   clear hrow hv hob
   refine wp_region_up W2.heap.size 16 [(true, 0), (true, 1), (true, 2), (true, 3), (true, 4), (true, 5), (true, 6), (true, 7), (true, 8), (true, 9), (true, 10), (false, 11), (true, 12), (true, 13), (true, 14), (true, 15)] (by kernel_rfl) (by kernel_rfl) (fun _ _ d _ _ h => by cases d <;> exact h) ?_
   have hb : Below W2.heap.size W2 W2.drew := (Below.refl _ _).drew
   iterate 11
    first | refine wpS_takeL rfl rfl ?_ | refine wpS_takeN rfl ⟨_, rfl⟩ ?_
    go_big_quiet_step (rfl)
    refine wpQuiet_nil ?_
   refine wpS_doL rfl ?_
   intro K hK
   go_wp2_with ((go_at_call 52; (refine (Find_h 0 v ((OK O a b c 0) a) b 0 _ (HROW.out.of hb) HSR.out hln).mono ?_); rintro e w2 ⟨i, ok, rfl, hn, hi, hj, hok⟩))
   replace hb := hb.trans (hn.mono hb.size)
   refine hK.out _ _ (up_iff.2 hb) ?_
   clear hK K
   clear hn
   iterate 4
    first | refine wpS_takeL rfl rfl ?_ | refine wpS_takeN rfl ⟨_, rfl⟩ ?_
    go_big_quiet_step (rfl)
    refine wpQuiet_nil ?_
   refine wpS_nil ?_
   simp only [List.drop_succ_cons, List.drop_zero]
   have HJ := Lib.hid hj
   have HM4 := Lib.hid (HM2.out.of hb)
   have HF4 := Lib.hid (HF2.out.trans (Fr.ofBelow (S := fun _ => False) hb) (fun b hb => hb.elim))
   have HROW4 := Lib.hid (HROW.out.of hb)
   have KT4 := Lib.hid (KT.out.of hb)
   have hsz4 := Nat.le_trans hsz2 hb.size
   clear hb HM2 HF2 HROW KT c0 c1 c2 cr k0 k1 k2 lt lo lk hsz2 hj hok
   obtain ⟨c0, c1, c2⟩ := HM4.out.c
   have cr := HM4.out.row na
   rw [HV.out.2] at c1 cr
   rw [HV.out.1] at cr
   have k0 := KT4.out.cell 0
   have k1 := KT4.out.cell 1
   have k2 := KT4.out.cell 2
   have lt := HM4.out.lt (b := t) (.inl rfl)
   have lo : ob < w2.heap.size := by rw [← HV.out.2]; exact HM4.out.lt (.inr (.inl rfl))
   have lk := KT4.out.lt
   go_wp2_with fail
   obtain ⟨RL, hRL⟩ : ∃ RL, v.ownBlock.toList = RL := ⟨_, rfl⟩
   have hown : ∀ g, v.ownBlock = some g → g ≠ t ∧ g ≠ ob ∧ g ≠ wr.heap.size ∧ g < w2.heap.size := by
    intro g hgg
    obtain ⟨e1, e2, e3⟩ := HM4.out.rowne na (by rw [HV.out.1]; exact hgg)
    refine ⟨e1, by rw [← HV.out.2]; exact e2, fun e => ?_, e3⟩
    subst e
    exact absurd (HROW4.out.typ hgg KT4.out) (by decide)
   have nt : t ∉ RL := by rw [← hRL]; intro h; exact (hown t (by simpa using h)).1 rfl
   have no : ob ∉ RL := by rw [← hRL]; intro h; exact (hown ob (by simpa using h)).2.1 rfl
   have nk : wr.heap.size ∉ RL := by rw [← hRL]; intro h; exact (hown _ (by simpa using h)).2.2.1 rfl
   have HRL := Lib.hid hRL
   have HOWN := Lib.hid hown
   clear hRL hown
   refine wp_region_upl RL 22 [(true, 0), (true, 1), (true, 2), (true, 3), (true, 4), (true, 5), (true, 6), (true, 7), (true, 8), (true, 9), (true, 10), (true, 11), (true, 12), (true, 13), (true, 14), (true, 15), (true, 16), (true, 17), (true, 18), (true, 19), (false, 20), (false, 21)] (by kernel_rfl) (by kernel_rfl) (fun _ _ d _ _ h => by cases d <;> exact h) ?_
   have hb : OutL RL w2 w2.drew := (OutL.refl _ _).drew
   iterate 20
    first | refine wpS_takeL rfl rfl ?_ | refine wpS_takeN rfl ⟨_, rfl⟩ ?_
    go_big_quiet_step (rfl)
    refine wpQuiet_nil ?_
   refine wpS_doL rfl ?_
   intro K hK
   go_wp2_with fail
   refine name_Kw ?_
   intro Wx hWx
   have kx : Blk Wx w2.heap.size #[.int .i64 (b : Nat), .int .i64 (c : Nat)] 102 := by rw [hWx]; exact Blk.new w2.drew _ _
   have hbx : Below w2.heap.size w2 Wx := by rw [hWx]; exact ((Below.refl _ _).drew).alloc (by simp) _
   have hsx : Wx.heap.size = w2.heap.size + 1 := by rw [hWx]; simp
   refine hK.out _ _ (upl (OutL.ofBelow hbx)) ?_
   clear hK K
   have HM5 := Lib.hid (HM4.out.of hbx)
   have HROW5 := Lib.hid (HROW4.out.of hbx)
   have HKX := Lib.hid kx
   have hbo : OutL RL w2 Wx := OutL.ofBelow hbx
   clear hWx kx hb
   refine wpS_doL rfl ?_
   intro K hK
   go_wp2_with fail
   refine (Insert_h 0 v ((OK O a b c 0) a) i b c w2.heap.size Wx HROW5.out HKX.out (fun e => by have := (HOWN.out _ e).2.2.2; omega) hi hln (by omega)).mono ?_
   rintro e W5 ⟨v', rfl, hr5, hg5, hl5⟩
   obtain ⟨ao', cap', hv', _, _, _⟩ := hr5.val
   obtain ⟨nn, hnn⟩ : ∃ nn, (List.take i ((OK O a b c 0) a) ++ (b, c) :: List.drop i ((OK O a b c 0) a)).length = nn := ⟨_, rfl⟩
   rw [hnn] at hv'
   subst hv'
   clear hnn
   have hbo5 : OutL RL w2 W5 := hbo.trans ⟨hg5.os, hg5.tape, hg5.output, hg5.size, fun k hk hc => hg5.block k hk fun e => hc (by rw [← HRL.out, ← e]; simp)⟩
   go_wp2_with fail
   refine hK.out _ _ (upl hbo5) ?_
   clear hK K
   have hfc : w2.cell? ⟨ob, a, none⟩ = some v := cr
   have cr5 : W5.cell? ⟨ob, a, none⟩ = some v := (World.cell?_of_block (a := ⟨ob, a, none⟩) (hbo5.block ob lo no)).trans hfc
   have fr5 : W5.frozen? ⟨ob, a, none⟩ = false := (World.frozen?_of_block (a := ⟨ob, a, none⟩) (hbo5.block ob lo no)).trans (by rw [← HV.out.2]; exact HM4.out.outf a)
   have hin := SM.set HM5.out na (v' := .slice ao' nn cap') (L' := insH b c ((OK O a b c 0) a)) (w1 := W5) (by rw [← insH_at b c _ i hi HJ.out]; exact hr5) (by rw [HV.out.1]; exact hg5) (by rw [HV.out.1]; exact hl5) rfl (fun u hu => by
    rcases mem_insH.1 hu with rfl | hu
    ·exact ⟨nb, nc⟩
    ·exact HM5.out.dom a na u hu) (insH_sort HSR.out (lookH_absent HA0.out))
   rw [HV.out.2] at hin
   have HIN := Lib.hid hin
   have HFX := Lib.hid (HF4.out.trans (Fr.ofBelow (S := fun _ => False) hbx) (fun b hb => hb.elim))
   clear hin hbx hsx hbo hr5 hg5 hl5 hbo5 hfc c0 c1 c2 cr k0 k1 k2 lt lo lk nt no nk HJ HSR HM4 HM5 HROW4 HROW5 HKX HOWN HRL KT4 HF4 hi hln
   refine wpS_nil ?_
   simp only [List.drop_succ_cons, List.drop_zero]
   go_wp2_with fail
   go_roundg (2 - 0)
   case measure => omega
   case rel =>
    obtain ⟨D', h1, h2, h3, h4⟩ := HIN.out
    refine ⟨0 + 1, D', by rfl, by omega, by omega, Lib.hid h1, Lib.hid (HFX.out.trans h2 (fun b hb => ?_)), Lib.hid (fun g hgg => ?_), h4.trans hpo⟩
    ·exact HH.out b hb
    ·rcases h3 g hgg with h5 | h5
     ·exact HH.out g h5
     ·exact .inr (Nat.le_trans HFX.out.size h5)
  ·have hix : ∀ w, Sem.run Try.prog (Instr.index 96 (sI a b c) (.int .i64 1)) w = .ok (tI b c a) w := fun w => side_at a b c 1 (by omega) w
   go_wp2_with fail
   refine name_world ?_
   intro W2 hW2
   have kt : Blk W2 wr.heap.size #[.int .i64 (b : Nat), .int .i64 (c : Nat), .int .i64 (a : Nat)] 36 := by rw [hW2]; exact Blk.new wr _ _
   have hbw : Below wr.heap.size wr W2 := by rw [hW2]; exact below_a1 wr _
   clear hW2
   have HM2 := Lib.hid (HM.out.of hbw)
   have HF2 := Lib.hid (HF.out.trans (Fr.ofBelow (S := fun _ => False) hbw) (fun b hb => hb.elim))
   have KT := Lib.hid kt
   have hsz2 : wr.heap.size ≤ W2.heap.size := hbw.size
   clear hbw kt HM HF
   obtain ⟨c0, c1, c2⟩ := HM2.out.c
   obtain ⟨v, hv⟩ : ∃ v, Dk.V b = v := ⟨_, rfl⟩
   have cr := HM2.out.row nb
   have hrow := HM2.out.rows b nb
   rw [hv] at cr hrow
   obtain ⟨ob, hob⟩ : ∃ ob, Dk.ob = ob := ⟨_, rfl⟩
   rw [hob] at cr c1
   have HROW := Lib.hid hrow
   have HSR := Lib.hid (HM2.out.sort b nb)
   have hln := HM2.out.len b nb
   have hsm := HM2.out.small
   have k0 := KT.out.cell 0
   have k1 := KT.out.cell 1
   have k2 := KT.out.cell 2
   have lt := HM2.out.lt (b := t) (.inl rfl)
   have lo : ob < W2.heap.size := by rw [← hob]; exact HM2.out.lt (.inr (.inl rfl))
   have lk := KT.out.lt
   have HV := Lib.hid (And.intro hv hob)
   clear hrow hv hob
   refine wp_region_up W2.heap.size 16 [(true, 0), (true, 1), (true, 2), (true, 3), (true, 4), (true, 5), (true, 6), (true, 7), (true, 8), (true, 9), (true, 10), (false, 11), (true, 12), (true, 13), (true, 14), (true, 15)] (by kernel_rfl) (by kernel_rfl) (fun _ _ d _ _ h => by cases d <;> exact h) ?_
   have hb : Below W2.heap.size W2 W2.drew := (Below.refl _ _).drew
   iterate 11
    first | refine wpS_takeL rfl rfl ?_ | refine wpS_takeN rfl ⟨_, rfl⟩ ?_
    go_big_quiet_step (rfl)
    refine wpQuiet_nil ?_
   refine wpS_doL rfl ?_
   intro K hK
   go_wp2_with ((go_at_call 52; (refine (Find_h 0 v ((OK O a b c 1) b) c 0 _ (HROW.out.of hb) HSR.out hln).mono ?_); rintro e w2 ⟨i, ok, rfl, hn, hi, hj, hok⟩))
   replace hb := hb.trans (hn.mono hb.size)
   refine hK.out _ _ (up_iff.2 hb) ?_
   clear hK K
   clear hn
   iterate 4
    first | refine wpS_takeL rfl rfl ?_ | refine wpS_takeN rfl ⟨_, rfl⟩ ?_
    go_big_quiet_step (rfl)
    refine wpQuiet_nil ?_
   refine wpS_nil ?_
   simp only [List.drop_succ_cons, List.drop_zero]
   have HJ := Lib.hid hj
   have HM4 := Lib.hid (HM2.out.of hb)
   have HF4 := Lib.hid (HF2.out.trans (Fr.ofBelow (S := fun _ => False) hb) (fun b hb => hb.elim))
   have HROW4 := Lib.hid (HROW.out.of hb)
   have KT4 := Lib.hid (KT.out.of hb)
   have hsz4 := Nat.le_trans hsz2 hb.size
   clear hb HM2 HF2 HROW KT c0 c1 c2 cr k0 k1 k2 lt lo lk hsz2 hj hok
   obtain ⟨c0, c1, c2⟩ := HM4.out.c
   have cr := HM4.out.row nb
   rw [HV.out.2] at c1 cr
   rw [HV.out.1] at cr
   have k0 := KT4.out.cell 0
   have k1 := KT4.out.cell 1
   have k2 := KT4.out.cell 2
   have lt := HM4.out.lt (b := t) (.inl rfl)
   have lo : ob < w2.heap.size := by rw [← HV.out.2]; exact HM4.out.lt (.inr (.inl rfl))
   have lk := KT4.out.lt
   go_wp2_with fail
   obtain ⟨RL, hRL⟩ : ∃ RL, v.ownBlock.toList = RL := ⟨_, rfl⟩
   have hown : ∀ g, v.ownBlock = some g → g ≠ t ∧ g ≠ ob ∧ g ≠ wr.heap.size ∧ g < w2.heap.size := by
    intro g hgg
    obtain ⟨e1, e2, e3⟩ := HM4.out.rowne nb (by rw [HV.out.1]; exact hgg)
    refine ⟨e1, by rw [← HV.out.2]; exact e2, fun e => ?_, e3⟩
    subst e
    exact absurd (HROW4.out.typ hgg KT4.out) (by decide)
   have nt : t ∉ RL := by rw [← hRL]; intro h; exact (hown t (by simpa using h)).1 rfl
   have no : ob ∉ RL := by rw [← hRL]; intro h; exact (hown ob (by simpa using h)).2.1 rfl
   have nk : wr.heap.size ∉ RL := by rw [← hRL]; intro h; exact (hown _ (by simpa using h)).2.2.1 rfl
   have HRL := Lib.hid hRL
   have HOWN := Lib.hid hown
   clear hRL hown
   refine wp_region_upl RL 22 [(true, 0), (true, 1), (true, 2), (true, 3), (true, 4), (true, 5), (true, 6), (true, 7), (true, 8), (true, 9), (true, 10), (true, 11), (true, 12), (true, 13), (true, 14), (true, 15), (true, 16), (true, 17), (true, 18), (true, 19), (false, 20), (false, 21)] (by kernel_rfl) (by kernel_rfl) (fun _ _ d _ _ h => by cases d <;> exact h) ?_
   have hb : OutL RL w2 w2.drew := (OutL.refl _ _).drew
   iterate 20
    first | refine wpS_takeL rfl rfl ?_ | refine wpS_takeN rfl ⟨_, rfl⟩ ?_
    go_big_quiet_step (rfl)
    refine wpQuiet_nil ?_
   refine wpS_doL rfl ?_
   intro K hK
   go_wp2_with fail
   refine name_Kw ?_
   intro Wx hWx
   have kx : Blk Wx w2.heap.size #[.int .i64 (c : Nat), .int .i64 (a : Nat)] 102 := by rw [hWx]; exact Blk.new w2.drew _ _
   have hbx : Below w2.heap.size w2 Wx := by rw [hWx]; exact ((Below.refl _ _).drew).alloc (by simp) _
   have hsx : Wx.heap.size = w2.heap.size + 1 := by rw [hWx]; simp
   refine hK.out _ _ (upl (OutL.ofBelow hbx)) ?_
   clear hK K
   have HM5 := Lib.hid (HM4.out.of hbx)
   have HROW5 := Lib.hid (HROW4.out.of hbx)
   have HKX := Lib.hid kx
   have hbo : OutL RL w2 Wx := OutL.ofBelow hbx
   clear hWx kx hb
   refine wpS_doL rfl ?_
   intro K hK
   go_wp2_with fail
   refine (Insert_h 0 v ((OK O a b c 1) b) i c a w2.heap.size Wx HROW5.out HKX.out (fun e => by have := (HOWN.out _ e).2.2.2; omega) hi hln (by omega)).mono ?_
   rintro e W5 ⟨v', rfl, hr5, hg5, hl5⟩
   obtain ⟨ao', cap', hv', _, _, _⟩ := hr5.val
   obtain ⟨nn, hnn⟩ : ∃ nn, (List.take i ((OK O a b c 1) b) ++ (c, a) :: List.drop i ((OK O a b c 1) b)).length = nn := ⟨_, rfl⟩
   rw [hnn] at hv'
   subst hv'
   clear hnn
   have hbo5 : OutL RL w2 W5 := hbo.trans ⟨hg5.os, hg5.tape, hg5.output, hg5.size, fun k hk hc => hg5.block k hk fun e => hc (by rw [← HRL.out, ← e]; simp)⟩
   go_wp2_with fail
   refine hK.out _ _ (upl hbo5) ?_
   clear hK K
   have hfc : w2.cell? ⟨ob, b, none⟩ = some v := cr
   have cr5 : W5.cell? ⟨ob, b, none⟩ = some v := (World.cell?_of_block (a := ⟨ob, b, none⟩) (hbo5.block ob lo no)).trans hfc
   have fr5 : W5.frozen? ⟨ob, b, none⟩ = false := (World.frozen?_of_block (a := ⟨ob, b, none⟩) (hbo5.block ob lo no)).trans (by rw [← HV.out.2]; exact HM4.out.outf b)
   have hin := SM.set HM5.out nb (v' := .slice ao' nn cap') (L' := insH c a ((OK O a b c 1) b)) (w1 := W5) (by rw [← insH_at c a _ i hi HJ.out]; exact hr5) (by rw [HV.out.1]; exact hg5) (by rw [HV.out.1]; exact hl5) rfl (fun u hu => by
    rcases mem_insH.1 hu with rfl | hu
    ·exact ⟨nc, na⟩
    ·exact HM5.out.dom b nb u hu) (insH_sort HSR.out (lookH_absent HA1.out))
   rw [HV.out.2] at hin
   have HIN := Lib.hid hin
   have HFX := Lib.hid (HF4.out.trans (Fr.ofBelow (S := fun _ => False) hbx) (fun b hb => hb.elim))
   clear hin hbx hsx hbo hr5 hg5 hl5 hbo5 hfc c0 c1 c2 cr k0 k1 k2 lt lo lk nt no nk HJ HSR HM4 HM5 HROW4 HROW5 HKX HOWN HRL KT4 HF4 hi hln
   refine wpS_nil ?_
   simp only [List.drop_succ_cons, List.drop_zero]
   go_wp2_with fail
   go_roundg (2 - 1)
   case measure => omega
   case rel =>
    obtain ⟨D', h1, h2, h3, h4⟩ := HIN.out
    refine ⟨1 + 1, D', by rfl, by omega, by omega, Lib.hid h1, Lib.hid (HFX.out.trans h2 (fun b hb => ?_)), Lib.hid (fun g hgg => ?_), h4.trans hpo⟩
    ·exact HH.out b hb
    ·rcases h3 g hgg with h5 | h5
     ·exact HH.out g h5
     ·exact .inr (Nat.le_trans HFX.out.size h5)
  ·have hix : ∀ w, Sem.run Try.prog (Instr.index 96 (sI a b c) (.int .i64 2)) w = .ok (tI c a b) w := fun w => side_at a b c 2 (by omega) w
   go_wp2_with fail
   refine name_world ?_
   intro W2 hW2
   have kt : Blk W2 wr.heap.size #[.int .i64 (c : Nat), .int .i64 (a : Nat), .int .i64 (b : Nat)] 36 := by rw [hW2]; exact Blk.new wr _ _
   have hbw : Below wr.heap.size wr W2 := by rw [hW2]; exact below_a1 wr _
   clear hW2
   have HM2 := Lib.hid (HM.out.of hbw)
   have HF2 := Lib.hid (HF.out.trans (Fr.ofBelow (S := fun _ => False) hbw) (fun b hb => hb.elim))
   have KT := Lib.hid kt
   have hsz2 : wr.heap.size ≤ W2.heap.size := hbw.size
   clear hbw kt HM HF
   obtain ⟨c0, c1, c2⟩ := HM2.out.c
   obtain ⟨v, hv⟩ : ∃ v, Dk.V c = v := ⟨_, rfl⟩
   have cr := HM2.out.row nc
   have hrow := HM2.out.rows c nc
   rw [hv] at cr hrow
   obtain ⟨ob, hob⟩ : ∃ ob, Dk.ob = ob := ⟨_, rfl⟩
   rw [hob] at cr c1
   have HROW := Lib.hid hrow
   have HSR := Lib.hid (HM2.out.sort c nc)
   have hln := HM2.out.len c nc
   have hsm := HM2.out.small
   have k0 := KT.out.cell 0
   have k1 := KT.out.cell 1
   have k2 := KT.out.cell 2
   have lt := HM2.out.lt (b := t) (.inl rfl)
   have lo : ob < W2.heap.size := by rw [← hob]; exact HM2.out.lt (.inr (.inl rfl))
   have lk := KT.out.lt
   have HV := Lib.hid (And.intro hv hob)
   clear hrow hv hob
   refine wp_region_up W2.heap.size 16 [(true, 0), (true, 1), (true, 2), (true, 3), (true, 4), (true, 5), (true, 6), (true, 7), (true, 8), (true, 9), (true, 10), (false, 11), (true, 12), (true, 13), (true, 14), (true, 15)] (by kernel_rfl) (by kernel_rfl) (fun _ _ d _ _ h => by cases d <;> exact h) ?_
   have hb : Below W2.heap.size W2 W2.drew := (Below.refl _ _).drew
   iterate 11
    first | refine wpS_takeL rfl rfl ?_ | refine wpS_takeN rfl ⟨_, rfl⟩ ?_
    go_big_quiet_step (rfl)
    refine wpQuiet_nil ?_
   refine wpS_doL rfl ?_
   intro K hK
   go_wp2_with ((go_at_call 52; (refine (Find_h 0 v ((OK O a b c 2) c) a 0 _ (HROW.out.of hb) HSR.out hln).mono ?_); rintro e w2 ⟨i, ok, rfl, hn, hi, hj, hok⟩))
   replace hb := hb.trans (hn.mono hb.size)
   refine hK.out _ _ (up_iff.2 hb) ?_
   clear hK K
   clear hn
   iterate 4
    first | refine wpS_takeL rfl rfl ?_ | refine wpS_takeN rfl ⟨_, rfl⟩ ?_
    go_big_quiet_step (rfl)
    refine wpQuiet_nil ?_
   refine wpS_nil ?_
   simp only [List.drop_succ_cons, List.drop_zero]
   have HJ := Lib.hid hj
   have HM4 := Lib.hid (HM2.out.of hb)
   have HF4 := Lib.hid (HF2.out.trans (Fr.ofBelow (S := fun _ => False) hb) (fun b hb => hb.elim))
   have HROW4 := Lib.hid (HROW.out.of hb)
   have KT4 := Lib.hid (KT.out.of hb)
   have hsz4 := Nat.le_trans hsz2 hb.size
   clear hb HM2 HF2 HROW KT c0 c1 c2 cr k0 k1 k2 lt lo lk hsz2 hj hok
   obtain ⟨c0, c1, c2⟩ := HM4.out.c
   have cr := HM4.out.row nc
   rw [HV.out.2] at c1 cr
   rw [HV.out.1] at cr
   have k0 := KT4.out.cell 0
   have k1 := KT4.out.cell 1
   have k2 := KT4.out.cell 2
   have lt := HM4.out.lt (b := t) (.inl rfl)
   have lo : ob < w2.heap.size := by rw [← HV.out.2]; exact HM4.out.lt (.inr (.inl rfl))
   have lk := KT4.out.lt
   go_wp2_with fail
   obtain ⟨RL, hRL⟩ : ∃ RL, v.ownBlock.toList = RL := ⟨_, rfl⟩
   have hown : ∀ g, v.ownBlock = some g → g ≠ t ∧ g ≠ ob ∧ g ≠ wr.heap.size ∧ g < w2.heap.size := by
    intro g hgg
    obtain ⟨e1, e2, e3⟩ := HM4.out.rowne nc (by rw [HV.out.1]; exact hgg)
    refine ⟨e1, by rw [← HV.out.2]; exact e2, fun e => ?_, e3⟩
    subst e
    exact absurd (HROW4.out.typ hgg KT4.out) (by decide)
   have nt : t ∉ RL := by rw [← hRL]; intro h; exact (hown t (by simpa using h)).1 rfl
   have no : ob ∉ RL := by rw [← hRL]; intro h; exact (hown ob (by simpa using h)).2.1 rfl
   have nk : wr.heap.size ∉ RL := by rw [← hRL]; intro h; exact (hown _ (by simpa using h)).2.2.1 rfl
   have HRL := Lib.hid hRL
   have HOWN := Lib.hid hown
   clear hRL hown
   refine wp_region_upl RL 22 [(true, 0), (true, 1), (true, 2), (true, 3), (true, 4), (true, 5), (true, 6), (true, 7), (true, 8), (true, 9), (true, 10), (true, 11), (true, 12), (true, 13), (true, 14), (true, 15), (true, 16), (true, 17), (true, 18), (true, 19), (false, 20), (false, 21)] (by kernel_rfl) (by kernel_rfl) (fun _ _ d _ _ h => by cases d <;> exact h) ?_
   have hb : OutL RL w2 w2.drew := (OutL.refl _ _).drew
   iterate 20
    first | refine wpS_takeL rfl rfl ?_ | refine wpS_takeN rfl ⟨_, rfl⟩ ?_
    go_big_quiet_step (rfl)
    refine wpQuiet_nil ?_
   refine wpS_doL rfl ?_
   intro K hK
   go_wp2_with fail
   refine name_Kw ?_
   intro Wx hWx
   have kx : Blk Wx w2.heap.size #[.int .i64 (a : Nat), .int .i64 (b : Nat)] 102 := by rw [hWx]; exact Blk.new w2.drew _ _
   have hbx : Below w2.heap.size w2 Wx := by rw [hWx]; exact ((Below.refl _ _).drew).alloc (by simp) _
   have hsx : Wx.heap.size = w2.heap.size + 1 := by rw [hWx]; simp
   refine hK.out _ _ (upl (OutL.ofBelow hbx)) ?_
   clear hK K
   have HM5 := Lib.hid (HM4.out.of hbx)
   have HROW5 := Lib.hid (HROW4.out.of hbx)
   have HKX := Lib.hid kx
   have hbo : OutL RL w2 Wx := OutL.ofBelow hbx
   clear hWx kx hb
   refine wpS_doL rfl ?_
   intro K hK
   go_wp2_with fail
   refine (Insert_h 0 v ((OK O a b c 2) c) i a b w2.heap.size Wx HROW5.out HKX.out (fun e => by have := (HOWN.out _ e).2.2.2; omega) hi hln (by omega)).mono ?_
   rintro e W5 ⟨v', rfl, hr5, hg5, hl5⟩
   obtain ⟨ao', cap', hv', _, _, _⟩ := hr5.val
   obtain ⟨nn, hnn⟩ : ∃ nn, (List.take i ((OK O a b c 2) c) ++ (a, b) :: List.drop i ((OK O a b c 2) c)).length = nn := ⟨_, rfl⟩
   rw [hnn] at hv'
   subst hv'
   clear hnn
   have hbo5 : OutL RL w2 W5 := hbo.trans ⟨hg5.os, hg5.tape, hg5.output, hg5.size, fun k hk hc => hg5.block k hk fun e => hc (by rw [← HRL.out, ← e]; simp)⟩
   go_wp2_with fail
   refine hK.out _ _ (upl hbo5) ?_
   clear hK K
   have hfc : w2.cell? ⟨ob, c, none⟩ = some v := cr
   have cr5 : W5.cell? ⟨ob, c, none⟩ = some v := (World.cell?_of_block (a := ⟨ob, c, none⟩) (hbo5.block ob lo no)).trans hfc
   have fr5 : W5.frozen? ⟨ob, c, none⟩ = false := (World.frozen?_of_block (a := ⟨ob, c, none⟩) (hbo5.block ob lo no)).trans (by rw [← HV.out.2]; exact HM4.out.outf c)
   have hin := SM.set HM5.out nc (v' := .slice ao' nn cap') (L' := insH a b ((OK O a b c 2) c)) (w1 := W5) (by rw [← insH_at a b _ i hi HJ.out]; exact hr5) (by rw [HV.out.1]; exact hg5) (by rw [HV.out.1]; exact hl5) rfl (fun u hu => by
    rcases mem_insH.1 hu with rfl | hu
    ·exact ⟨na, nb⟩
    ·exact HM5.out.dom c nc u hu) (insH_sort HSR.out (lookH_absent HA2.out))
   rw [HV.out.2] at hin
   have HIN := Lib.hid hin
   have HFX := Lib.hid (HF4.out.trans (Fr.ofBelow (S := fun _ => False) hbx) (fun b hb => hb.elim))
   clear hin hbx hsx hbo hr5 hg5 hl5 hbo5 hfc c0 c1 c2 cr k0 k1 k2 lt lo lk nt no nk HJ HSR HM4 HM5 HROW4 HROW5 HKX HOWN HRL KT4 HF4 hi hln
   refine wpS_nil ?_
   simp only [List.drop_succ_cons, List.drop_zero]
   go_wp2_with fail
   go_roundg (2 - 2)
   case measure => omega
   case rel =>
    obtain ⟨D', h1, h2, h3, h4⟩ := HIN.out
    refine ⟨2 + 1, D', by rfl, by omega, by omega, Lib.hid h1, Lib.hid (HFX.out.trans h2 (fun b hb => ?_)), Lib.hid (fun g hgg => ?_), h4.trans hpo⟩
    ·exact HH.out b hb
    ·rcases h3 g hgg with h5 | h5
     ·exact HH.out g h5
     ·exact .inr (Nat.le_trans HFX.out.size h5)
  ·obtain ⟨c0, c1, c2⟩ := HM.out.c
   have f2 := HM.out.blk.free 2
   have hw : wrap64 (n + 1) = n + 1 := by unfold wrap64; omega
   have HN := Lib.hid (SM.setn HM.out (n + 1))
   go_wp2_with fail
   simp [bodyPost, results, Try.results72, go_sem]
   exact ⟨Dk, HN.out.1, HF.out.trans HN.out.2 (fun b hb => HH.out b (.inl hb)), HH.out, hpo⟩
end Go.Proofs.Ytdlpfiiakmhnlaa

namespace Go.Proofs.Ytdlpfiiakmhnlaa
open Go.RowKit

def sumN (f : Nat → Int) : Nat → Int
  | 0 => 0
  | k + 1 => sumN f k + f k
theorem sumN_congr {f g : Nat → Int} : ∀ k, (∀ i, i < k → f i = g i) → sumN f k = sumN g k
  | 0, _ => rfl
  | k + 1, h => by show sumN f k + f k = sumN g k + g k; rw [sumN_congr k (fun i hi => h i (by omega)), h k (by omega)]
theorem sumN_shift (f : Nat → Int) : ∀ k, sumN f (k + 1) = f 0 + sumN (fun i => f (i + 1)) k
  | 0 => by show (0 : Int) + f 0 = f 0 + 0; omega
  | k + 1 => by
    have := sumN_shift f k
    show sumN f (k + 1) + f (k + 1) = f 0 + (sumN (fun i => f (i + 1)) k + f (k + 1))
    rw [this]; omega
theorem sumN_neg (f : Nat → Int) : ∀ k, sumN (fun i => -f i) k = -sumN f k
  | 0 => rfl
  | k + 1 => by show sumN (fun i => -f i) k + -f k = -(sumN f k + f k); rw [sumN_neg f k]; omega
/-- the next one around a way -/
def nx (n i : Nat) : Nat := (i + 1) % n
theorem nx_lt {n i : Nat} (h : i < n) : nx n i < n := Nat.mod_lt _ (by omega)
def crx (X Y : Nat → Int) (i j : Nat) : Int := X i * Y j - X j * Y i
/-- the sum so far -/
def arS (n : Nat) (X Y : Nat → Int) (k : Nat) : Int := sumN (fun i => crx X Y i (nx n i)) k
def area (n : Nat) (X Y : Nat → Int) : Int := arS n X Y n
end Go.Proofs.Ytdlpfiiakmhnlaa

