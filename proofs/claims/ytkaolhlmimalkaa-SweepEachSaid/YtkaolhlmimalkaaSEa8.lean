/- The statement SweepEachSaid: for every input the law returns true, and its arguments read as before. Conditions: none. -/
import Derived.Test.YtkaolhlmimalkaaSEa7
import Derived.KernelRfl
import Derived.StillTail
import Derived.OrdersHeld
import Derived.Deep.Quiet
import Derived.Below
import Derived.WalkKit
import Derived.Test.YtkaolhlmimalkaaProg
import Derived.WalkSpells
import Derived.StillTactics
import Derived.Laws.Pointers
import Derived.Deep.RegionHeld3
import Derived.RowKit3
import Derived.Deep.QuietTactic
import Derived.BigQuiet
import Derived.BigRegion
import Derived.Lib.Hide
import Derived.WalkSmall
import Derived.Laws.BitsAllLaws
import Derived.IntWalk
import Derived.Deep.OwnRows
import Derived.Deep.LoopGhost
import Derived.Shelf.Bits.Mul64
import Derived.Deep.DeepFit
import Derived.Deep.DeepCutAuto
import Derived.OwnWalk
import Derived.RangeFuncNested
import Derived.RangeFuncBound
import Derived.RangeFuncCalls
import Derived.RangeFuncLeaves
import Derived.Shelf.Abstract
import Derived.Shelf.RegionOpen
import Derived.OwnWalkIn
import Derived.TacticsInMore
import Derived.LoopNIn
import Derived.LoopIn
import Derived.Sort.LoopGhostIn
import Derived.Deep.DeepAppendRoom
import Derived.Deep.MidRow
import Derived.Laws.CopyOwn
import Derived.Laws.AppendOwn
import Derived.Lib.AppendZerosOnto
import Derived.Lib.Overlaps
import Derived.Laws.AppendOwnNone
import Derived.Maps.OwnIn
import Derived.Test.YtkaolhlmimalkaaRows
import Derived.ProofKit
import Derived.OpenShut
import Derived.ShutString
import Derived.ChangeOld
import Derived.Lib.SmallJoins
import Derived.Laws.IdiomArrays
import Derived.Deep.SlicePairs
namespace Go.Proofs.Ytkaolhlmimalkaa
open Go.RowKit Go.Shelf

/-- an event that is told: its list lies in a block of its own -/
def evE (B : Nat) (evs : List (Int × List Nat)) (k : Nat) (v : Value) (H : Nat → Prop) (W : World) : Prop :=
  ∃ p L s B2, evs[k]? = some (p, L) ∧ v = .agg (evC p s) ∧ NL W B2 s L ∧ B ≤ B2 ∧ ∀ g, H g ↔ s.ownBlock = some g
/-- what the iterator asks of memory between two rounds -/
structure EaK (b1 b2 : Nat) (pa : Option Addr) (n pc : Nat) (Xp Yp : Nat → Int) (sa : Option Addr) (m sq : Nat) (A : Nat → Nat → Int) (W : World) : Prop where
  l1 : Blk W b1 #[.slice pa n pc] 22
  l2 : Blk W b2 #[.slice sa m sq] 23
  p : Pns W pa n pc Xp Yp
  s : Sgs W sa m sq A
theorem wpListIn_store_spot {F : Fence} {n : Nat} {ops : Array Oper} {rest : List Oper} {op : Oper} {a : Act} {w : World} {Q : Exit → Act → World → Prop} (hgd : op.guard = none) (x y : Operand) (ho : op.op = .store 36 x y)
    (b : Nat) (q : Int) (hx : a.eval x = .pointer (some ⟨b, 0, none⟩)) (hy : a.eval y = pK q) {c : Array Value} (hb : Blk w b c 36) (hc : c.size = 12)
    (h : ∀ w', Blk w' b (pS12 q) 36 → OutL [b] w w' → w'.heap.size = w.heap.size → wpListIn F n Try.prog ops Q rest (a.put op.dst undef) w') : wpListIn F n Try.prog ops Q (op :: rest) a w := by
  refine wpListIn_plain hgd fun K hK' => ?_
  unfold Oper.wpIn
  refine ⟨?_, ?_⟩
  · simp [Oper.about, ho]
  · rw [Oper.semAt_plain F _ _ (by rw [ho]; intro c hc'; cases hc')]
    unfold execOp
    simp only [ho, hx, hy, Instr.storeAt, Instr.sureAddr, Sem.run_bind, Sem.run_pure, Result.andThen_ok, run_storeVar_mid (P := Try.prog) w b 0 36 (pS12 q) (hb.there 12 (by omega)) (by kernel_rfl) (by simp [pS12, Value.oneCell'])]
    exact hK' _ _ (h _ (hb.fill (pS12 q).toList hc) (OutL.setCells (List.mem_singleton.2 rfl) _ _ (OutL.refl _ _)) (size_cells _ _ _ _))
theorem bx_of {B : Nat} {G : Nat → Prop} {l : List Nat} {W W' : World} (ho : OutL l W W') (hB : B ≤ W.heap.size) (hl : ∀ k ∈ l, B ≤ k ∧ ¬ G k) : BelowX B G W W' :=
  ⟨ho.below hB fun k hk => (hl k hk).1, fun g hg hs => ho.block g hs fun hm => (hl g hm).2 hg⟩
set_option maxRecDepth 100000 in
set_option maxHeartbeats 4000000 in
theorem Each1_any (mm lid b1 b2 B : Nat) (pa : Option Addr) (n pc : Nat) (Xp Yp : Nat → Int) (sa : Option Addr) (m sq : Nat) (A : Nat → Nat → Int) (hn4 : n ≤ 4096) (hm4 : m ≤ 4096) (hi : ∀ i, i < n → In64 (Xp i) ∧ In64 (Yp i)) (hsp : ∀ i, i < n → SpK (atK (Xp i) (Yp i))) (hlw : ∀ i, i < m → SpK (lowK A i) ∧ SpK (highK A i))
    (hr1 : anyB (fun i => ma1 (Xp i) (Yp i)) n = false) (hr2 : anyB (fun i => ma2 (A i 0) (A i 1) (A i 2) (A i 3)) m = false) (hsx : ∀ g o s, 0 < m → sa = some ⟨g, o, s⟩ → g < B)
    (F : Nat) (evs : List (Int × List Nat)) (hrun : run A F (sQ A (pQ Xp Yp n) m) (msort (ltB A) (List.range m)) [] = some evs) (hcnt : n + 2 * m + 3 * evs.length < 90000)
    (I : (Nat → Prop) → Nat → World → Prop) (Ix : Nat → World → Prop)
    (hm : ∀ G k W, I G k W → EaK b1 b2 pa n pc Xp Yp sa m sq A W) (hG : ∀ G k W, I G k W → ∀ g, G g → B ≤ g ∧ g < W.heap.size) (hst : ∀ G k W W', I G k W → BelowX B G W W' → I G k W')
    (hY : ∀ G k v H W, k < evs.length → I G k W → evE B evs k v H W → YieldAt Fence.wide mm Try.prog lid #[v] W fun e W' => ((e = .returned (.bool true) ∧ ∃ G', (∀ g, G' g → G g ∨ H g ∨ W.heap.size ≤ g) ∧ I G' (k + 1) W') ∨ (e = .returned (.bool false) ∧ Ix (k + 1) W')) ∧ AboveX B G W W')
    (W : World) (hB : B ≤ W.heap.size) (h0 : I (fun _ => False) 0 W) :
    CallsIn Fence.wide (mm + 1) Try.prog 15 #[.func (.yield lid) #[] #[], ptr b1 0, ptr b2 0] W fun e W' => (∃ v, e = .returned v) ∧ ((∃ G, I G evs.length W') ∨ ∃ k, k ≤ evs.length ∧ Ix k W') := by
 refine callsIn_of_wp Try.func15 rfl trivial ?_ rfl
 simp only [Try.ntmps15, List.size_toArray, List.length_cons, List.length_nil, Nat.reduceAdd, Nat.reduceSub, Array.replicate_succ, Array.replicate_zero, List.push_toArray, List.append_toArray, List.nil_append, List.cons_append]
 have HH := Lib.hid (And.intro hm (And.intro hst (And.intro hY hG)))
 have H0 := Lib.hid h0; have KK := hm _ _ _ h0; have HKK := Lib.hid KK; have r1 := KK.l1.cell 0; have r2 := KK.l2.cell 0; have l1 := KK.l1.lt; have l2 := KK.l2.lt
 simp only [List.getElem?_toArray, List.getElem?_cons_zero] at r1 r2
 have HI6 := Lib.hid hi; have HSP := Lib.hid hsp; have HLW := Lib.hid hlw; have HSX := Lib.hid hsx; have HRUN := Lib.hid hrun; have HR1 := Lib.hid hr1; have HR2 := Lib.hid hr2; clear hm hst hY hG h0 KK hi hsp hlw hsx hrun hr1 hr2
 gi_wp2_with fail
 refine ⟨trivial, callsIn_wide.2 ?_⟩
 refine (may_is pa n pc Xp Yp sa m sq A W HKK.out.p HKK.out.s hn4 hm4 false false HR1.out HR2.out).mono ?_
 rintro e w1 ⟨rfl, hb1⟩
 have HI1 := Lib.hid (HH.out.2.1 _ 0 W w1 H0.out (.all hb1 hB))
 have hB1 : B ≤ w1.heap.size := Nat.le_trans hB hb1.size
 have HK1 := Lib.hid (HH.out.1 _ _ _ HI1.out)
 clear r1 r2 l1 l2 HKK H0 hb1 hB HR1 HR2; have r1 := HK1.out.l1.cell 0; have r2 := HK1.out.l2.cell 0; have l1 := HK1.out.l1.lt; have l2 := HK1.out.l2.lt
 simp only [List.getElem?_toArray, List.getElem?_cons_zero] at r1 r2
 gi_wp2_with fail
 refine ⟨trivial, callsIn_wide.2 ?_⟩
 refine (begun_is pa n pc Xp Yp sa m sq A w1 HK1.out.p HK1.out.s hn4 hm4 HI6.out HSP.out HLW.out).mono ?_
 rintro e w2 ⟨lb, t, S0, T0, q0, rfl, hq0, hl0, hb2⟩
 have HI2 := Lib.hid (HH.out.2.1 _ 0 w1 w2 HI1.out (.all hb2 hB1))
 have hB2 : B ≤ w2.heap.size := Nat.le_trans hB1 hb2.size
 have HL2 : Hid (Lin w2 (fun g => B ≤ g ∧ ¬ False) lb t S0 T0 q0 sa m sq (sQ A (pQ Xp Yp n) m) (msort (ltB A) (List.range m)) []) := Lib.hid (hl0.turn (Nat.le_refl _) fun g hg hx => ⟨⟨Nat.le_trans hB1 hx, id⟩, rfl⟩)
 have hlq := hl0.que.lts
 obtain ⟨svx, avx, hblx, _, _⟩ := hl0.row
 have c1 : w2.cell? ⟨lb, 1, none⟩ = _ := hblx.cell 1
 simp only [List.getElem?_toArray, List.getElem?_cons_zero, List.getElem?_cons_succ] at c1
 have llx := hblx.lt
 obtain ⟨z0, hz0⟩ : ∃ z, decide (sQ A (pQ Xp Yp n) m ≠ []) = z := ⟨_, rfl⟩
 obtain ⟨x0, hx0⟩ : ∃ x, (sQ A (pQ Xp Yp n) m).headD 0 = x := ⟨_, rfl⟩
 have HZ0 := Lib.hid hz0; have HX0 := Lib.hid hx0; clear hl0 hblx r1 r2 l1 l2 HK1 HI1 hb2 hB1 hz0 hx0
 gi_wp2_with fail
 refine ⟨trivial, callsIn_wide.2 ?_⟩
 refine (Que_first HZ0.out HX0.out HL2.out.que (by omega)).mono ?_
 rintro e w3 ⟨rfl, hb3⟩
 have HI3 := Lib.hid (HH.out.2.1 _ 0 w2 w3 HI2.out (.all hb3 hB2))
 have hB3 : B ≤ w3.heap.size := Nat.le_trans hB2 hb3.size
 have HL3 := Lib.hid (HL2.out.of hb3)
 have hs3 := hb3.size; clear c1 hb3 HI2 HL2
 gi_wp2_with fail
 refine nameIn ?_
 intro w4 hw4
 have kp4 : Blk w4 w3.heap.size (pS12 x0) 36 := by rw [hw4]; exact Blk.new _ _ _
 have hb4 : Below w3.heap.size w3 w4 := by rw [hw4]; exact below_a1 _ _
 have HI4 := Lib.hid (HH.out.2.1 _ 0 w3 w4 HI3.out (.all hb4 hB3))
 have hB4 : B ≤ w4.heap.size := Nat.le_trans hB3 hb4.size
 have HL4 := Lib.hid (HL3.out.of hb4)
 have HP4 := Lib.hid kp4; clear hw4 kp4 hb4 HI3 HL3
 have HINV : Hid (∃ G, I G 0 w4 ∧ Lin w4 (fun g => B ≤ g ∧ ¬ G g) lb t S0 T0 q0 sa m sq (sQ A (pQ Xp Yp n) m) (msort (ltB A) (List.range m)) [] ∧ Lx (fun g => B ≤ g ∧ ¬ G g) lb t S0 w3.heap.size) :=
  Lib.hid ⟨fun _ => False, HI4.out, HL4.out, ⟨hB3, id⟩, by omega, by omega, by omega, by omega⟩
 have HALL : Hid (All m ([] : List Nat) ∧ All m (msort (ltB A) (List.range m)) ∧ ([] : List Nat).length + (msort (ltB A) (List.range m)).length ≤ 4096) := Lib.hid
  ⟨fun z hz => by simp at hz, fun z hz => List.mem_range.1 (((msort_ok _ _).1 z).1 hz), by rw [(msort_ok _ _).2, List.length_range]; simpa using hm4⟩
 have HPB : Hid (Blk w4 w3.heap.size (pS12 ((sQ A (pQ Xp Yp n) m).headD 0)) 36) := by rw [HX0.out]; exact HP4
 clear HI4 HL4 HP4 hlq llx
 gi_loopg [5, 6] evs.length (fun gk s5 s6 wr => ∃ (k pb q g : Nat) (S : TS) (T : Tr) (Q : List Int) (sts st : List Nat) (z : Bool), s5 = ptr pb 0 ∧ s6 = .bool z ∧ k ≤ evs.length ∧ evs.length - k ≤ gk ∧ Hid (decide (Q ≠ []) = z) ∧ Hid (run A g Q sts st = some (evs.drop k)) ∧ Hid (All m st ∧ All m sts ∧ st.length + sts.length ≤ 4096) ∧ q ≤ n + 2 * m + 3 * k ∧ Hid (∃ G, I G k wr ∧ Lin wr (fun g => B ≤ g ∧ ¬ G g) lb t S T q sa m sq Q sts st ∧ Lx (fun g => B ≤ g ∧ ¬ G g) lb t S pb) ∧ Hid (Blk wr pb (pS12 (Q.headD 0)) 36) ∧ B ≤ wr.heap.size)
 case atStart => exact ⟨0, _, q0, F, S0, T0, _, _, _, z0, rfl, rfl, Nat.zero_le _, by omega, HZ0, HRUN, HALL, by omega, HINV, HPB, hB4⟩
 case round =>
  clear HINV HALL HPB HZ0 HX0 HRUN hB2 hB3 hB4 hs3
  obtain ⟨k, pb, q, g, S, T, Q, sts, st, z, rfl, rfl, hk, hgk, HZ, HRUN, HALL, hqk, HI, HP, hB⟩ := hrel
  obtain ⟨G, hI, hl, hpx⟩ := HI.out
  have HIG := Lib.hid hI; have HL := Lib.hid hl; have HPX := Lib.hid hpx; clear hI hl hpx HI
  cases Q with
  | nil =>
   obtain rfl : z = false := by rw [← HZ.out]; rfl
   have hke : k = evs.length := by
    have := run_nil HRUN.out
    have h2 := congrArg List.length this
    rw [List.length_drop] at h2
    simp at h2; omega
   have HF := Lib.hid (show ∃ G, I G evs.length wr by rw [← hke]; exact ⟨G, HIG.out⟩)
   clear HIG HL HPX HRUN HALL HP
   gi_wp2
   go_end0
   exact ⟨⟨_, rfl⟩, .inl HF.out⟩
  | cons p Q' =>
   obtain rfl : z = true := by rw [← HZ.out]; rfl
   obtain ⟨g', l', hg', hdr, hrun'⟩ := run_cons HRUN.out
   have hek : evs[k]? = some (p, msort ltI (stO A p sts st)) := by
    have := List.getElem?_drop (xs := evs) (i := k) (j := 0)
    rw [hdr, Nat.add_zero] at this; exact this.symm
   have hkN : k < evs.length := (List.getElem?_eq_some_iff.1 hek).1
   have hdr' : evs.drop (k + 1) = l' := by
    rw [← List.tail_drop, hdr]; rfl
   have HEK := Lib.hid hek
   have HRN : Hid (run A g' (stQ A p Q' sts st) (sts.drop (bgn A p sts)) (stS A p sts st) = some (evs.drop (k + 1))) := Lib.hid (by rw [hdr']; exact hrun')
   clear hg' hdr hrun' hek hdr' HRUN; have hlq := HL.out.que.lts; have hxs := HL.out.xs
   obtain ⟨svx, avx, hblx, _, _⟩ := HL.out.row
   have c1 : wr.cell? ⟨lb, 1, none⟩ = _ := hblx.cell 1
   simp only [List.getElem?_toArray, List.getElem?_cons_zero, List.getElem?_cons_succ] at c1
   have llx := hblx.lt; have kbr : Blk wr pb (pS12 p) 36 := HP.out; obtain ⟨cz0, cz1, cz2, cz3, cz4, cz5, cz6, cz7, cz8, cz9, cz10, cz11⟩ := cel12 kbr; have lcz := kbr.lt; have HPB := Lib.hid kbr; clear hblx kbr HP
   gi_wp2_with fail
   refine wpIn_wide.2 ?_
   refine wp_region_up wr.heap.size 5 [(true, 0), (true, 1), (true, 2), (true, 3), (true, 4)] (by kernel_rfl) (by kernel_rfl) (fun _ _ d _ _ h => by cases d <;> exact h) ?_
   have hb : Below wr.heap.size wr wr.drew := (Below.refl _ _).drew
   iterate 5
    first | refine wpS_takeL rfl rfl ?_ | refine wpS_takeN rfl ⟨_, rfl⟩ ?_
    go_big_quiet_step (rfl)
    refine wpQuiet_nil ?_
   refine wpS_nil ?_
   simp only [List.drop_succ_cons, List.drop_zero]
   go_wp2_with fail
   refine (Que_del (show q < 100000 by omega) (HL.out.of hb).que).mono ?_
   rintro e w2 ⟨rfl, S', T', hQ', hF'⟩
   have hX1 : ∀ b, wr.heap.size ≤ b → B ≤ b ∧ ¬ G b := fun b hb => ⟨by omega, fun h => by have := (HH.out.2.2.2 _ _ _ HIG.out b h).2; omega⟩
   have hsb := hb.size
   have HL2 := Lib.hid ((HL.out.of hb).frame hF' hQ' fun b hb => hX1 b (by omega))
   have hsz2 := hF'.out.size
   have HI2 := Lib.hid (HH.out.2.1 _ k _ w2 (HH.out.2.1 _ k wr _ HIG.out (.all hb hB)) (bx_of hF'.out (Nat.le_trans hB hsb) (by
    intro b hb
    simp only [List.mem_cons, List.not_mem_nil, or_false] at hb
    rcases hb with rfl | rfl | rfl
    ·exact hxs.2.1
    ·exact hxs.2.2.1
    ·exact hxs.2.2.2)))
   have HPX2 : Hid (Lx (fun g => B ≤ g ∧ ¬ G g) lb t S' pb) := Lib.hid (HPX.out.frame hF' (by omega)).1
   have HPB2 := Lib.hid ((HPB.out.of hb).turn (HPX.out.frame hF' (by omega)).2)
   have hB2 : B ≤ w2.heap.size := by omega
   clear hQ' hF' hb c1 cz0 cz1 cz2 cz3 cz4 cz5 cz6 cz7 cz8 cz9 cz10 cz11 lcz HL HPX HPB HIG hxs hlq llx
   go_wp2_with fail
   have kbr := HPB2.out; obtain ⟨cz0, cz1, cz2, cz3, cz4, cz5, cz6, cz7, cz8, cz9, cz10, cz11⟩ := cel12 kbr; have lcz := kbr.lt; clear kbr
   gi_wp2_with fail
   refine ⟨trivial, callsIn_wide.2 ?_⟩
   have hX2 : ∀ b, w2.heap.size ≤ b → B ≤ b ∧ ¬ G b := fun b hb => hX1 b (by omega)
   have HK2 := Lib.hid (HH.out.1 _ _ _ HI2.out)
   have hsx2 : ∀ g o s, 0 < m → sa = some ⟨g, o, s⟩ → g < w2.heap.size ∧ ¬ (B ≤ g ∧ ¬ G g) := fun g o s h0 e => ⟨by have := HSX.out g o s h0 e; omega, fun h => by have := HSX.out g o s h0 e; omega⟩
   refine (step_is lb t p sa m sq A _ S' T' (q + 1) Q' sts st w2 HL2.out HK2.out.s HALL.out.1 HALL.out.2.1 HALL.out.2.2 (by omega) hX2 hsx2 _ _ _ (stO A p sts st) (stN A p sts st) (stS A p sts st) rfl rfl rfl rfl rfl rfl).mono ?_
   rintro e w3 ⟨v, S2, T2, q2, B2, rfl, hB2', hnl, hq2, hl2, hF2⟩
   have hxs2 := HL2.out.xs; have hsz3 := hF2.out.size
   have HI3 := Lib.hid (HH.out.2.1 _ k w2 w3 HI2.out (bx_of hF2.out hB2 (by
    intro b hb
    simp only [List.mem_cons, List.not_mem_nil, or_false] at hb
    rcases hb with rfl | rfl | rfl | rfl
    ·exact hxs2.1
    ·exact hxs2.2.1
    ·exact hxs2.2.2.1
    ·exact hxs2.2.2.2)))
   have hpl2 := HPB2.out.lt
   have HPB3 := Lib.hid (HPB2.out.turn (hF2.out.block pb hpl2 (by have h := HPX2.out; simp only [List.mem_cons, List.not_mem_nil, or_false, not_or]; exact ⟨h.2.1, h.2.2.1, h.2.2.2.1, h.2.2.2.2⟩)))
   have HPX3 : Hid (Lx (fun g => (B ≤ g ∧ ¬ G g) ∧ g < B2) lb t S2 pb) := Lib.hid (by
    have h := HPX2.out
    refine ⟨⟨h.1, by omega⟩, h.2.1, h.2.2.1, ?_, ?_⟩
    ·rcases hF2.nb with e | e
     ·rw [e]; exact h.2.2.2.1
     ·omega
    ·rcases hF2.fb with e | e
     ·rw [e]; exact h.2.2.2.2
     ·omega)
   have hB3 : B ≤ w3.heap.size := by omega
   have hE : evE B evs k (.agg (evC p v)) (fun g => v.ownBlock = some g) w3 := ⟨p, _, v, B2, HEK.out, rfl, hnl, by omega, fun _ => Iff.rfl⟩
   obtain ⟨fn, tmps, assign, body, hy, hR⟩ := HH.out.2.2.1 _ k _ _ w3 hkN HI3.out hE
   obtain ⟨va, vc, hv, _⟩ := hnl.val
   obtain ⟨ln, hln⟩ : ∃ l, (msort ltI (stO A p sts st)).length = l := ⟨_, rfl⟩
   rw [hln] at hv
   subst hv; have HL3 := Lib.hid hl2
   have hnb : ∀ g, Value.ownBlock (.slice va ln vc) = some g → B2 ≤ g := fun g hg => (hnl.own hg).1
   have HNB := Lib.hid hnb; have HQ2 := Lib.hid hq2; clear cz0 cz1 cz2 cz3 cz4 cz5 cz6 cz7 cz8 cz9 cz10 cz11 lcz hl2 hF2 hnl hE hln HL2 HI2 HK2 HPB2 HPX2 hxs2 hnb hq2 hX2 hsx2 HI3
   gi_wp2
   refine hR.mono ?_
   rintro e w4 ⟨(⟨rfl, G4, hG4, hI4⟩ | ⟨rfl, hx4⟩), hab⟩
   ·have hs4 := hab.size
    have hB4 : B ≤ w4.heap.size := by omega
    have HI4 := Lib.hid hI4
    have hng : ∀ g, (B ≤ g ∧ ¬ G g) ∧ g < B2 → g < w3.heap.size → ¬ G4 g := fun g hx hg h4 => by
     rcases hG4 g h4 with h | h | h
     ·exact hx.1.2 h
     ·have := HNB.out g h; omega
     ·omega
    have HL4 : Hid (Lin w4 (fun g => (B ≤ g ∧ ¬ G4 g) ∧ g < w4.heap.size) lb t S2 T2 q2 sa m sq (stQ A p Q' sts st) (sts.drop (bgn A p sts)) (stS A p sts st)) :=
     Lib.hid (HL3.out.turn hs4 fun g hg hx => ⟨⟨⟨hx.1.1, hng g hx hg⟩, by omega⟩, hab.block g hx.1.1 hg hx.1.2⟩)
    have hpl3 := HPB3.out.lt
    have HPB4 := Lib.hid (HPB3.out.turn (hab.block pb HPX3.out.1.1.1 hpl3 HPX3.out.1.1.2))
    clear hI4 hG4 hab hy hR HL3 HPB3 HPX3 HNB hng; have hlq4 := HL4.out.que.lts
    obtain ⟨svy, avy, hbly, _, _⟩ := HL4.out.row
    have c1 : w4.cell? ⟨lb, 1, none⟩ = _ := hbly.cell 1
    simp only [List.getElem?_toArray, List.getElem?_cons_zero, List.getElem?_cons_succ] at c1
    have lly := hbly.lt; have kbr := HPB4.out; obtain ⟨cz0, cz1, cz2, cz3, cz4, cz5, cz6, cz7, cz8, cz9, cz10, cz11⟩ := cel12 kbr; have lcz := kbr.lt; clear kbr hbly
    obtain ⟨z1, hz1⟩ : ∃ z, decide (stQ A p Q' sts st ≠ []) = z := ⟨_, rfl⟩
    obtain ⟨x1, hx1⟩ : ∃ x, (stQ A p Q' sts st).headD 0 = x := ⟨_, rfl⟩
    have HZ1 := Lib.hid hz1; have HX1 := Lib.hid hx1
    have hq2b : q2 ≤ n + 2 * m + 3 * (k + 1) := by have := HQ2.out; omega
    clear hz1 hx1
    gi_wp2_with fail
    refine ⟨trivial, callsIn_wide.2 ?_⟩
    refine calls_w ?_
    intro w5 hw5
    have kp5 : Blk w5 w4.heap.size (pS12 p) 36 := by rw [hw5]; exact Blk.new _ _ _
    have hb5 : Below w4.heap.size w4 w5 := by rw [hw5]; exact below_a1 _ _
    have HL5 := Lib.hid (HL4.out.of hb5)
    have KP5 := Lib.hid kp5; clear hw5 kp5
    refine (Que_first HZ1.out HX1.out HL5.out.que (by omega)).mono ?_
    rintro e w6 ⟨rfl, hb6⟩
    have hb46 := hb5.trans (hb6.mono hb5.size)
    have HL6 := Lib.hid (HL5.out.of hb6)
    have KP6 := Lib.hid (KP5.out.of hb6)
    have HI6b := Lib.hid (HH.out.2.1 _ (k + 1) w4 w6 HI4.out (.all hb46 hB4))
    have hnG : ¬ G4 w4.heap.size := fun h => by have := (HH.out.2.2.2 _ _ _ HI4.out _ h).2; omega
    have hs6 := hb46.size; clear c1 cz0 cz1 cz2 cz3 cz4 cz5 cz6 cz7 cz8 cz9 cz10 cz11 lcz hb5 hb6 hb46 HL5 KP5 HI4
    gi_wp2_with (refine wpListIn_store_spot rfl _ _ rfl w4.heap.size x1 rfl rfl KP6.out rfl ?_; intro w7 kp7 ho7 hs7)
    have HI7 : Hid (∃ G, I G (k + 1) w7 ∧ Lin w7 (fun g => B ≤ g ∧ ¬ G g) lb t S2 T2 q2 sa m sq (stQ A p Q' sts st) (sts.drop (bgn A p sts)) (stS A p sts st) ∧ Lx (fun g => B ≤ g ∧ ¬ G g) lb t S2 w4.heap.size) := Lib.hid
     ⟨G4, HH.out.2.1 _ (k + 1) w6 w7 HI6b.out (bx_of ho7 (by omega) (by intro b hb; obtain rfl : b = w4.heap.size := (by simpa using hb); exact ⟨hB4, hnG⟩)),
      HL6.out.turn (by omega) fun g hg hx => ⟨hx.1, ho7.block g hg (by simp; omega)⟩, ⟨hB4, hnG⟩, by omega, by omega, by omega, by omega⟩
    have HP7 : Hid (Blk w7 w4.heap.size (pS12 ((stQ A p Q' sts st).headD 0)) 36) := by rw [HX1.out]; exact Lib.hid kp7
    have hso := stS_ok (A := A) (p := p) HALL.out.1 HALL.out.2.1
    have HAL2 : Hid (All m (stS A p sts st) ∧ All m (sts.drop (bgn A p sts)) ∧ (stS A p sts st).length + (sts.drop (bgn A p sts)).length ≤ 4096) := Lib.hid ⟨hso.1, hso.2.1, Nat.le_trans hso.2.2 HALL.out.2.2⟩
    have hB7 : B ≤ w7.heap.size := by omega
    clear kp7 ho7 HL6 KP6 HI6b hnG HL4 HPB4 hso
    gi_wp2_with fail
    gi_roundg (evs.length - (k + 1))
    case measure => omega
    case rel => exact ⟨k + 1, _, q2, g', S2, T2, _, _, _, z1, rfl, rfl, by omega, Nat.le_refl _, HZ1, HRN, HAL2, hq2b, HI7, HP7, hB7⟩
   ·have HX := Lib.hid hx4
    clear hx4 hab hy hR
    gi_wp2
    refine bodyPost_ret (results_none rfl _ _ _) rfl ?_
    exact ⟨⟨_, rfl⟩, .inr ⟨k + 1, hkN, HX.out⟩⟩
theorem Each1_tells (b1 b2 B : Nat) (pa : Option Addr) (n pc : Nat) (Xp Yp : Nat → Int) (sa : Option Addr) (m sq : Nat) (A : Nat → Nat → Int) (hn4 : n ≤ 4096) (hm4 : m ≤ 4096) (hi : ∀ i, i < n → In64 (Xp i) ∧ In64 (Yp i)) (hsp : ∀ i, i < n → SpK (atK (Xp i) (Yp i))) (hlw : ∀ i, i < m → SpK (lowK A i) ∧ SpK (highK A i))
    (hr1 : anyB (fun i => ma1 (Xp i) (Yp i)) n = false) (hr2 : anyB (fun i => ma2 (A i 0) (A i 1) (A i 2) (A i 3)) m = false) (hsx : ∀ g o s, 0 < m → sa = some ⟨g, o, s⟩ → g < B)
    (F : Nat) (evs : List (Int × List Nat)) (hrun : run A F (sQ A (pQ Xp Yp n) m) (msort (ltB A) (List.range m)) [] = some evs) (hcnt : n + 2 * m + 3 * evs.length < 90000) :
    TellsW Try.prog 15 #[ptr b1 0, ptr b2 0] evs.length (evE B evs) B (EaK b1 b2 pa n pc Xp Yp sa m sq A) :=
  fun mm lid I Ix hm hG hst _ hY W hB h0 => Each1_any mm lid b1 b2 B pa n pc Xp Yp sa m sq A hn4 hm4 hi hsp hlw hr1 hr2 hsx F evs hrun hcnt I Ix hm hG hst hY W hB h0
end Go.Proofs.Ytkaolhlmimalkaa

namespace Go.Proofs.Ytkaolhlmimalkaa
open Go.RowKit Go.Shelf
attribute [local go_sem] Oper.semAt_some

/-- the cells of events -/
def evL (vs : List (Int × Value)) : List Value := vs.flatMap fun e => (evC e.1 e.2).toList
theorem evL_app (vs : List (Int × Value)) (p : Int) (s : Value) : evL (vs ++ [(p, s)]) = evL vs ++ (evC p s).toList := by unfold evL; rw [List.flatMap_append]; simp
theorem evL_at : ∀ {vs : List (Int × Value)} {i j : Nat} {p : Int} {s : Value}, vs[i]? = some (p, s) → j < 13 → (evL vs)[i * 13 + j]? = (evC p s).toList[j]?
  | [], _, _, _, _, h, _ => by simp at h
  | e :: vs, 0, j, p, s, h, hj => by
    obtain rfl : e = (p, s) := by simpa using h
    show ((evC p s).toList ++ evL vs)[0 * 13 + j]? = _
    have h13 : (evC p s).toList.length = 13 := rfl
    rw [Nat.zero_mul, Nat.zero_add, List.getElem?_append_left (by omega)]
  | e :: vs, i + 1, j, p, s, h, hj => by
    have h13 : (evC e.1 e.2).toList.length = 13 := rfl
    show ((evC e.1 e.2).toList ++ evL vs)[(i + 1) * 13 + j]? = _
    rw [List.getElem?_append_right (by omega), h13, show (i + 1) * 13 + j - 13 = i * 13 + j by omega]
    exact evL_at (by simpa using h) hj
def EB (w : World) (base : Nat) (v : Value) (vs : List (Int × Value)) : Prop := w.ownsRow base 39 13 v vs.length (evL vs)
theorem EB.none {w : World} {base : Nat} : EB w base (.slice none 0 0) [] := ⟨rfl, .inl ⟨rfl, rfl⟩⟩
theorem EB.turn {w w' : World} {base : Nat} {v : Value} {vs : List (Int × Value)} (h : EB w base v vs) (hb : ∀ g, v.ownBlock = some g → w'.heap[g]? = w.heap[g]?) : EB w' base v vs := by
  refine ⟨h.1, h.2.imp id ?_⟩
  rintro ⟨g, cap, cur, rfl, hbg, hh, r⟩
  exact ⟨g, cap, cur, rfl, hbg, (hb g rfl).trans hh, r⟩
theorem EB.lt {w : World} {base : Nat} {v : Value} {vs : List (Int × Value)} (h : EB w base v vs) {g : Nat} (hg : v.ownBlock = some g) : base ≤ g ∧ g < w.heap.size := World.ownsRow.lt h g hg
/-- an events' row is no numbers' row -/
theorem EB.ne {w : World} {base base' : Nat} {v s : Value} {vs : List (Int × Value)} {L : List Nat} (h : EB w base v vs) (k : NL w base' s L) {g : Nat} (hg : s.ownBlock = some g) : v.ownBlock ≠ some g := by
  intro hv
  rcases h.2 with ⟨rfl, _⟩ | ⟨g1, cap, cur, rfl, _, h1, _⟩
  · cases hv
  · rcases k.2 with ⟨rfl, _⟩ | ⟨g2, cap2, cur2, rfl, _, h2, _⟩
    · cases hg
    · cases hv; cases hg
      rw [h1] at h2
      injection h2 with h2
      injection h2 with _ h2 _
      exact absurd h2 (by decide)
/-- the lists of the events that were told -/
def OnV (w : World) (base : Nat) (evs : List (Int × List Nat)) (vs : List (Int × Value)) : Prop := ∀ i, i < vs.length → ∃ p L s, evs[i]? = some (p, L) ∧ vs[i]? = some (p, s) ∧ NL w base s L
/-- a slice of events, to be read -/
structure Evs (w : World) (ao : Option Addr) (cap : Nat) (evs : List (Int × List Nat)) : Prop where
  ptr : 0 < evs.length → ∃ g, ao = some ⟨g, 0, none⟩ ∧ g < w.heap.size ∧ ∀ i p L, evs[i]? = some (p, L) → (∀ j, j < 12 → w.cell? ⟨g, i * 13 + j, none⟩ = some (.int .u64 (sc p j))) ∧ ∃ a c, w.cell? ⟨g, i * 13 + 12, none⟩ = some (.slice a L.length c) ∧ Ns w a c L
  capl : evs.length ≤ cap
  capb : cap ≤ 9223372036854775807
theorem Evs.of {w w' : World} {ao : Option Addr} {cap : Nat} {evs : List (Int × List Nat)} (h : Evs w ao cap evs) (hb : Below w.heap.size w w') : Evs w' ao cap evs := by
  refine ⟨fun h0 => ?_, h.capl, h.capb⟩
  obtain ⟨g, e, hg, hc⟩ := h.ptr h0
  refine ⟨g, e, Nat.lt_of_lt_of_le hg hb.size, fun i p L hi => ?_⟩
  obtain ⟨c1, a, c, c2, c3⟩ := hc i p L hi
  exact ⟨fun j hj => (hb.cell (p := ⟨g, i * 13 + j, none⟩) hg).trans (c1 j hj), a, c, (hb.cell (p := ⟨g, i * 13 + 12, none⟩) hg).trans c2, c3.of hb⟩
theorem Evs.ofEB {w : World} {base base' : Nat} {v : Value} {vs : List (Int × Value)} {evs : List (Int × List Nat)} (h : EB w base v vs) (ho : OnV w base' evs vs) (hl : vs.length = evs.length) : ∃ ao cap, v = .slice ao evs.length cap ∧ Evs w ao cap evs := by
  rcases h.2 with ⟨rfl, hn⟩ | ⟨g, cap, cur, rfl, hb, hg, h1, h2, h3, h4⟩
  · exact ⟨none, 0, by rw [← hl, hn], fun h0 => by omega, by omega, by omega⟩
  · refine ⟨_, cap, by rw [hl], fun h0 => ⟨g, rfl, (Array.getElem?_eq_some_iff.1 hg).1, fun i p L hi => ?_⟩, by omega, by unfold maxLen at h2; omega⟩
    have hi2 : i < vs.length := by rw [hl]; exact (List.getElem?_eq_some_iff.1 hi).1
    obtain ⟨p', L', s, e1, e2, e3⟩ := ho i hi2
    rw [hi] at e1
    injection e1 with e1
    injection e1 with e1 e1'
    subst e1 e1'
    have key : ∀ j u, j < 13 → (evC p s).toList[j]? = some u → w.cell? ⟨g, i * 13 + j, none⟩ = some u := fun j u hj hu => by
      have h5 := World.ownsRow.cells (g := g) h rfl (i * 13 + j) u ((evL_at e2 hj).trans hu)
      rw [add_pl, Nat.zero_add] at h5
      exact h5
    obtain ⟨a, c, rfl, hns⟩ := Ns.ofNL e3
    refine ⟨fun j hj => ?_, a, c, key 12 _ (by decide) rfl, hns⟩
    match j, hj with
    | 0, _ => exact key 0 _ (by decide) rfl
    | 1, _ => exact key 1 _ (by decide) rfl
    | 2, _ => exact key 2 _ (by decide) rfl
    | 3, _ => exact key 3 _ (by decide) rfl
    | 4, _ => exact key 4 _ (by decide) rfl
    | 5, _ => exact key 5 _ (by decide) rfl
    | 6, _ => exact key 6 _ (by decide) rfl
    | 7, _ => exact key 7 _ (by decide) rfl
    | 8, _ => exact key 8 _ (by decide) rfl
    | 9, _ => exact key 9 _ (by decide) rfl
    | 10, _ => exact key 10 _ (by decide) rfl
    | 11, _ => exact key 11 _ (by decide) rfl
    | j + 12, hj => omega
theorem info_ev : (Try.prog.info? 39).map (fun i => (i.zero, i.size, i.bytes)) = some (some (.agg #[.int .u64 0, .int .u64 0, .int .u64 0, .int .u64 0, .int .u64 0, .int .u64 0, .int .u64 0, .int .u64 0, .int .u64 0, .int .u64 0, .int .u64 0, .int .u64 0, .slice none 0 0]), 13, 120) := by kernel_rfl
theorem EaK.of {b1 b2 : Nat} {pa : Option Addr} {n pc : Nat} {Xp Yp : Nat → Int} {sa : Option Addr} {m sq : Nat} {A : Nat → Nat → Int} {W W' : World} (h : EaK b1 b2 pa n pc Xp Yp sa m sq A W) (hb : Below W.heap.size W W') : EaK b1 b2 pa n pc Xp Yp sa m sq A W' := ⟨h.l1.of hb, h.l2.of hb, h.p.of hb, h.s.of hb⟩
end Go.Proofs.Ytkaolhlmimalkaa

namespace Go.Proofs.Ytkaolhlmimalkaa
open Go.RowKit Go.Shelf
attribute [local go_sem] Oper.semAt_some

theorem own_belowE {w w' : World} {base : Nat} {v : Value} {n : Nat} {xs : List Value} {e : TypeId} {sz : Nat} (h : w.ownsRow base e sz v n xs) (hb : Below w.heap.size w w') : w'.ownsRow base e sz v n xs := by
  refine ⟨h.1, h.2.imp id ?_⟩
  rintro ⟨g, cap, cur, rfl, hbg, hg, r⟩
  exact ⟨g, cap, cur, rfl, hbg, (hb.block _ (Array.getElem?_eq_some_iff.1 hg).1).trans hg, r⟩
theorem Blk.outl {L : List Nat} {W w : World} {b : Nat} {c : Array Value} {t : TypeId} (h : Blk W b c t) (ho : OutL L W w) (hb : b ∉ L) : Blk w b c t := (ho.block b h.lt hb).trans h
/-- where the blocks of the told lists lie -/
def ownV (v : Value) (vs : List (Int × Value)) (g : Nat) : Prop := v.ownBlock = some g ∨ ∃ e, e ∈ vs ∧ e.2.ownBlock = some g
set_option maxRecDepth 100000 in
set_option maxHeartbeats 4000000 in
theorem AppendSeq_is (b1 b2 : Nat) (pa : Option Addr) (n pc : Nat) (Xp Yp : Nat → Int) (sa : Option Addr) (m sq : Nat) (A : Nat → Nat → Int) (evs : List (Int × List Nat)) (hlen : evs.length < 100000) (w : World) (hk0 : EaK b1 b2 pa n pc Xp Yp sa m sq A w)
    (hT : ∀ B, w.heap.size ≤ B → TellsW Try.prog 15 #[ptr b1 0, ptr b2 0] evs.length (evE B evs) B (EaK b1 b2 pa n pc Xp Yp sa m sq A)) :
    Calls Try.prog 34 #[.slice none 0 0, .func (.func 15) #[] #[ptr b1 0, ptr b2 0]] w fun e w' => ∃ ao cap, e = .returned (.slice ao evs.length cap) ∧ Evs w' ao cap evs ∧ Below w.heap.size w w' := by
 have HK := Lib.hid hk0; have HT := Lib.hid hT; clear hk0 hT
 refine (callsIn_wide (n := 3)).1 ?_
 refine callsIn_of_wp_marks Try.func34 rfl trivial ?_ rfl
 simp only [Try.ntmps34, List.size_toArray, List.length_cons, List.length_nil, Nat.reduceAdd, Nat.reduceSub, Array.replicate_succ, Array.replicate_zero, List.push_toArray, List.append_toArray, List.nil_append, List.cons_append]
 gi_wp2_with fail
 refine nameIn ?_
 intro V2 hV
 have kO2 : Blk V2 w.heap.size #[.slice none 0 0] 25 := by rw [hV]; exact Blk.new w _ _
 have hbw2 : Below w.heap.size w V2 := by rw [hV]; exact below_a1 _ _
 have z1 := kO2.lt
 obtain ⟨ob, eob⟩ : ∃ b, w.heap.size = b := ⟨_, rfl⟩
 have o2 : w.heap.size ≤ ob := by omega
 have o3 : ob < V2.heap.size := by omega
 rw [eob] at kO2
 rw [show w.heap.size = ob from eob]
 have HK2 := Lib.hid (HK.out.of hbw2)
 clear hV z1; have hwV := hbw2.size
 refine wpIn_rangeW (m := 1) (gf := 15) (lb := #[ptr b1 0, ptr b2 0]) (N := evs.length) (E := evE (V2.heap.size + 2) evs) (Kp := EaK b1 b2 pa n pc Xp Yp sa m sq A) rfl (fun args w => by go_simp) (HT.out _ (by omega)) rfl
  (fun G k W => ∃ v vs, vs.length = k ∧ Blk W ob #[v] 25 ∧ EB W (V2.heap.size + 2) v vs ∧ OnV W (V2.heap.size + 2) evs vs ∧ Below w.heap.size w W ∧ ∀ g, G g ↔ ownV v vs g)
  (fun _ _ _ => False) ?hg ?stable (fun _ _ _ _ h _ => h.elim) ?keeps ?start ?round ?done (fun _ _ _ _ _ h _ => h.elim)
 case hg =>
  rintro G k W ⟨v, vs, j0, j1, j2, j3, j4, j5⟩ g hg
  rcases (j5 g).1 hg with h | ⟨e, he, h⟩
  ·exact j2.lt h
  ·obtain ⟨i, hi⟩ := List.getElem?_of_mem he
   obtain ⟨p, L, s, _, e2, e3⟩ := j3 i (List.getElem?_eq_some_iff.1 hi).1
   rw [hi] at e2; injection e2 with e2; subst e2
   exact e3.own h
 case stable =>
  rintro G k W W' ⟨v, vs, j0, j1, j2, j3, j4, j5⟩ ⟨hbl, hbg⟩
  refine ⟨v, vs, j0, j1.below hbl (by omega), j2.turn fun g hg => hbg g ((j5 g).2 (.inl hg)) (j2.lt hg).2, fun i hi => ?_, j4.trans (hbl.mono (by omega)), j5⟩
  obtain ⟨p, L, s, e1, e2, e3⟩ := j3 i hi
  exact ⟨p, L, s, e1, e2, e3.turn fun g hg => hbg g ((j5 g).2 (.inr ⟨_, List.mem_of_getElem? e2, hg⟩)) (e3.own hg).2⟩
 case keeps =>
  rintro G k W ⟨v, vs, j0, j1, j2, j3, j4, j5⟩
  exact HK.out.of j4
 case start => exact ⟨_, [], rfl, kO2, EB.none, fun i hi => absurd hi (by simp), hbw2, fun g => ⟨fun h => h.elim, fun h => by
  rcases h with h | ⟨e, he, _⟩
  ·cases h
  ·simp at he⟩⟩
 case round =>
  rintro l2 D2 k vv G H W2 hk ⟨v, vs, j0, j1, j2, j3, j4, j5⟩ ⟨p, L, s, B2, hek, rfl, hnl, hB2, hH⟩ g1 g2 g3 g4
  obtain ⟨va, vc, hs, _⟩ := hnl.val
  obtain ⟨ln, hln⟩ : ∃ l, L.length = l := ⟨_, rfl⟩
  rw [hln] at hs
  subst hs
  have JJ := Lib.hid (And.intro j0 (And.intro j1 (And.intro j2 (And.intro j3 (And.intro j4 j5)))))
  have HE := Lib.hid (And.intro hek (And.intro (hnl.low2 hB2) hH))
  clear j0 j1 j2 j3 j4 j5 hek hnl hB2 hH hln
  gi_wp2_with fail
  have ha1 := below_a1 W2 (.cells #[.int .u64 (sc p 0), .int .u64 (sc p 1), .int .u64 (sc p 2), .int .u64 (sc p 3), .int .u64 (sc p 4), .int .u64 (sc p 5), .int .u64 (sc p 6), .int .u64 (sc p 7), .int .u64 (sc p 8), .int .u64 (sc p 9), .int .u64 (sc p 10), .int .u64 (sc p 11), .slice va ln vc] 39)
  refine ⟨⟨⟨ha1.block _ g3, ha1.block _ g4⟩, .ofAbove (.ofBelow ha1)⟩, ?_⟩
  intro W3 hW3
  obtain ⟨j0, j1, j2, j3, j4, j5⟩ := JJ.out
  have hsz2 : (W2.alloc (.cells #[.int .u64 (sc p 0), .int .u64 (sc p 1), .int .u64 (sc p 2), .int .u64 (sc p 3), .int .u64 (sc p 4), .int .u64 (sc p 5), .int .u64 (sc p 6), .int .u64 (sc p 7), .int .u64 (sc p 8), .int .u64 (sc p 9), .int .u64 (sc p 10), .int .u64 (sc p 11), .slice va ln vc] 39)).heap.size = W2.heap.size + 1 := by simp
  have kT : Blk W3 W2.heap.size #[.int .u64 (sc p 0), .int .u64 (sc p 1), .int .u64 (sc p 2), .int .u64 (sc p 3), .int .u64 (sc p 4), .int .u64 (sc p 5), .int .u64 (sc p 6), .int .u64 (sc p 7), .int .u64 (sc p 8), .int .u64 (sc p 9), .int .u64 (sc p 10), .int .u64 (sc p 11), .slice va ln vc] 39 := (Blk.new W2 _ _).outl hW3 (by simp; omega)
  have kO3 : Blk W3 ob #[v] 25 := (j1.of ha1).outl hW3 (by simp; omega)
  have same : ∀ g, V2.heap.size + 2 ≤ g → g < W2.heap.size → W3.heap[g]? = W2.heap[g]? := fun g h1 h2 => (hW3.block g (by simp; omega) (by simp; omega)).trans (ha1.block g h2)
  have T3 : EB W3 (V2.heap.size + 2) v vs := j2.turn fun g hg => same g (j2.lt hg).1 (j2.lt hg).2
  have O3 : OnV W3 (V2.heap.size + 2) evs vs := fun i hi => by
   obtain ⟨p, L, s, e1, e2, e3⟩ := j3 i hi
   exact ⟨p, L, s, e1, e2, e3.turn fun g hg => same g (e3.own hg).1 (e3.own hg).2⟩
  have N3 : NL W3 (V2.heap.size + 2) (.slice va ln vc) L := HE.out.2.1.turn fun g hg => same g (HE.out.2.1.own hg).1 (HE.out.2.1.own hg).2
  have B3 := Lib.hid (show Below w.heap.size w W3 from (j4.trans (ha1.mono (by have := j4.size; omega))).trans (hW3.below (by have := j4.size; simp; omega) (by simp; omega)))
  unfold EB at T3
  rw [j0] at T3
  have T3L := Lib.hid T3; have O3L := Lib.hid O3; have N3L := Lib.hid N3; have J0 := Lib.hid j0; have J5 := Lib.hid j5
  have hkl : k < 100000 := by omega
  have x0 := kO3.cell 0; have t0 := kT.cell 0; have t1 := kT.cell 1; have t2 := kT.cell 2; have t3 := kT.cell 3; have t4 := kT.cell 4; have t5 := kT.cell 5; have t6 := kT.cell 6; have t7 := kT.cell 7; have t8 := kT.cell 8; have t9 := kT.cell 9; have t10 := kT.cell 10; have t11 := kT.cell 11; have t12 := kT.cell 12
  simp only [List.getElem?_toArray, List.getElem?_cons_zero, List.getElem?_cons_succ] at x0 t0 t1 t2 t3 t4 t5 t6 t7 t8 t9 t10 t11 t12
  have lO := kO3.lt; have lT := kT.lt; have KO3 := Lib.hid kO3
  have hsz3 : V2.heap.size + 2 ≤ W3.heap.size := by have := hW3.size; simp at this; omega
  obtain ⟨i0, hi, hz0, hz1, hz2⟩ := info_parts info_ev
  clear j0 j1 j2 j3 j4 j5 JJ kT kO3 ha1 hW3 T3 O3 N3 same
  have hown := own_belowE T3L.out (below_a1 W3 (.cells #[.int .u64 (sc p 0), .int .u64 (sc p 1), .int .u64 (sc p 2), .int .u64 (sc p 3), .int .u64 (sc p 4), .int .u64 (sc p 5), .int .u64 (sc p 6), .int .u64 (sc p 7), .int .u64 (sc p 8), .int .u64 (sc p 9), .int .u64 (sc p 10), .int .u64 (sc p 11), .slice va ln vc] 39))
  gi_wp2_with (gi_at_builtin; go_loud (refine wpListIn_append_own_at _ rfl _ _ 25 rfl (V2.heap.size + 2) 39 i0 (.agg #[.int .u64 0, .int .u64 0, .int .u64 0, .int .u64 0, .int .u64 0, .int .u64 0, .int .u64 0, .int .u64 0, .int .u64 0, .int .u64 0, .int .u64 0, .int .u64 0, .slice none 0 0]) 13 120 Try.underlying25 hi hz0 hz1 hz2 rfl (by decide) v k (evL vs) rfl hown ⟨W3.heap.size, 0, none⟩ 1 1 [.int .u64 (sc p 0), .int .u64 (sc p 1), .int .u64 (sc p 2), .int .u64 (sc p 3), .int .u64 (sc p 4), .int .u64 (sc p 5), .int .u64 (sc p 6), .int .u64 (sc p 7), .int .u64 (sc p 8), .int .u64 (sc p 9), .int .u64 (sc p 10), .int .u64 (sc p 11), .slice va ln vc] rfl rfl ?c1 ?c2 ?c3 ?c4 ?c5 ?_))
  case c1 =>
   intro j u hj
   match j, hj with
   | 0, hj => simp at hj; subst hj; exact (Blk.new W3 _ _).cell 0
   | 1, hj => simp at hj; subst hj; exact (Blk.new W3 _ _).cell 1
   | 2, hj => simp at hj; subst hj; exact (Blk.new W3 _ _).cell 2
   | 3, hj => simp at hj; subst hj; exact (Blk.new W3 _ _).cell 3
   | 4, hj => simp at hj; subst hj; exact (Blk.new W3 _ _).cell 4
   | 5, hj => simp at hj; subst hj; exact (Blk.new W3 _ _).cell 5
   | 6, hj => simp at hj; subst hj; exact (Blk.new W3 _ _).cell 6
   | 7, hj => simp at hj; subst hj; exact (Blk.new W3 _ _).cell 7
   | 8, hj => simp at hj; subst hj; exact (Blk.new W3 _ _).cell 8
   | 9, hj => simp at hj; subst hj; exact (Blk.new W3 _ _).cell 9
   | 10, hj => simp at hj; subst hj; exact (Blk.new W3 _ _).cell 10
   | 11, hj => simp at hj; subst hj; exact (Blk.new W3 _ _).cell 11
   | 12, hj => simp at hj; subst hj; exact (Blk.new W3 _ _).cell 12
   | j + 13, hj => simp at hj
  case c2 => intro u hu; simp at hu; rcases hu with rfl | rfl | rfl | rfl | rfl | rfl | rfl | rfl | rfl | rfl | rfl | rfl | rfl <;> rfl
  case c3 => unfold maxLen; omega
  case c4 => omega
  case c5 => simp; omega
  intro v1 w1 own1 gr1 _ hat
  obtain ⟨aa, ll, cc, hv1⟩ : ∃ aa ll cc, v1 = .slice aa ll cc := by rcases own1.2 with ⟨e, _⟩ | ⟨g, cap, cur, e, _⟩ <;> exact ⟨_, _, _, e⟩
  subst hv1
  have hsa : (W3.alloc (.cells #[.int .u64 (sc p 0), .int .u64 (sc p 1), .int .u64 (sc p 2), .int .u64 (sc p 3), .int .u64 (sc p 4), .int .u64 (sc p 5), .int .u64 (sc p 6), .int .u64 (sc p 7), .int .u64 (sc p 8), .int .u64 (sc p 9), .int .u64 (sc p 10), .int .u64 (sc p 11), .slice va ln vc] 39)).heap.size = W3.heap.size + 1 := by simp
  have hown2 : ∀ g, v.ownBlock = some g → V2.heap.size + 2 ≤ g ∧ g < W3.heap.size := fun g hg => World.ownsRow.lt T3L.out g hg
  have hW1 : ∀ g, g < W3.heap.size → v.ownBlock ≠ some g → w1.heap[g]? = W3.heap[g]? := fun g h1 h2 => (gr1.block g (by omega) (fun e => h2 e.symm)).trans ((below_a1 W3 _).block g h1)
  have hWf : ∀ g, g ≠ ob → (w1.setCell ⟨ob, 0, none⟩ (.slice aa ll cc)).heap[g]? = w1.heap[g]? := fun g h => Below.heap_setCell w1 ⟨ob, 0, none⟩ (.slice aa ll cc) g h
  have hss : W3.heap.size ≤ w1.heap.size := by have := gr1.size; omega
  have hsf : (w1.setCell ⟨ob, 0, none⟩ (.slice aa ll cc)).heap.size = w1.heap.size := by simp [World.setCell]
  have KO1 : Blk w1 ob #[v] 25 := (hW1 ob lO (fun e => by have := (hown2 _ e).1; omega)).trans KO3.out
  have x1 := KO1.cell 0; have f1 := KO1.free 0; have l1 := KO1.lt
  simp only [List.getElem?_toArray, List.getElem?_cons_zero] at x1
  have EB3 : EB W3 (V2.heap.size + 2) v vs := by unfold EB; rw [J0.out]; exact T3L.out
  have GG : Hid ((Fix2 l2 D2 W3 (w1.setCell ⟨ob, 0, none⟩ (.slice aa ll cc)) ∧ ∃ G' : Nat → Prop, (∀ g, G' g → G g ∨ H g ∨ W3.heap.size ≤ g) ∧ ∃ v vs, vs.length = k + 1 ∧ Blk (w1.setCell ⟨ob, 0, none⟩ (.slice aa ll cc)) ob #[v] 25 ∧ EB (w1.setCell ⟨ob, 0, none⟩ (.slice aa ll cc)) (V2.heap.size + 2) v vs ∧ OnV (w1.setCell ⟨ob, 0, none⟩ (.slice aa ll cc)) (V2.heap.size + 2) evs vs ∧ Below w.heap.size w (w1.setCell ⟨ob, 0, none⟩ (.slice aa ll cc)) ∧ ∀ g, G' g ↔ ownV v vs g) ∧ AboveX (V2.heap.size + 2) G W3 (w1.setCell ⟨ob, 0, none⟩ (.slice aa ll cc))) := by
   have fx : ∀ g, g < W3.heap.size → v.ownBlock ≠ some g → g ≠ ob → (w1.setCell ⟨ob, 0, none⟩ (.slice aa ll cc)).heap[g]? = W3.heap[g]? := fun g h1 h2 h3 => (hWf g h3).trans (hW1 g h1 h2)
   have nO : ∀ g, g < V2.heap.size + 2 → v.ownBlock ≠ some g := fun g h e => by have := (hown2 g e).1; omega
   have h1 : EB w1 (V2.heap.size + 2) (.slice aa ll cc) (vs ++ [(p, .slice va ln vc)]) := by
    unfold EB
    rw [evL_app, List.length_append, J0.out]
    exact own1
   refine Lib.hid ⟨⟨⟨fx l2 (by omega) (nO _ (by omega)) (by omega), fx D2 (by omega) (nO _ (by omega)) (by omega)⟩, ownV (.slice aa ll cc) (vs ++ [(p, .slice va ln vc)]), fun g hg => ?_, .slice aa ll cc, vs ++ [(p, .slice va ln vc)], by rw [List.length_append, J0.out]; rfl, KO1.put 0 (.slice aa ll cc), h1.turn fun g hg => hWf g (by have := (h1.lt hg).1; omega), fun i hi => ?_, ?_, fun g => Iff.rfl⟩, ?_⟩
   ·rcases hg with hg | ⟨e, he, hg⟩
    ·rcases hat with e | e
     ·exact .inl ((J5.out g).2 (.inl (by rw [← e]; exact hg)))
     ·rw [e] at hg; injection hg with hg; exact .inr (.inr (by omega))
    ·rcases List.mem_append.1 he with he | he
     ·exact .inl ((J5.out g).2 (.inr ⟨e, he, hg⟩))
     ·obtain rfl : e = (p, .slice va ln vc) := by simpa using he
      exact .inr (.inl ((HE.out.2.2 g).2 hg))
   ·rw [List.length_append] at hi
    rcases Nat.lt_or_ge i vs.length with h2 | h2
    ·obtain ⟨p', L', s', e1, e2, e3⟩ := O3L.out i h2
     exact ⟨p', L', s', e1, by rw [List.getElem?_append_left h2]; exact e2, e3.turn fun g hg => fx g (e3.own hg).2 (EB3.ne e3 hg) (by have := (e3.own hg).1; omega)⟩
    ·have hik : i = k := by have := J0.out; simp at hi; omega
     subst hik
     exact ⟨p, L, .slice va ln vc, HE.out.1, by rw [List.getElem?_append_right h2, J0.out, Nat.sub_self]; rfl, N3L.out.turn fun g hg => fx g (N3L.out.own hg).2 (EB3.ne N3L.out hg) (by have := (N3L.out.own hg).1; omega)⟩
   ·have gb : Below w.heap.size W3 (w1.setCell ⟨ob, 0, none⟩ (.slice aa ll cc)) := ⟨gr1.os, gr1.tape, gr1.output, by omega, fun g hg => fx g (by omega) (nO g (by omega)) (by omega)⟩
    exact B3.out.trans gb
   ·exact ⟨by omega, fun g h1 h2 h3 => fx g h2 (fun e => h3 ((J5.out g).2 (.inl e))) (by omega)⟩
  clear own1 gr1 hat hown hsa hW1 hWf KO1 x0 t0 t1 t2 t3 t4 t5 t6 t7 t8 t9 t10 t11 t12 T3L EB3
  gi_wp2
  exact GG.out
 case done =>
  rintro Dd G V5 g1 ⟨v, vs, j0, j1, j2, j3, j4, j5⟩ hD
  have c0 := j1.cell 0
  simp only [List.getElem?_toArray, List.getElem?_cons_zero] at c0
  have l0 := j1.lt
  have JJ := Lib.hid (And.intro j0 (And.intro j2 (And.intro j3 j4)))
  clear j0 j1 j2 j3 j4 j5
  gi_wp2
  refine ⟨by simp, .inl ⟨_, _, rfl, run_takeDeferred hD, ?_⟩⟩
  simp only [LeavesInM, LeavesIn]
  have h1 : EB (V5.putObj Dd (.deferred none)) (V2.heap.size + 2) v vs := JJ.out.2.1.turn fun g hg => World.putObj_heap_other (by have := (JJ.out.2.1.lt hg).1; omega)
  have h2 : OnV (V5.putObj Dd (.deferred none)) (V2.heap.size + 2) evs vs := fun i hi => by
   obtain ⟨p, L, s, e1, e2, e3⟩ := JJ.out.2.2.1 i hi
   exact ⟨p, L, s, e1, e2, e3.turn fun g hg => World.putObj_heap_other (by have := (e3.own hg).1; omega)⟩
  obtain ⟨ao, cap, rfl, hevs⟩ := Evs.ofEB h1 h2 JJ.out.1
  exact ⟨_, by simp [results, Try.results34, go_sem], ao, cap, rfl, hevs, JJ.out.2.2.2.trans ((putObj_out V5 Dd _).below (by have := JJ.out.2.2.2.size; omega) (by simp; omega))⟩
theorem Collect_is (b1 b2 : Nat) (pa : Option Addr) (n pc : Nat) (Xp Yp : Nat → Int) (sa : Option Addr) (m sq : Nat) (A : Nat → Nat → Int) (evs : List (Int × List Nat)) (hlen : evs.length < 100000) (w : World) (hk0 : EaK b1 b2 pa n pc Xp Yp sa m sq A w)
    (hT : ∀ B, w.heap.size ≤ B → TellsW Try.prog 15 #[ptr b1 0, ptr b2 0] evs.length (evE B evs) B (EaK b1 b2 pa n pc Xp Yp sa m sq A)) :
    Calls Try.prog 14 #[.func (.func 15) #[] #[ptr b1 0, ptr b2 0]] w fun e w' => ∃ ao cap, e = .returned (.slice ao evs.length cap) ∧ Evs w' ao cap evs ∧ Below w.heap.size w w' := by
  go_enter Try.func14, Try.ntmps14
  go_wp2_with fail
  refine (AppendSeq_is b1 b2 pa n pc Xp Yp sa m sq A evs hlen w hk0 hT).mono ?_
  rintro e w2 ⟨ao, cap, rfl, h1, h2⟩
  go_wp2
  go_ret
  exact ⟨ao, cap, rfl, h1, h2⟩
end Go.Proofs.Ytkaolhlmimalkaa

namespace Go.Proofs.Ytkaolhlmimalkaa
open Go.RowKit Go.Shelf

set_option maxRecDepth 100000 in
theorem Each_is (pa : Option Addr) (n pc : Nat) (Xp Yp : Nat → Int) (sa : Option Addr) (m sq : Nat) (A : Nat → Nat → Int) (w : World) (hp : Pns w pa n pc Xp Yp) (hs : Sgs w sa m sq A) :
    Calls Try.prog 8 #[.slice pa n pc, .slice sa m sq] w fun e w' => e = .returned (.func (.func 15) #[] #[ptr w.heap.size 0, ptr (w.heap.size + 1) 0]) ∧ EaK w.heap.size (w.heap.size + 1) pa n pc Xp Yp sa m sq A w' ∧ Below w.heap.size w w' := by
  have HP := Lib.hid hp; have HS := Lib.hid hs; clear hp hs
  go_enter Try.func8, Try.ntmps8
  go_wp2_with fail
  refine name_q ?_
  intro V hV
  have k1 : Blk V w.heap.size #[.slice pa n pc] 22 := by rw [hV]; exact (Blk.new w _ _).of (below_a1 _ _)
  have k2 : Blk V (w.heap.size + 1) #[.slice sa m sq] 23 := by rw [hV]; have := Blk.new (w.alloc (.cells #[.slice pa n pc] 22)) #[.slice sa m sq] 23; rwa [World.size_alloc] at this
  have hb : Below w.heap.size w V := by rw [hV]; exact below_a2 _ _ _
  clear hV
  go_ret
  exact ⟨rfl, ⟨k1, k2, HP.out.of hb, HS.out.of hb⟩, hb⟩
/-- a refused call -/
def mayV (n m : Nat) (r1 r2 : Bool) : Int := if 4096 < n ∨ 4096 < m then 12 else bif r1 || r2 then 11 else 0
set_option maxRecDepth 100000 in
theorem may_many (pa : Option Addr) (n pc : Nat) (sa : Option Addr) (m sq : Nat) (w : World) (h : 4096 < n ∨ 4096 < m) (hn : n ≤ 9223372036854775807) (hm : m ≤ 9223372036854775807) :
    Calls Try.prog 13 #[.slice pa n pc, .slice sa m sq] w fun e w' => e = .returned (.int .i64 12) ∧ Below w.heap.size w w' := by
  go_enter Try.func13, Try.ntmps13
  by_cases h1 : 4096 < n
  · have h1' : (n : Int) > 4096 := by omega
    go_wp2
    go_ret
    exact ⟨rfl, Below.refl _ _⟩
  · have h1' : ¬ ((n : Int) > 4096) := by omega
    have h2' : (m : Int) > 4096 := by omega
    go_wp2
    go_ret
    exact ⟨rfl, Below.refl _ _⟩
/-- may, told whole -/
theorem May_is (pa : Option Addr) (n pc : Nat) (X Y : Nat → Int) (sa : Option Addr) (m sc : Nat) (A : Nat → Nat → Int) (w : World) (hp : Pns w pa n pc X Y) (hs : Sgs w sa m sc A) (c : Int) (hc : mayV n m (anyB (fun i => ma1 (X i) (Y i)) n) (anyB (fun i => ma2 (A i 0) (A i 1) (A i 2) (A i 3)) m) = c) :
    Calls Try.prog 13 #[.slice pa n pc, .slice sa m sc] w fun e w' => e = .returned (.int .i64 c) ∧ Below w.heap.size w w' := by
  subst hc
  unfold mayV
  have c1 := hp.capl; have c2 := hp.capb; have c3 := hs.capl; have c4 := hs.capb
  by_cases h : 4096 < n ∨ 4096 < m
  · rw [if_pos h]; exact may_many pa n pc sa m sc w h (by omega) (by omega)
  · rw [if_neg h]; exact may_is pa n pc X Y sa m sc A w hp hs (by omega) (by omega) _ _ rfl rfl
set_option maxRecDepth 100000 in
set_option maxHeartbeats 1000000 in
theorem Events_no (pa : Option Addr) (n pc : Nat) (X Y : Nat → Int) (sa : Option Addr) (m sc : Nat) (A : Nat → Nat → Int) (w : World) (hp : Pns w pa n pc X Y) (hs : Sgs w sa m sc A) (c : Int) (hc : mayV n m (anyB (fun i => ma1 (X i) (Y i)) n) (anyB (fun i => ma2 (A i 0) (A i 1) (A i 2) (A i 3)) m) = c) (hc0 : c ≠ 0) :
    Calls Try.prog 7 #[.slice pa n pc, .slice sa m sc] w fun e w' => e = .returned (.tuple #[.slice none 0 0, .int .i64 c]) ∧ Below w.heap.size w w' := by
  have HM := Lib.hid (May_is pa n pc X Y sa m sc A w hp hs c hc)
  clear hp hs hc
  go_enter Try.func7, Try.ntmps7
  go_wp2_with fail
  refine HM.out.mono ?_
  rintro e w1 ⟨rfl, hb⟩
  clear HM
  have hcc : (c == 0) = false := by simpa using hc0
  go_wp2
  go_ret2
  exact ⟨rfl, hb⟩
set_option maxRecDepth 100000 in
set_option maxHeartbeats 1000000 in
theorem Events_ok (pa : Option Addr) (n pc : Nat) (X Y : Nat → Int) (sa : Option Addr) (m sc : Nat) (A : Nat → Nat → Int) (w : World) (hp : Pns w pa n pc X Y) (hs : Sgs w sa m sc A) (hc : mayV n m (anyB (fun i => ma1 (X i) (Y i)) n) (anyB (fun i => ma2 (A i 0) (A i 1) (A i 2) (A i 3)) m) = 0) (evs : List (Int × List Nat)) (hlen : evs.length < 100000)
    (hT : ∀ b1 b2 B, w.heap.size ≤ B → TellsW Try.prog 15 #[ptr b1 0, ptr b2 0] evs.length (evE B evs) B (EaK b1 b2 pa n pc X Y sa m sc A)) :
    Calls Try.prog 7 #[.slice pa n pc, .slice sa m sc] w fun e w' => ∃ ao cap, e = .returned (.tuple #[.slice ao evs.length cap, .int .i64 0]) ∧ Evs w' ao cap evs ∧ Below w.heap.size w w' := by
  have HM := Lib.hid (May_is pa n pc X Y sa m sc A w hp hs 0 hc)
  have HP := Lib.hid hp; have HS := Lib.hid hs; have HT := Lib.hid hT; clear hp hs hc hT
  go_enter Try.func7, Try.ntmps7
  go_wp2_with fail
  refine HM.out.mono ?_
  rintro e w1 ⟨rfl, hb⟩
  clear HM
  go_wp2_with fail
  refine (Each_is pa n pc X Y sa m sc A w1 (HP.out.of hb) (HS.out.of hb)).mono ?_
  rintro e w2 ⟨rfl, hk, hb2⟩
  have hb3 := hb.trans (hb2.mono hb.size)
  have HB3 := Lib.hid hb3
  have HC := Lib.hid (Collect_is w1.heap.size (w1.heap.size + 1) pa n pc X Y sa m sc A evs hlen w2 hk (fun B hB => HT.out _ _ B (Nat.le_trans hb3.size hB)))
  clear hk hb hb2 hb3 HT
  go_wp2_with fail
  refine HC.out.mono ?_
  rintro e w3 ⟨ao, cap, rfl, hevs, hb4⟩
  have HE := Lib.hid (And.intro hevs (HB3.out.trans (hb4.mono HB3.out.size)))
  clear HC hevs hb4
  go_wp2
  go_ret2
  exact ⟨ao, cap, rfl, HE.out.1, HE.out.2⟩
end Go.Proofs.Ytkaolhlmimalkaa

namespace Go.Proofs.Ytkaolhlmimalkaa
open Go.RowKit Go.Shelf

set_option maxRecDepth 100000 in
theorem Each1_none (b1 b2 B : Nat) (pa : Option Addr) (n pc : Nat) (Xp Yp : Nat → Int) (sa : Option Addr) (m sq : Nat) (A : Nat → Nat → Int) (c : Int) (hc : mayV n m (anyB (fun i => ma1 (Xp i) (Yp i)) n) (anyB (fun i => ma2 (A i 0) (A i 1) (A i 2) (A i 3)) m) = c) (hc0 : c ≠ 0) :
    TellsW Try.prog 15 #[ptr b1 0, ptr b2 0] ([] : List (Int × List Nat)).length (evE B []) B (EaK b1 b2 pa n pc Xp Yp sa m sq A) := by
  intro mm lid I Ix hm hG hst _ hY W hB h0
  refine callsIn_of_wp Try.func15 rfl trivial ?_ rfl
  simp only [Try.ntmps15, List.size_toArray, List.length_cons, List.length_nil, Nat.reduceAdd, Nat.reduceSub, Array.replicate_succ, Array.replicate_zero, List.push_toArray, List.append_toArray, List.nil_append, List.cons_append]
  have KK := hm _ _ _ h0; have r1 := KK.l1.cell 0; have r2 := KK.l2.cell 0; have l1 := KK.l1.lt; have l2 := KK.l2.lt
  simp only [List.getElem?_toArray, List.getElem?_cons_zero] at r1 r2
  have HM := Lib.hid (May_is pa n pc Xp Yp sa m sq A W KK.p KK.s c hc)
  have HH := Lib.hid (And.intro hst h0)
  have hcc : (c == 0) = false := by simpa using hc0
  clear hm hG hst hY h0 KK hc
  gi_wp2_with fail
  refine ⟨trivial, callsIn_wide.2 ?_⟩
  refine HM.out.mono ?_
  rintro e w1 ⟨rfl, hb⟩
  have HF := Lib.hid (HH.out.1 _ 0 W w1 HH.out.2 (.all hb hB))
  clear HH HM r1 r2 l1 l2
  gi_wp2
  refine bodyPost_ret (results_none rfl _ _ _) rfl ?_
  exact ⟨⟨_, rfl⟩, .inl ⟨_, HF.out⟩⟩
/-- do two of them go different ways? -/
def metA (A : Nat → Nat → Int) (L : List Nat) (i k : Nat) : Bool := decide (slopeK A (L.getD i 0) (L.getD k 0) ≠ 0)
def metR (A : Nat → Nat → Int) (L : List Nat) (i : Nat) : Bool := anyB (metA A L i) L.length
def metV (A : Nat → Nat → Int) (L : List Nat) : Bool := anyB (metR A L) L.length
set_option maxRecDepth 100000 in
set_option maxHeartbeats 4000000 in
theorem Meets_is (p : Int) (ao : Option Addr) (cap n : Nat) (L : List Nat) (hl : L.length = n) (sa : Option Addr) (m sq : Nat) (A : Nat → Nat → Int) (w : World) (hL : Ns w ao cap L) (hs : Sgs w sa m sq A) (hm : All m L) (hn : n ≤ 4096) (r : Bool) (hr : metV A L = r) :
    Calls Try.prog 12 #[.agg #[.int .u64 (sc p 0), .int .u64 (sc p 1), .int .u64 (sc p 2), .int .u64 (sc p 3), .int .u64 (sc p 4), .int .u64 (sc p 5), .int .u64 (sc p 6), .int .u64 (sc p 7), .int .u64 (sc p 8), .int .u64 (sc p 9), .int .u64 (sc p 10), .int .u64 (sc p 11), .slice ao n cap], .slice sa m sq] w fun e w' => e = .returned (.bool r) ∧ Below w.heap.size w w' := by
 have hcl := hL.capl; have hcb := hL.capb
 rw [hl] at hcl
 have hA := hs.i64; have hsl := hs.capl; have hsb := hs.capb; have HL := Lib.hid hL; have HS := Lib.hid hs; have HM := Lib.hid hm; have HN := Lib.hid hl; have HR := Lib.hid hr; clear hL hs hm hl hr
 go_enter Try.func12, Try.ntmps12
 go_wp2_with fail
 refine name_world ?_
 intro V hV
 have kb : Blk V w.heap.size #[.int .u64 (sc p 0), .int .u64 (sc p 1), .int .u64 (sc p 2), .int .u64 (sc p 3), .int .u64 (sc p 4), .int .u64 (sc p 5), .int .u64 (sc p 6), .int .u64 (sc p 7), .int .u64 (sc p 8), .int .u64 (sc p 9), .int .u64 (sc p 10), .int .u64 (sc p 11), .slice ao n cap] 39 := by rw [hV]; exact Blk.new _ _ _
 have hbV : Below w.heap.size w V := by rw [hV]; exact below_a1 _ _
 have KB := Lib.hid kb
 have HLV := Lib.hid (HL.out.of hbV)
 have HSV := Lib.hid (HS.out.of hbV)
 have c12 := kb.cell 12
 simp only [List.getElem?_toArray, List.getElem?_cons_zero, List.getElem?_cons_succ] at c12
 have lk := kb.lt; have HBV := Lib.hid hbV; have hVs := hbV.size; clear hV kb hbV
 go_wp2_with fail
 clear c12
 go_loopg [6, 8, 12, 19] n (fun gk _ _ s12 _ wr => ∃ i : Nat, s12 = .int .i64 (i : Nat) ∧ i ≤ n ∧ n - i ≤ gk ∧ Hid (∀ j, j < i → metR A L j = false) ∧ Below V.heap.size V wr)
 case atStart => exact ⟨0, rfl, Nat.zero_le _, by omega, Lib.hid fun j hj => absurd hj (by omega), Below.refl _ _⟩
 case round =>
  obtain ⟨i, rfl, hi, hg, HALL, hbl⟩ := hrel
  by_cases h1 : i < n
  ·obtain ⟨g, o, rfl, hgl, hc⟩ := HLV.out.ptr (by rw [HN.out]; omega)
   obtain ⟨x, hx⟩ : ∃ x, L[i]? = some x := ⟨L[i]'(by rw [HN.out]; omega), List.getElem?_eq_getElem _⟩
   have e0 := (hbl.cell (p := ⟨g, o + i, none⟩) hgl).trans (hc i x hx)
   have hxm : x < m := HM.out x (List.mem_of_getElem? hx)
   have HXI := Lib.hid hx; have HC := Lib.hid hc; have hsz := hbl.size; have kbr := KB.out.below hbl lk; have c12 := kbr.cell 12
   simp only [List.getElem?_toArray, List.getElem?_cons_zero, List.getElem?_cons_succ] at c12
   have lg : g < wr.heap.size := by omega
   have lkr : w.heap.size < wr.heap.size := by omega
   clear hx hc kbr
   go_wp2_with fail
   clear c12 e0
   refine name_world ?_
   intro wo hwo
   subst hwo
   go_loopg [8, 19] n (fun gk _ s19 wr => ∃ j : Nat, s19 = .int .i64 (j : Nat) ∧ j ≤ n ∧ n - j ≤ gk ∧ Hid (∀ t, t < j → metA A L i t = false) ∧ Below wo.heap.size wo wr)
   case atStart => exact ⟨0, rfl, Nat.zero_le _, by omega, Lib.hid fun j hj => absurd hj (by omega), Below.refl _ _⟩
   case round =>
    obtain ⟨j, rfl, hj, hgj, HAJ, hbj⟩ := hrel
    have hbr := hbl.trans (hbj.mono hsz)
    by_cases h2 : j < n
    ·obtain ⟨y, hy⟩ : ∃ y, L[j]? = some y := ⟨L[j]'(by rw [HN.out]; omega), List.getElem?_eq_getElem _⟩
     have e0 := (hbr.cell (p := ⟨g, o + j, none⟩) hgl).trans (HC.out j y hy)
     have hym : y < m := HM.out y (List.mem_of_getElem? hy)
     have HYI := Lib.hid hy
     obtain ⟨sg, so, rfl, hsgl, hsc⟩ := HSV.out.ptr (by omega)
     have sx0 := (hbr.cell (p := ⟨sg, so + x * 4, none⟩) hsgl).trans (hsc x hxm 0 (by decide))
     have sx1 := (hbr.cell (p := ⟨sg, so + x * 4 + 1, none⟩) hsgl).trans (hsc x hxm 1 (by decide))
     have sx2 := (hbr.cell (p := ⟨sg, so + x * 4 + 2, none⟩) hsgl).trans (hsc x hxm 2 (by decide))
     have sx3 := (hbr.cell (p := ⟨sg, so + x * 4 + 3, none⟩) hsgl).trans (hsc x hxm 3 (by decide))
     have sy0 := (hbr.cell (p := ⟨sg, so + y * 4, none⟩) hsgl).trans (hsc y hym 0 (by decide))
     have sy1 := (hbr.cell (p := ⟨sg, so + y * 4 + 1, none⟩) hsgl).trans (hsc y hym 1 (by decide))
     have sy2 := (hbr.cell (p := ⟨sg, so + y * 4 + 2, none⟩) hsgl).trans (hsc y hym 2 (by decide))
     have sy3 := (hbr.cell (p := ⟨sg, so + y * 4 + 3, none⟩) hsgl).trans (hsc y hym 3 (by decide))
     have hszj := hbj.size
     have lgj : g < wr.heap.size := by omega
     have ls : sg < wr.heap.size := by omega
     obtain ⟨rs, hrs⟩ : ∃ r, slopeK A x y = r := ⟨_, rfl⟩
     have HRS := Lib.hid hrs
     have HMA : Hid (metA A L i j = decide (rs ≠ 0)) := by
      unfold metA
      rw [List.getD_eq_getElem?_getD, List.getD_eq_getElem?_getD, HXI.out, hy]
      show Hid (decide (slopeK A x y ≠ 0) = _)
      rw [hrs]; exact Lib.hid rfl
     clear hy hsc hrs
     go_wp2_with fail
     refine wp_region_up wr.heap.size 27 [(true, 0), (true, 1), (true, 2), (true, 3), (true, 4), (true, 5), (true, 6), (true, 7), (true, 8), (true, 9), (true, 10), (true, 11), (true, 12), (true, 13), (true, 14), (true, 15), (true, 16), (true, 17), (true, 18), (true, 19), (true, 20), (true, 21), (true, 22), (true, 23), (true, 24), (true, 25), (true, 26)] (by kernel_rfl) (by kernel_rfl) (fun _ _ d _ _ h => by cases d <;> exact h) ?_
     have hb : Below wr.heap.size wr wr.drew := (Below.refl _ _).drew
     iterate 27
      first | refine wpS_takeL rfl rfl ?_ | refine wpS_takeB rfl rfl rfl ?_
      first | go_big_quiet_step (rfl) | (go_big_quiet_want; go_big_quiet_op; refine ⟨_, fun _ => rfl, ?_⟩; go_big_quiet_on)
      refine wpQuiet_nil ?_
     refine wpS_nil ?_
     simp only [List.drop_succ_cons, List.drop_zero]
     go_wp2_with fail
     refine (SlopeK_is hA x y rs HRS.out _).mono ?_
     rintro e w4 ⟨rfl, hn4⟩
     have hbj2 : Below wo.heap.size wo w4 := hbj.trans ((hb.trans (hn4.mono hb.size)).mono hszj)
     clear hb hn4 sx0 sx1 sx2 sx3 sy0 sy1 sy2 sy3 e0
     by_cases hr0 : rs = 0
     ·have HAJ2 : Hid (∀ t, t < j + 1 → metA A L i t = false) := Lib.hid fun t ht => by
       by_cases e : t = j
       ·rw [e, HMA.out, hr0]; rfl
       ·exact HAJ.out t (by omega)
      clear HMA HAJ HRS; subst hr0
      go_wp2_with fail
      go_roundg (n - (j + 1))
      case measure => omega
      case rel => exact ⟨j + 1, by norm_cast, by omega, Nat.le_refl _, HAJ2, hbj2⟩
     ·have hrt : r = true := by
       rw [← HR.out]
       exact anyB_hit (k := i) (by rw [HN.out]; exact h1) (anyB_hit (k := j) (by rw [HN.out]; exact h2) (by rw [HMA.out]; simpa using hr0))
      have hb1 : (rs == 0) = false := by simpa using hr0
      have hb2 : (rs != 0) = true := by simpa using hr0
      have HBF := Lib.hid (HBV.out.trans ((hbl.trans (hbj2.mono hsz)).mono hVs))
      subst hrt; clear HMA HAJ HRS HR
      go_wp2_with fail
      go_ret
      exact ⟨rfl, HBF.out⟩
    ·have hjn : j = n := by omega
     have hmi : metR A L i = false := by
      unfold metR; rw [HN.out, ← hjn]; exact anyB_no HAJ.out
     have HALL2 : Hid (∀ t, t < i + 1 → metR A L t = false) := Lib.hid fun t ht => by
      by_cases e : t = i
      ·rw [e]; exact hmi
      ·exact HALL.out t (by omega)
     clear HAJ HALL hmi; subst hjn
     go_wp2_with fail
     go_roundg (j - (i + 1))
     case measure => omega
     case rel => exact ⟨i + 1, by norm_cast, by omega, Nat.le_refl _, HALL2, hbr⟩
  ·have hin : i = n := by omega
   have hrf : r = false := by
    rw [← HR.out]; unfold metV; rw [HN.out, ← hin]; exact anyB_no HALL.out
   have HBF := Lib.hid (HBV.out.trans (hbl.mono hVs))
   subst hrf; clear HALL HR
   go_wp2_with fail
   go_ret
   exact ⟨rfl, HBF.out⟩
end Go.Proofs.Ytkaolhlmimalkaa

namespace Go.Proofs.Ytkaolhlmimalkaa
open Go.RowKit

theorem qput_up {x : Int} : ∀ {l : List Int}, UpK ky l → UpK ky (qput x l)
  | [], _ => List.pairwise_singleton _ _
  | y :: l, h => by
    obtain ⟨h1, h2⟩ := List.pairwise_cons.1 h
    unfold qput
    by_cases e : ky x = ky y
    · rw [if_pos e]; exact h
    · rw [if_neg e]
      by_cases e2 : ky x < ky y
      · rw [if_pos e2]
        refine List.pairwise_cons.2 ⟨fun z hz => ?_, h⟩
        rcases List.mem_cons.1 hz with rfl | hz
        · exact e2
        · have := h1 z hz; omega
      · rw [if_neg e2]
        refine List.pairwise_cons.2 ⟨fun z hz => ?_, qput_up h2⟩
        rcases qput_mem hz with rfl | hz
        · omega
        · exact h1 z hz
/-- a queue of places that may be -/
structure QOk (C : List Int) (b : Int) (Q : List Int) : Prop where
  up : UpK ky Q
  sp : ∀ q ∈ Q, SpK q
  gt : ∀ q ∈ Q, b < ky q
  cand : ∀ q ∈ Q, ∃ c ∈ C, ky c = ky q
theorem QOk.put {C : List Int} {b : Int} {Q : List Int} (h : QOk C b Q) {x : Int} (h1 : SpK x) (h2 : b < ky x) (h3 : ∃ c ∈ C, ky c = ky x) : QOk C b (qput x Q) :=
  ⟨qput_up h.up, fun q hq => (qput_mem hq).elim (fun e => e ▸ h1) (h.sp q), fun q hq => (qput_mem hq).elim (fun e => e ▸ h2) (h.gt q), fun q hq => (qput_mem hq).elim (fun e => e ▸ h3) (h.cand q)⟩
/-- whatever two of the segments meet in is a candidate -/
def Clo (A : Nat → Nat → Int) (m : Nat) (C : List Int) : Prop := ∀ i k, i < m → k < m → meetK A i k = 1 → SpK (meetP A i k) → ∃ c ∈ C, ky c = ky (meetP A i k)
theorem getD_lt {L : List Nat} {m i : Nat} (h : All m L) (hi : i < L.length) : L.getD i 0 < m := by
  rw [List.getD_eq_getElem?_getD, List.getElem?_eq_getElem hi]
  exact h _ (List.getElem_mem hi)
theorem lkQ_ok {A : Nat → Nat → Int} {m : Nat} {C Q : List Int} {L : List Nat} {p : Int} (hc : Clo A m C) (hm : All m L) (h : QOk C (ky p) Q) {i : Int} {k : Nat} (hik : i < k) : QOk C (ky p) (lkQ A L Q i k p) := by
  unfold lkQ
  split
  · exact h
  · rename_i hn
    have h1 : ¬ i < 0 := fun e => hn (.inl e)
    have h2 : ¬ L.length ≤ k := fun e => hn (.inr e)
    unfold lkM
    split
    · rename_i hm1
      obtain ⟨sa, sb⟩ := ccmp_ne (show ccmp (meetP A (L.getD i.toNat 0) (L.getD k 0)) p ≠ 0 by omega)
      refine h.put sa ?_ (hc _ _ (getD_lt hm (by omega)) (getD_lt hm (by omega)) hm1.1 sa)
      exact ((ordK_ky _ _ sa sb).2).1 hm1.2
    · exact h
/-- how many candidates lie behind a place -/
def cntB (C : List Int) (b : Int) : Nat := C.countP fun c => decide (b < ky c)
theorem cntB_lt {C : List Int} {b b' : Int} (hb : b < b') (h : ∃ c ∈ C, ky c = b') : cntB C b' < cntB C b := by
  obtain ⟨c, hc, rfl⟩ := h
  unfold cntB
  obtain ⟨l1, l2, rfl⟩ := List.append_of_mem hc
  have mono : ∀ l : List Int, l.countP (fun c' => decide (ky c < ky c')) ≤ l.countP (fun c' => decide (b < ky c')) := fun l =>
    List.countP_mono_left fun x _ hx => by simp at hx ⊢; omega
  rw [List.countP_append, List.countP_append, List.countP_cons, List.countP_cons]
  have m1 := mono l1; have m2 := mono l2
  have e1 : decide (ky c < ky c) = false := by simp
  have e2 : decide (b < ky c) = true := by simpa using hb
  simp only [e1, e2, if_true]
  simp
  omega
theorem run_ends {A : Nat → Nat → Int} {m : Nat} {C : List Int} (hc : Clo A m C) : ∀ (g : Nat) (b : Int) (Q : List Int) (sts st : List Nat), cntB C b ≤ g → QOk C b Q → All m st → All m sts → ∃ evs, run A g Q sts st = some evs ∧ evs.length ≤ cntB C b
  | 0, b, [], sts, st, _, _, _, _ => ⟨[], rfl, Nat.zero_le _⟩
  | g + 1, b, [], sts, st, _, _, _, _ => ⟨[], rfl, Nat.zero_le _⟩
  | 0, b, p :: Q, sts, st, hg, hQ, _, _ => by
    have := cntB_lt (hQ.gt p (List.mem_cons_self ..)) (hQ.cand p (List.mem_cons_self ..)); omega
  | g + 1, b, p :: Q, sts, st, hg, hQ, h1, h2 => by
    have hlt := cntB_lt (hQ.gt p (List.mem_cons_self ..)) (hQ.cand p (List.mem_cons_self ..))
    obtain ⟨s1, s2, _⟩ := stS_ok (A := A) (p := p) h1 h2
    have hu := List.pairwise_cons.1 hQ.up
    have hQ' : QOk C (ky p) Q := ⟨hu.2, fun q hq => hQ.sp q (List.mem_cons_of_mem _ hq), fun q hq => hu.1 q hq, fun q hq => hQ.cand q (List.mem_cons_of_mem _ hq)⟩
    have hQ2 : QOk C (ky p) (stQ A p Q sts st) := by
      unfold stQ quL
      have a1 := lkQ_ok (i := ((bnd A p st 0 : Nat) : Int) - 1) (k := bnd A p st 0) hc s1 hQ' (by omega)
      split
      · exact lkQ_ok hc s1 a1 (by omega)
      · exact a1
    obtain ⟨evs, e1, e2⟩ := run_ends hc g (ky p) _ _ _ (by omega) hQ2 s1 s2
    refine ⟨(p, msort ltI (stO A p sts st)) :: evs, ?_, ?_⟩
    · unfold run; rw [e1]; rfl
    · rw [List.length_cons]; omega
theorem cntB_le (C : List Int) (b : Int) : cntB C b ≤ C.length := List.countP_le_length
/-- a sweep whose first places are candidates comes to an end -/
theorem run_some {A : Nat → Nat → Int} {m : Nat} {C Q : List Int} {sts : List Nat} (hc : Clo A m C) (hu : UpK ky Q) (hs : ∀ q ∈ Q, SpK q) (hq : ∀ q ∈ Q, ∃ c ∈ C, ky c = ky q) (h2 : All m sts) : ∃ evs, run A C.length Q sts [] = some evs ∧ evs.length ≤ C.length := by
  obtain ⟨b, hb⟩ : ∃ b : Int, ∀ q ∈ Q, b < ky q := by
    cases Q with
    | nil => exact ⟨0, fun q hq => by simp at hq⟩
    | cons p Q =>
      refine ⟨ky p - 1, fun q hq => ?_⟩
      rcases List.mem_cons.1 hq with rfl | hq
      · omega
      · have := (List.pairwise_cons.1 hu).1 q hq; omega
  obtain ⟨evs, e1, e2⟩ := run_ends hc C.length b Q sts [] (cntB_le C b) ⟨hu, hs, hb, hq⟩ (fun z hz => by simp at hz) h2
  exact ⟨evs, e1, Nat.le_trans e2 (cntB_le C b)⟩
/-- all places of the points and ends -/
theorem pQ_mem {X Y : Nat → Int} : ∀ {n : Nat} {q : Int}, q ∈ pQ X Y n → ∃ i, i < n ∧ q = atK (X i) (Y i)
  | 0, q, h => by simp [pQ] at h
  | n + 1, q, h => by
    rcases qput_mem h with e | h
    · exact ⟨n, by omega, e⟩
    · obtain ⟨i, hi, e⟩ := pQ_mem h; exact ⟨i, by omega, e⟩
theorem pQ_up {X Y : Nat → Int} : ∀ n : Nat, UpK ky (pQ X Y n)
  | 0 => List.Pairwise.nil
  | n + 1 => qput_up (pQ_up n)
theorem sQ_mem {A : Nat → Nat → Int} {Q : List Int} : ∀ {m : Nat} {q : Int}, q ∈ sQ A Q m → q ∈ Q ∨ ∃ i, i < m ∧ (q = lowK A i ∨ q = highK A i)
  | 0, q, h => .inl h
  | m + 1, q, h => by
    rcases qput_mem h with e | h
    · exact .inr ⟨m, by omega, .inr e⟩
    · rcases qput_mem h with e | h
      · exact .inr ⟨m, by omega, .inl e⟩
      · rcases sQ_mem h with h | ⟨i, hi, e⟩
        · exact .inl h
        · exact .inr ⟨i, by omega, e⟩
theorem sQ_up {A : Nat → Nat → Int} {Q : List Int} (h : UpK ky Q) : ∀ m : Nat, UpK ky (sQ A Q m)
  | 0 => h
  | m + 1 => qput_up (qput_up (sQ_up h m))
/-- all candidates -/
def cands (X Y : Nat → Int) (n : Nat) (A : Nat → Nat → Int) (m : Nat) : List Int :=
  (List.range n).map (fun i => atK (X i) (Y i)) ++ (List.range m).map (lowK A) ++ (List.range m).map (highK A) ++ (List.range m).flatMap fun i => (List.range m).map fun k => meetP A i k
theorem cands_len (X Y : Nat → Int) (n : Nat) (A : Nat → Nat → Int) (m : Nat) : (cands X Y n A m).length = n + 2 * m + m * m := by
  unfold cands
  simp only [List.length_append, List.length_map, List.length_range]
  have : ∀ l : List Nat, (l.flatMap fun i => (List.range m).map fun k => meetP A i k).length = l.length * m := fun l => by
    induction l with
    | nil => simp
    | cons a l ih => rw [List.flatMap_cons, List.length_append, ih, List.length_map, List.length_range, List.length_cons, Nat.add_mul, Nat.one_mul]; omega
  rw [this, List.length_range]; omega
/-- the sweep of right points and segments comes to an end -/
theorem run_all (X Y : Nat → Int) (n : Nat) (A : Nat → Nat → Int) (m : Nat) (hp : ∀ i, i < n → SpK (atK (X i) (Y i))) (hl : ∀ i, i < m → SpK (lowK A i) ∧ SpK (highK A i)) :
    ∃ evs, run A (n + 2 * m + m * m) (sQ A (pQ X Y n) m) (msort (ltB A) (List.range m)) [] = some evs ∧ evs.length ≤ n + 2 * m + m * m := by
  have hmem : ∀ q ∈ sQ A (pQ X Y n) m, (SpK q) ∧ q ∈ cands X Y n A m := by
    intro q hq
    rcases sQ_mem hq with h | ⟨i, hi, e | e⟩
    · obtain ⟨i, hi, rfl⟩ := pQ_mem h
      exact ⟨hp i hi, by unfold cands; simp only [List.mem_append, List.mem_map, List.mem_range]; exact .inl (.inl (.inl ⟨i, hi, rfl⟩))⟩
    · subst e
      exact ⟨(hl i hi).1, by unfold cands; simp only [List.mem_append, List.mem_map, List.mem_range]; exact .inl (.inl (.inr ⟨i, hi, rfl⟩))⟩
    · subst e
      exact ⟨(hl i hi).2, by unfold cands; simp only [List.mem_append, List.mem_map, List.mem_range]; exact .inl (.inr ⟨i, hi, rfl⟩)⟩
  have := run_some (A := A) (m := m) (C := cands X Y n A m) (Q := sQ A (pQ X Y n) m) (sts := msort (ltB A) (List.range m))
    (fun i k hi hk _ _ => ⟨meetP A i k, by unfold cands; simp only [List.mem_append, List.mem_flatMap, List.mem_map, List.mem_range]; exact .inr ⟨i, hi, k, hk, rfl⟩, rfl⟩)
    (sQ_up (pQ_up n) m) (fun q hq => (hmem q hq).1) (fun q hq => ⟨q, (hmem q hq).2, rfl⟩) (fun z hz => List.mem_range.1 (((msort_ok _ _).1 z).1 hz))
  rwa [cands_len] at this
end Go.Proofs.Ytkaolhlmimalkaa

namespace Go.Proofs.Ytkaolhlmimalkaa
open Go.RowKit Go.Shelf

theorem anyB_each {f : Nat → Bool} {n : Nat} (h : anyB f n = false) {i : Nat} (hi : i < n) : f i = false := by
  cases hf : f i with
  | false => rfl
  | true => rw [anyB_hit hi hf] at h; cases h
theorem right_pts {X Y : Nat → Int} {n : Nat} (hi : ∀ i, i < n → In64 (X i) ∧ In64 (Y i)) (h : anyB (fun i => ma1 (X i) (Y i)) n = false) : ∀ i, i < n → SpK (atK (X i) (Y i)) := fun i hn => by
  have := anyB_each h hn
  unfold ma1 at this
  exact spK_at (hi i hn).1 (hi i hn).2 (by simpa using this)
theorem right_segs {A : Nat → Nat → Int} {m : Nat} (hA : ∀ i j, In64 (A i j)) (h : anyB (fun i => ma2 (A i 0) (A i 1) (A i 2) (A i 3)) m = false) : ∀ i, i < m → SpK (lowK A i) ∧ SpK (highK A i) := fun i hm => by
  have := anyB_each h hm
  unfold ma2 sgR at this
  have h2 : rp (A i 0) (A i 1) = true ∧ rp (A i 2) (A i 3) = true := by simpa using this
  have key : ∀ b : Bool, SpK (atK (bif b then A i 2 else A i 0) (bif b then A i 3 else A i 1)) ∧ SpK (atK (bif b then A i 0 else A i 2) (bif b then A i 1 else A i 3)) := fun b => by
    cases b
    · exact ⟨spK_at (hA i 0) (hA i 1) h2.1, spK_at (hA i 2) (hA i 3) h2.2⟩
    · exact ⟨spK_at (hA i 2) (hA i 3) h2.2, spK_at (hA i 0) (hA i 1) h2.1⟩
  exact key _
/-- the sweep as it is told: its events -/
structure SwOk (X Y : Nat → Int) (n : Nat) (A : Nat → Nat → Int) (m : Nat) (evs : List (Int × List Nat)) : Prop where
  hn : n ≤ 4096
  hm : m ≤ 4096
  r1 : anyB (fun i => ma1 (X i) (Y i)) n = false
  r2 : anyB (fun i => ma2 (A i 0) (A i 1) (A i 2) (A i 3)) m = false
  run : ∃ F, run A F (sQ A (pQ X Y n) m) (msort (ltB A) (List.range m)) [] = some evs
  cnt : n + 2 * m + 3 * evs.length < 90000
theorem SwOk.tells {X Y : Nat → Int} {n : Nat} {A : Nat → Nat → Int} {m : Nat} {evs : List (Int × List Nat)} (h : SwOk X Y n A m evs) {pa sa : Option Addr} {pc sq : Nat} {w : World} (hs : Sgs w sa m sq A) (hi : ∀ i, i < n → In64 (X i) ∧ In64 (Y i)) (b1 b2 B : Nat) (hB : w.heap.size ≤ B) :
    TellsW Try.prog 15 #[ptr b1 0, ptr b2 0] evs.length (evE B evs) B (EaK b1 b2 pa n pc X Y sa m sq A) := by
  obtain ⟨F, hF⟩ := h.run
  exact Each1_tells b1 b2 B pa n pc X Y sa m sq A h.hn h.hm hi (right_pts hi h.r1) (right_segs hs.i64 h.r2) h.r1 h.r2 (fun g o s h0 e => by
    obtain ⟨g', o', e', hg, _⟩ := hs.ptr h0
    rw [e] at e'; cases e'; omega) F evs hF h.cnt
theorem SwOk.may {X Y : Nat → Int} {n : Nat} {A : Nat → Nat → Int} {m : Nat} {evs : List (Int × List Nat)} (h : SwOk X Y n A m evs) : mayV n m (anyB (fun i => ma1 (X i) (Y i)) n) (anyB (fun i => ma2 (A i 0) (A i 1) (A i 2) (A i 3)) m) = 0 := by
  unfold mayV
  rw [if_neg (by have := h.hn; have := h.hm; omega), h.r1, h.r2]; rfl
theorem Events_is {X Y : Nat → Int} {n : Nat} {A : Nat → Nat → Int} {m : Nat} {evs : List (Int × List Nat)} (h : SwOk X Y n A m evs) (pa sa : Option Addr) (pc sq : Nat) (w : World) (hp : Pns w pa n pc X Y) (hs : Sgs w sa m sq A) (hi : ∀ i, i < n → In64 (X i) ∧ In64 (Y i)) :
    Calls Try.prog 7 #[.slice pa n pc, .slice sa m sq] w fun e w' => ∃ ao cap, e = .returned (.tuple #[.slice ao evs.length cap, .int .i64 0]) ∧ Evs w' ao cap evs ∧ Below w.heap.size w w' :=
  Events_ok pa n pc X Y sa m sq A w hp hs h.may evs (by have := h.cnt; omega) fun b1 b2 B hB => h.tells hs hi b1 b2 B hB
/-- few points and segments, all right: there are events -/
theorem sw_small (X Y : Nat → Int) (n : Nat) (A : Nat → Nat → Int) (m : Nat) (hn : n ≤ 30) (hm : m ≤ 30) (hA : ∀ i j, In64 (A i j)) (hi : ∀ i, i < n → In64 (X i) ∧ In64 (Y i)) (r1 : anyB (fun i => ma1 (X i) (Y i)) n = false) (r2 : anyB (fun i => ma2 (A i 0) (A i 1) (A i 2) (A i 3)) m = false) : ∃ evs, SwOk X Y n A m evs := by
  obtain ⟨evs, h1, h2⟩ := run_all X Y n A m (right_pts hi r1) (right_segs hA r2)
  have : m * m ≤ 30 * 30 := Nat.mul_le_mul hm hm
  exact ⟨evs, by omega, by omega, r1, r2, ⟨_, h1⟩, by omega⟩
/-- the two segments of awake -/
def aw0 (i j : Nat) : Int := if i = 0 then (if j = 2 then 4 else if j = 3 then 4 else 0) else if i = 1 then (if j = 1 then 4 else if j = 2 then 4 else 0) else 0
theorem aw0_64 (i j : Nat) : In64 (aw0 i j) := by
  unfold In64 aw0
  repeat' split
  all_goals omega
set_option maxRecDepth 100000 in
theorem aw0_run : (run aw0 10 (sQ aw0 (pQ (fun _ => 0) (fun _ => 0) 0) 2) (msort (ltB aw0) (List.range 2)) []).map (fun l => (l.length, l[2]?.map fun e => (e.2.length, ccmp e.1 (atK 2 2), metV aw0 e.2, e.2.all fun i => decide (i < 2)))) = some (5, some (2, 0, true, true)) := by kernel_rfl
theorem aw0_ok : ∃ evs p L, SwOk (fun _ => 0) (fun _ => 0) 0 aw0 2 evs ∧ evs.length = 5 ∧ evs[2]? = some (p, L) ∧ L.length = 2 ∧ ccmp p (atK 2 2) = 0 ∧ metV aw0 L = true ∧ All 2 L := by
  have h := aw0_run
  cases hr : run aw0 10 (sQ aw0 (pQ (fun _ => 0) (fun _ => 0) 0) 2) (msort (ltB aw0) (List.range 2)) [] with
  | none => rw [hr] at h; cases h
  | some evs =>
    rw [hr] at h
    simp only [Option.map_some, Option.some.injEq, Prod.mk.injEq] at h
    obtain ⟨h1, h2⟩ := h
    cases he : evs[2]? with
    | none => rw [he] at h2; cases h2
    | some e =>
      obtain ⟨p, L⟩ := e
      rw [he] at h2
      simp only [Option.map_some, Option.some.injEq, Prod.mk.injEq] at h2
      obtain ⟨h3, h4, h5, h6⟩ := h2
      refine ⟨evs, p, L, ⟨by omega, by omega, rfl, by kernel_rfl, ⟨10, hr⟩, by omega⟩, h1, he, h3, h4, h5, fun z hz => ?_⟩
      have := List.all_eq_true.1 h6 z hz
      simpa using this
end Go.Proofs.Ytkaolhlmimalkaa

namespace Go.Proofs.Ytkaolhlmimalkaa
open Go.RowKit Go.Shelf

theorem aw0_sgs {w : World} {g : Nat} {t : TypeId} (h : Blk w g #[.int .i64 0, .int .i64 0, .int .i64 4, .int .i64 4, .int .i64 0, .int .i64 4, .int .i64 4, .int .i64 0] t) : Sgs w (some ⟨g, 0, none⟩) 2 2 aw0 := by
  refine ⟨fun _ => ⟨g, 0, rfl, h.lt, fun i hi j hj => ?_⟩, aw0_64, by omega, by omega⟩
  have hi2 : i = 0 ∨ i = 1 := by omega
  have hj2 : j = 0 ∨ j = 1 ∨ j = 2 ∨ j = 3 := by omega
  rcases hi2 with rfl | rfl <;> rcases hj2 with rfl | rfl | rfl | rfl
  · exact h.cell 0
  · exact h.cell 1
  · exact h.cell 2
  · exact h.cell 3
  · exact h.cell 4
  · exact h.cell 5
  · exact h.cell 6
  · exact h.cell 7
set_option maxRecDepth 100000 in
set_option maxHeartbeats 4000000 in
theorem awake_is (w : World) : Calls Try.prog 6 #[] w fun e w' => e = .returned (.bool true) ∧ Below w.heap.size w w' := by
 obtain ⟨evs, p, L, hok, hlen, hp2, hL2, hcp, hmt, hall⟩ := aw0_ok
 have HOK := Lib.hid hok; have HL5 := Lib.hid hlen; have HP2 := Lib.hid hp2; have HLL := Lib.hid hL2; have HCP := Lib.hid hcp; have HMT := Lib.hid hmt; have HAL := Lib.hid hall; clear hok hlen hp2 hL2 hcp hmt hall
 go_enter Try.func6, Try.ntmps6
 go_wp2_with fail
 refine calls_w ?_
 intro w1 hw1
 have kb : Blk w1 w.heap.size #[.int .i64 0, .int .i64 0, .int .i64 4, .int .i64 4, .int .i64 0, .int .i64 4, .int .i64 4, .int .i64 0] 46 := by rw [hw1]; exact Blk.new _ _ _
 have hb1 : Below w.heap.size w w1 := by rw [hw1]; exact below_a1 _ _
 have z0 : In64 0 := by unfold In64; omega
 have HZ := Lib.hid z0; clear hw1 z0
 refine (Events_is HOK.out none (some ⟨w.heap.size, 0, none⟩) 0 2 w1 ⟨fun h => absurd h (by omega), by omega, by omega⟩ (aw0_sgs kb) (fun i _ => ⟨HZ.out, HZ.out⟩)).mono ?_
 rintro e w2 ⟨ao, cap, he, hevs, hb2⟩
 rw [HL5.out] at he
 subst he
 have hb12 := hb1.trans (hb2.mono hb1.size)
 obtain ⟨g, rfl, hg, hc⟩ := hevs.ptr (by rw [HL5.out]; omega)
 have hc2 := hc 2 p L HP2.out
 obtain ⟨a, c, hc3, hns⟩ := hc2.2
 have t0 : w2.cell? ⟨g, 26, none⟩ = some (.int .u64 (sc p 0)) := (hc2.1 0 (by decide))
 have t1 : w2.cell? ⟨g, 27, none⟩ = some (.int .u64 (sc p 1)) := (hc2.1 1 (by decide))
 have t2 : w2.cell? ⟨g, 28, none⟩ = some (.int .u64 (sc p 2)) := (hc2.1 2 (by decide))
 have t3 : w2.cell? ⟨g, 29, none⟩ = some (.int .u64 (sc p 3)) := (hc2.1 3 (by decide))
 have t4 : w2.cell? ⟨g, 30, none⟩ = some (.int .u64 (sc p 4)) := (hc2.1 4 (by decide))
 have t5 : w2.cell? ⟨g, 31, none⟩ = some (.int .u64 (sc p 5)) := (hc2.1 5 (by decide))
 have t6 : w2.cell? ⟨g, 32, none⟩ = some (.int .u64 (sc p 6)) := (hc2.1 6 (by decide))
 have t7 : w2.cell? ⟨g, 33, none⟩ = some (.int .u64 (sc p 7)) := (hc2.1 7 (by decide))
 have t8 : w2.cell? ⟨g, 34, none⟩ = some (.int .u64 (sc p 8)) := (hc2.1 8 (by decide))
 have t9 : w2.cell? ⟨g, 35, none⟩ = some (.int .u64 (sc p 9)) := (hc2.1 9 (by decide))
 have t10 : w2.cell? ⟨g, 36, none⟩ = some (.int .u64 (sc p 10)) := (hc2.1 10 (by decide))
 have t11 : w2.cell? ⟨g, 37, none⟩ = some (.int .u64 (sc p 11)) := (hc2.1 11 (by decide))
 have t12 : w2.cell? ⟨g, 38, none⟩ = _ := hc3
 rw [HLL.out] at t12
 have HNS := Lib.hid hns; have hcap := hevs.capl
 rw [HL5.out] at hcap
 have HB12 := Lib.hid hb12; clear hb1 hb2 hb12 hc hc2 hc3 hns hevs kb
 go_wp2_with fail
 refine wp_region_up w2.heap.size 35 [(true, 0), (true, 1), (true, 2), (true, 3), (true, 4), (true, 5), (true, 6), (true, 7), (true, 8), (true, 9), (true, 10), (true, 11), (true, 12), (true, 13), (true, 14), (true, 15), (true, 16), (true, 17), (true, 18), (true, 19), (true, 20), (false, 21), (false, 22), (true, 23), (true, 24), (true, 25), (true, 26), (true, 27), (true, 28), (true, 29), (true, 30), (true, 31), (true, 32), (true, 33), (false, 34)] (by kernel_rfl) (by kernel_rfl) (fun _ _ d _ _ h => by cases d <;> exact h) ?_
 have hb : Below w2.heap.size w2 w2.drew := (Below.refl _ _).drew
 iterate 21
  first | refine wpS_takeL rfl rfl ?_ | refine wpS_takeB rfl rfl rfl ?_
  first | go_big_quiet_step (rfl) | (go_big_quiet_want; go_big_quiet_op; refine ⟨_, fun _ => rfl, ?_⟩; go_big_quiet_on)
  refine wpQuiet_nil ?_
 refine wpS_doL rfl ?_
 intro K hK
 go_wp2_with ((go_at_call 11; (with_reducible refine (AtK_is 2 2 (by unfold In64; omega) (by unfold In64; omega) _ rfl _).mono ?_); rintro e w4 ⟨rfl, hn⟩))
 try replace hb := hb.trans (hn.mono hb.size)
 refine hK.out _ _ (up_iff.2 hb) ?_
 clear hK K
 try clear hn
 refine wpS_doL rfl ?_
 intro K hK
 go_wp2_with ((go_at_call 9; (refine (CCmp_is p (atK 2 2) 0 HCP.out _).mono ?_); rintro e w5 ⟨rfl, hn⟩))
 try replace hb := hb.trans (hn.mono hb.size)
 refine hK.out _ _ (up_iff.2 hb) ?_
 clear hK K
 try clear hn
 iterate 11
  first | refine wpS_takeL rfl rfl ?_ | refine wpS_takeB rfl rfl rfl ?_
  first | go_big_quiet_step (rfl) | (go_big_quiet_want; go_big_quiet_op; refine ⟨_, fun _ => rfl, ?_⟩; go_big_quiet_on)
  refine wpQuiet_nil ?_
 refine wpS_doL rfl ?_
 intro K hK
 go_wp2_with ((first | (go_at_call 11; (with_reducible refine (AtK_is 2 2 (by unfold In64; omega) (by unfold In64; omega) _ rfl _).mono ?_); rintro e w4 ⟨rfl, hn⟩) | (go_at_call 9; (refine (CCmp_is p (atK 2 2) 0 HCP.out _).mono ?_); rintro e w5 ⟨rfl, hn⟩)))
 refine name_Kw ?_; intro w6 hw6; have kb6 : Blk w6 w5.heap.size #[.int .i64 0, .int .i64 0, .int .i64 4, .int .i64 4, .int .i64 0, .int .i64 4, .int .i64 4, .int .i64 0] 46 := (by rw [hw6]; exact Blk.new w5 _ _); have hn : Below w5.heap.size w5 w6 := (by rw [hw6]; exact below_a1 _ _); clear hw6
 try replace hb := hb.trans (hn.mono hb.size)
 refine hK.out _ _ (up_iff.2 hb) ?_
 clear hK K
 try clear hn
 refine wpS_nil ?_
 simp only [List.drop_succ_cons, List.drop_zero]
 go_wp2_with fail
 refine (Meets_is p a c 2 L HLL.out (some ⟨w5.heap.size, 0, none⟩) 2 2 aw0 w6 (HNS.out.of hb) (aw0_sgs kb6) HAL.out (by omega) true HMT.out).mono ?_
 rintro e w7 ⟨rfl, hb7⟩
 have HBX := Lib.hid (HB12.out.trans ((hb.trans (hb7.mono hb.size)).mono HB12.out.size))
 clear t0 t1 t2 t3 t4 t5 t6 t7 t8 t9 t10 t11 t12 kb6 hb hb7 HNS HB12 hg
 go_wp2_with fail
 refine calls_w ?_
 intro w8 hw8
 have kb8 : Blk w8 w7.heap.size #[.int .i64 1125899906842624, .int .i64 0] 44 := by rw [hw8]; exact Blk.new _ _ _
 have hb8 : Below w7.heap.size w7 w8 := by rw [hw8]; exact below_a1 _ _
 clear hw8
 refine (Events_no (some ⟨w7.heap.size, 0, none⟩) 1 1 (fun _ => 1125899906842624) (fun _ => 0) none 0 0 (fun _ _ => 0) w8 ⟨fun _ => ⟨_, 0, rfl, kb8.lt, fun i hi => by
  obtain rfl : i = 0 := by omega
  exact ⟨kb8.cell 0, kb8.cell 1⟩⟩, by omega, by omega⟩ ⟨fun h => absurd h (by omega), fun _ _ => HZ.out, by omega, by omega⟩ 11 (by kernel_rfl) (by decide)).mono ?_
 rintro e w9 ⟨rfl, hb9⟩
 have HBF := Lib.hid (HBX.out.trans ((hb8.trans (hb9.mono hb8.size)).mono HBX.out.size))
 clear kb8 hb8 hb9
 go_wp2_with fail
 go_ret
 exact ⟨rfl, HBF.out⟩
end Go.Proofs.Ytkaolhlmimalkaa

namespace Go.Proofs.Ytkaolhlmimalkaa
open Go.RowKit Go.Shelf
attribute [local go_sem] Oper.semAt_some undef

theorem own_belowZ {B : Nat} {w w' : World} {b : Nat} {c : Array Value} {t : TypeId} (h : Blk w b c t) (hb : Below B w w') (hl : b < B) : Blk w' b c t := (hb.block b hl).trans h
theorem Blk.outl2 {L : List Nat} {W w : World} {b : Nat} {c : Array Value} {t : TypeId} (h : Blk W b c t) (ho : OutL L W w) (hb : b ∉ L) : Blk w b c t := (ho.block b h.lt hb).trans h
theorem ccmp_self (p : Int) : ccmp p p = 0 := by
  by_cases h : ccmp p p = 0
  · exact h
  · obtain ⟨h1, _⟩ := ccmp_ne h
    have := ordK_ky p p h1 h1
    omega
theorem seq_ne (cb : Array Value) (w : World) : Sem.run Try.prog (binOp BinOp.neq 30 (.func (.func 15) #[] cb) Value.nilFunc) w = .ok (.bool true) w := by kernel_rfl
/-- what SweepEach has in memory behind Events -/
structure EzJ (V1 : World) (ev : Int) (b1 : Nat) (pa : Option Addr) (n pc : Nat) (sa : Option Addr) (m sq : Nat) (ao : Option Addr) (cap ne lx k : Nat) (W : World) : Prop where
  k7 : Blk W lx #[.slice ao ne cap] 25
  k8 : Blk W (lx + 1) #[.int .i64 ev] 26
  k9 : Blk W (lx + 1 + 1) #[.int .i64 (k : Nat)] 3
  e1 : Blk W b1 #[.slice pa n pc] 22
  e2 : Blk W (b1 + 1) #[.slice sa m sq] 23
  out : Below V1.heap.size V1 W
theorem EzJ.turn {V1 : World} {ev : Int} {b1 : Nat} {pa : Option Addr} {n pc : Nat} {sa : Option Addr} {m sq : Nat} {ao : Option Addr} {cap ne lx k B : Nat} {W W' : World} (h : EzJ V1 ev b1 pa n pc sa m sq ao cap ne lx k W) (hb : Below B W W') (h1 : lx + 1 + 1 < B) (h2 : b1 + 1 < B) (h3 : V1.heap.size ≤ B) : EzJ V1 ev b1 pa n pc sa m sq ao cap ne lx k W' :=
  ⟨own_belowZ h.k7 hb (by omega), own_belowZ h.k8 hb (by omega), own_belowZ h.k9 hb h1, own_belowZ h.e1 hb (by omega), own_belowZ h.e2 hb h2, h.out.trans (hb.mono h3)⟩
set_option maxRecDepth 100000 in
set_option maxHeartbeats 8000000 in
theorem SweepEach_any (pa : Option Addr) (n pc : Nat) (Xp Yp : Nat → Int) (sa : Option Addr) (m sq : Nat) (A : Nat → Nat → Int) (st : Int) (w : World) (hp : Pns w pa n pc Xp Yp) (hi : ∀ i, In64 (Xp i) ∧ In64 (Yp i)) (hs : Sgs w sa m sq A) (_hst : In64 st) :
    Calls Try.prog 3 #[.slice pa n pc, .slice sa m sq, .int .i64 st] w fun e w' => e = .returned (.bool true) ∧ Below w.heap.size w w' := by
 have hpl := hp.capl; have hpb := hp.capb; have hsl := hs.capl; have hsb := hs.capb; have HP := Lib.hid hp; have HS := Lib.hid hs; have HI := Lib.hid hi; clear hp hs hi
 refine (callsIn_wide (n := 3)).1 ?_
 refine callsIn_of_wp_marks Try.func3 rfl trivial ?_ rfl
 simp only [Try.ntmps3, List.size_toArray, List.length_cons, List.length_nil, Nat.reduceAdd, Nat.reduceSub, Array.replicate_succ, Array.replicate_zero, List.push_toArray, List.append_toArray, List.nil_append, List.cons_append]
 by_cases hn3 : 30 < n
 ·have hn3' : (n : Int) > 30 := by omega
  gi_wp2_with fail
  refine ⟨trivial, callsIn_wide.2 ?_⟩
  refine calls_w ?_
  intro V0 hV0
  have k6 : Blk V0 (w.heap.size + 1) #[.bool false] 4 := by rw [hV0]; have := Blk.new (w.alloc (.cells #[.int .i64 st] 3)) #[.bool false] 4; rwa [World.size_alloc] at this
  have bA : Below w.heap.size w V0 := by rw [hV0]; exact below_a2 _ _ _
  clear hV0
  refine (awake_is _).mono ?_
  rintro e V ⟨rfl, hb⟩
  have b2 := Lib.hid (bA.trans (hb.mono bA.size))
  have k6b := k6.of hb; have fz := k6b.free 0; have c6 : V.cell? ⟨w.heap.size + 1, 0, none⟩ = some (.bool false) := k6b.cell 0; have l6 := k6b.lt; clear hb k6 bA k6b
  gi_wp2
  exact ⟨_, by simp [results, Try.results3, go_sem, c6], rfl, b2.out.trans ((OutL.refl [w.heap.size + 1] V).set (by simp) 0 none _ |>.below b2.out.size (by simp))⟩
 ·have hn3' : ¬ ((n : Int) > 30) := by omega
  by_cases hm3 : 30 < m
  ·have hm3' : (m : Int) > 30 := by omega
   gi_wp2_with fail
   refine ⟨trivial, callsIn_wide.2 ?_⟩
   refine calls_w ?_
   intro V0 hV0
   have k6 : Blk V0 (w.heap.size + 1) #[.bool false] 4 := by rw [hV0]; have := Blk.new (w.alloc (.cells #[.int .i64 st] 3)) #[.bool false] 4; rwa [World.size_alloc] at this
   have bA : Below w.heap.size w V0 := by rw [hV0]; exact below_a2 _ _ _
   clear hV0
   refine (awake_is _).mono ?_
   rintro e V ⟨rfl, hb⟩
   have b2 := Lib.hid (bA.trans (hb.mono bA.size))
   have k6b := k6.of hb; have fz := k6b.free 0; have c6 : V.cell? ⟨w.heap.size + 1, 0, none⟩ = some (.bool false) := k6b.cell 0; have l6 := k6b.lt; clear hb k6 bA k6b
   gi_wp2
   exact ⟨_, by simp [results, Try.results3, go_sem, c6], rfl, b2.out.trans ((OutL.refl [w.heap.size + 1] V).set (by simp) 0 none _ |>.below b2.out.size (by simp))⟩
  ·have hm3' : ¬ ((m : Int) > 30) := by omega
   have hn30 : n ≤ 30 := by omega
   have hm30 : m ≤ 30 := by omega
   gi_wp2_with fail
   refine ⟨trivial, callsIn_wide.2 ?_⟩
   refine calls_w ?_
   intro V0 hV0
   have k5 : Blk V0 w.heap.size #[.int .i64 st] 3 := by rw [hV0]; exact (Blk.new w _ _).of (below_a1 _ _)
   have k6 : Blk V0 (w.heap.size + 1) #[.bool false] 4 := by rw [hV0]; have := Blk.new (w.alloc (.cells #[.int .i64 st] 3)) #[.bool false] 4; rwa [World.size_alloc] at this
   have bA : Below w.heap.size w V0 := by rw [hV0]; exact below_a2 _ _ _
   clear hV0
   have HEV : ∃ (evs : List (Int × List Nat)) (ev : Int), evs.length < 100000 ∧ (evs ≠ [] → ev = 0) ∧
     (∀ (w1 : World), Pns w1 pa n pc Xp Yp → Sgs w1 sa m sq A → Calls Try.prog 7 #[.slice pa n pc, .slice sa m sq] w1 fun e w' => ∃ ao cap, e = .returned (.tuple #[.slice ao evs.length cap, .int .i64 ev]) ∧ Evs w' ao cap evs ∧ Below w1.heap.size w1 w') ∧
     (∀ (w1 : World), Pns w1 pa n pc Xp Yp → Sgs w1 sa m sq A → ∀ b1 b2 B, w1.heap.size ≤ B → TellsW Try.prog 15 #[ptr b1 0, ptr b2 0] evs.length (evE B evs) B (EaK b1 b2 pa n pc Xp Yp sa m sq A)) := by
    by_cases hr : anyB (fun i => ma1 (Xp i) (Yp i)) n = false ∧ anyB (fun i => ma2 (A i 0) (A i 1) (A i 2) (A i 3)) m = false
    ·obtain ⟨evs, hok⟩ := sw_small Xp Yp n A m hn30 hm30 HS.out.i64 (fun i _ => HI.out i) hr.1 hr.2
     exact ⟨evs, 0, by have := hok.cnt; omega, fun _ => rfl, fun w1 h1 h2 => Events_is hok pa sa pc sq w1 h1 h2 (fun i _ => HI.out i), fun w1 h1 h2 b1 b2 B hB => hok.tells h2 (fun i _ => HI.out i) b1 b2 B hB⟩
    ·have hc : mayV n m (anyB (fun i => ma1 (Xp i) (Yp i)) n) (anyB (fun i => ma2 (A i 0) (A i 1) (A i 2) (A i 3)) m) = 11 := by
      unfold mayV
      rw [if_neg (by omega)]
      cases h1 : anyB (fun i => ma1 (Xp i) (Yp i)) n with
      | true => rfl
      | false =>
       cases h2 : anyB (fun i => ma2 (A i 0) (A i 1) (A i 2) (A i 3)) m with
       | true => rfl
       | false => exact absurd ⟨h1, h2⟩ hr
     refine ⟨[], 11, by simp, fun h => absurd rfl h, fun w1 h1 h2 => (Events_no pa n pc Xp Yp sa m sq A w1 h1 h2 11 hc (by decide)).mono ?_, fun w1 h1 h2 b1 b2 B hB => Each1_none b1 b2 B pa n pc Xp Yp sa m sq A 11 hc (by decide)⟩
     rintro e w' ⟨rfl, hb⟩
     exact ⟨none, 0, rfl, ⟨fun h => absurd h (by simp), by simp, by omega⟩, hb⟩
   obtain ⟨evs, ev, hlen, hev0, hEv, hTl⟩ := HEV
   have HEL := Lib.hid hlen; have HE0 := Lib.hid hev0; have HTL := Lib.hid hTl
   refine (hEv V0 (HP.out.of bA) (HS.out.of bA)).mono ?_
   rintro e V1 ⟨ao, cap, rfl, hevs, hb1⟩
   have K5 := Lib.hid (k5.of hb1)
   have K6 := Lib.hid (k6.of hb1)
   have HVS := Lib.hid hevs
   have B1 := Lib.hid (bA.trans (hb1.mono bA.size))
   have hs1 := K6.out.lt; clear hlen hev0 hTl hEv k5 k6 bA hevs hb1
   obtain ⟨ne, hne⟩ : ∃ ne, evs.length = ne := ⟨_, rfl⟩
   rw [hne]
   gi_wp2_with fail
   refine ⟨trivial, callsIn_wide.2 ?_⟩
   refine calls_w ?_
   intro V2 hV2
   have k7 : Blk V2 V1.heap.size #[.slice ao ne cap] 25 := by rw [hV2]; exact ((Blk.new V1 _ _).of (below_a1 _ _)).of (below_a1 _ _)
   have k8 : Blk V2 (V1.heap.size + 1) #[.int .i64 ev] 26 := by
    rw [hV2]
    have := (Blk.new (V1.alloc (.cells #[.slice ao ne cap] 25)) #[.int .i64 ev] 26).of (below_a1 _ (.cells #[.int .i64 0] 3))
    rwa [World.size_alloc] at this
   have k9 : Blk V2 (V1.heap.size + 1 + 1) #[.int .i64 ((0 : Nat) : Int)] 3 := by
    rw [hV2]
    have := Blk.new ((V1.alloc (.cells #[.slice ao ne cap] 25)).alloc (.cells #[.int .i64 ev] 26)) #[.int .i64 0] 3
    rwa [World.size_alloc, World.size_alloc] at this
   have hb2 : Below V1.heap.size V1 V2 := by
    rw [hV2]; exact (below_a2 V1 _ _).trans ((below_a1 _ _).mono (by simp; omega))
   have B2 := B1.out.trans (hb2.mono B1.out.size)
   clear hV2
   refine (Each_is pa n pc Xp Yp sa m sq A V2 (HP.out.of B2) (HS.out.of B2)).mono ?_
   rintro e V3 ⟨rfl, hea, hb3⟩
   have hb13 := hb2.trans (hb3.mono hb2.size)
   have lk9 := k9.lt; have hs3 := hb3.size
   have HZ0 : Hid (EzJ V1 ev V2.heap.size pa n pc sa m sq ao cap ne V1.heap.size 0 V3) := Lib.hid ⟨k7.of hb3, k8.of hb3, k9.of hb3, hea.l1, hea.l2, hb13⟩
   have hl2 := hea.l2.lt
   have B3 := Lib.hid (B2.trans (hb3.mono B2.size))
   obtain ⟨b1, hb1⟩ : ∃ b1, V2.heap.size = b1 := ⟨_, rfl⟩
   obtain ⟨rb, hrb⟩ : ∃ rb, w.heap.size + 1 = rb := ⟨_, rfl⟩
   obtain ⟨lx, hlx⟩ : ∃ lx, V1.heap.size = lx := ⟨_, rfl⟩
   rw [hb1, hlx] at HZ0
   rw [hrb] at K6
   have hlx1 : lx + 1 + 1 < V3.heap.size ∧ b1 + 1 < V3.heap.size ∧ V1.heap.size ≤ V3.heap.size := by omega
   have hrb1 : rb < lx ∧ w.heap.size < rb := by omega
   have hlb : lx + 1 + 1 < b1 := by omega
   have HNE := Lib.hid hne
   have HTT := Lib.hid (HTL.out V3 hea.p hea.s)
   clear hne k7 k8 k9 hb2 hb3 hb13 B2 lk9 hs3 hea HTL hl2
   have hsq := seq_ne #[ptr b1 0, ptr (b1 + 1) 0]
   gi_wp2_with fail
   clear hsq; have HLXE := Lib.hid hlx
   refine wpIn_rangeW (m := 1) (gf := 15) (lb := #[ptr b1 0, ptr (b1 + 1) 0]) (N := evs.length) (E := evE (V3.heap.size + 2) evs) (Kp := EaK b1 (b1 + 1) pa n pc Xp Yp sa m sq A) rfl (fun args w => by go_simp) (HTT.out _ _ _ (by omega)) rfl
    (fun G k W => (∀ g, ¬ G g) ∧ EzJ V1 ev b1 pa n pc sa m sq ao cap ne lx k W ∧ V3.heap.size ≤ W.heap.size)
    (fun c _ W => c = .ret ∧ Blk W rb #[.bool true] 4 ∧ Below w.heap.size w W) ?hg ?stable ?xst ?keeps ?start ?round ?done ?stop
   case hg => exact fun G k W h g hg => absurd hg (h.1 g)
   case stable => exact fun G k W W' h hb => ⟨h.1, h.2.1.turn hb.1 hlx1.1 hlx1.2.1 hlx1.2.2, Nat.le_trans h.2.2 hb.1.size⟩
   case xst => exact fun c k W W' h hb => ⟨h.1, own_belowZ h.2.1 hb (by omega), h.2.2.trans (hb.mono (by omega))⟩
   case keeps =>
    intro G k W h
    have hbw := B1.out.trans (h.2.1.out.mono (by omega))
    exact ⟨h.2.1.e1, h.2.1.e2, HP.out.of hbw, HS.out.of hbw⟩
   case start => exact ⟨fun _ h => h, HZ0.out, Nat.le_refl _⟩
   case round =>
    rintro l2 D2 k vv G H W2 hk ⟨hG, hz, hsz⟩ ⟨p, L, sv, B2, hek, rfl, hnl, hB2, hH⟩ rfl rfl g3 g4
    obtain ⟨va, vc, hs, _⟩ := hnl.val
    obtain ⟨ln, hln⟩ : ∃ l, L.length = l := ⟨_, rfl⟩
    rw [hln] at hs
    subst hs
    have hke : k < ne := by rw [← HNE.out]; exact hk
    have HV2 := Lib.hid (HVS.out.of hz.out)
    have HZ2 := Lib.hid hz; have HNL := Lib.hid hnl; have HEK := Lib.hid hek; have HLN := Lib.hid hln; have HGN := Lib.hid hG; have HBB := Lib.hid hB2; clear hz hnl hek hln hH hB2 HZ0 HTT hG
    gi_wp2_with fail
    have ha1 := below_a1 W2 (.cells #[.int .u64 (sc p 0), .int .u64 (sc p 1), .int .u64 (sc p 2), .int .u64 (sc p 3), .int .u64 (sc p 4), .int .u64 (sc p 5), .int .u64 (sc p 6), .int .u64 (sc p 7), .int .u64 (sc p 8), .int .u64 (sc p 9), .int .u64 (sc p 10), .int .u64 (sc p 11), .slice va ln vc] 39)
    have hsa : (W2.alloc (.cells #[.int .u64 (sc p 0), .int .u64 (sc p 1), .int .u64 (sc p 2), .int .u64 (sc p 3), .int .u64 (sc p 4), .int .u64 (sc p 5), .int .u64 (sc p 6), .int .u64 (sc p 7), .int .u64 (sc p 8), .int .u64 (sc p 9), .int .u64 (sc p 10), .int .u64 (sc p 11), .slice va ln vc] 39)).heap.size = W2.heap.size + 1 := by simp
    refine ⟨⟨⟨ha1.block _ g3, ha1.block _ g4⟩, .ofAbove (.ofBelow ha1)⟩, ?_⟩
    intro W3 hW3
    have hs3 : W2.heap.size + 1 ≤ W3.heap.size := by have := hW3.size; omega
    have kx : Blk W3 W2.heap.size #[.int .u64 (sc p 0), .int .u64 (sc p 1), .int .u64 (sc p 2), .int .u64 (sc p 3), .int .u64 (sc p 4), .int .u64 (sc p 5), .int .u64 (sc p 6), .int .u64 (sc p 7), .int .u64 (sc p 8), .int .u64 (sc p 9), .int .u64 (sc p 10), .int .u64 (sc p 11), .slice va ln vc] 39 := (Blk.new W2 _ _).outl2 hW3 (by simp; omega)
    have hb23 : Below V3.heap.size W2 W3 := (ha1.mono hsz).trans (hW3.below (by omega) (by simp))
    have HZ3 := Lib.hid (HZ2.out.turn hb23 hlx1.1 hlx1.2.1 hlx1.2.2)
    have HV3 := Lib.hid (HVS.out.of HZ3.out.out)
    have sub : ∀ g, g < W2.heap.size → g ≠ (V3.heap.size + 1) → W3.heap[g]? = W2.heap[g]? := fun g h1 h2 => (hW3.block g (by omega) (by simpa using h2)).trans (ha1.block g h1)
    obtain ⟨g, rfl, hgl, hgc⟩ := HV3.out.ptr (by omega)
    obtain ⟨hg12, ga, gc, hgs, hgn⟩ := hgc k p L HEK.out
    have y0 : W3.cell? ⟨g, k * 13, none⟩ = _ := hg12 0 (by decide)
    have y1 : W3.cell? ⟨g, k * 13 + 1, none⟩ = _ := hg12 1 (by decide)
    have y2 : W3.cell? ⟨g, k * 13 + 2, none⟩ = _ := hg12 2 (by decide)
    have y3 : W3.cell? ⟨g, k * 13 + 3, none⟩ = _ := hg12 3 (by decide)
    have y4 : W3.cell? ⟨g, k * 13 + 4, none⟩ = _ := hg12 4 (by decide)
    have y5 : W3.cell? ⟨g, k * 13 + 5, none⟩ = _ := hg12 5 (by decide)
    have y6 : W3.cell? ⟨g, k * 13 + 6, none⟩ = _ := hg12 6 (by decide)
    have y7 : W3.cell? ⟨g, k * 13 + 7, none⟩ = _ := hg12 7 (by decide)
    have y8 : W3.cell? ⟨g, k * 13 + 8, none⟩ = _ := hg12 8 (by decide)
    have y9 : W3.cell? ⟨g, k * 13 + 9, none⟩ = _ := hg12 9 (by decide)
    have y10 : W3.cell? ⟨g, k * 13 + 10, none⟩ = _ := hg12 10 (by decide)
    have y11 : W3.cell? ⟨g, k * 13 + 11, none⟩ = _ := hg12 11 (by decide)
    have y12 : W3.cell? ⟨g, k * 13 + 12, none⟩ = _ := hgs
    rw [HLN.out] at y12
    have t0 := kx.cell 0; have t1 := kx.cell 1; have t2 := kx.cell 2; have t3 := kx.cell 3; have t4 := kx.cell 4; have t5 := kx.cell 5; have t6 := kx.cell 6; have t7 := kx.cell 7; have t8 := kx.cell 8; have t9 := kx.cell 9; have t10 := kx.cell 10; have t11 := kx.cell 11; have t12 := kx.cell 12; have c9 : W3.cell? ⟨lx + 1 + 1, 0, none⟩ = _ := HZ3.out.k9.cell 0; have c7 : W3.cell? ⟨lx, 0, none⟩ = _ := HZ3.out.k7.cell 0
    simp only [List.getElem?_toArray, List.getElem?_cons_zero, List.getElem?_cons_succ] at t0 t1 t2 t3 t4 t5 t6 t7 t8 t9 t10 t11 t12 c9 c7
    have hkge : ¬ ((k : Int) ≥ (ne : Int)) := by omega
    have hkg2 : ¬ ((ne : Int) ≤ (k : Int)) := by omega
    have hkg3 : ¬ (ne ≤ k) := by omega
    have hcp := HV3.out.capl; have hcb := HV3.out.capb
    rw [HNE.out] at hcp
    have lt7 : lx < W3.heap.size := by omega
    have lt9 : lx + 1 + 1 < W3.heap.size := by omega
    have ltx : W2.heap.size < W3.heap.size := by omega
    have NL3 : Hid (NL W3 B2 (.slice va ln vc) L) := Lib.hid (HNL.out.turn fun g hg => sub g (HNL.out.own hg).2 (by have := (HNL.out.own hg).1; have := HBB.out; omega))
    have HKX := Lib.hid kx; have HGN2 := Lib.hid hgn; have HSB := Lib.hid sub; clear hg12 hgs hgn kx ha1 hW3 hsa sub hb23
    gi_wp2_with fail
    refine wpIn_region_up W3.heap.size 25 [(true, 0), (true, 1), (true, 2), (true, 3), (true, 4), (true, 5), (true, 6), (true, 7), (true, 8), (true, 9), (true, 10), (true, 11), (false, 12), (true, 13), (true, 14), (true, 15), (true, 16), (true, 17), (true, 18), (true, 19), (true, 20), (true, 21), (true, 22), (true, 23), (true, 24)] (by kernel_rfl) (by kernel_rfl) (by kernel_rfl) (fun _ _ h => h) (fun _ _ d _ _ h => by cases d <;> exact h) ?_
    have hb : Below W3.heap.size W3 W3.drew := (Below.refl _ _).drew
    iterate 12
     first | refine wpS_takeL rfl rfl ?_ | refine wpS_takeB rfl rfl rfl ?_
     first | go_big_quiet_step (rfl) | (go_big_quiet_want; go_big_quiet_op; refine ⟨_, fun _ => rfl, ?_⟩; go_big_quiet_on)
     refine wpQuiet_nil ?_
    refine wpS_doL rfl ?_
    intro K hK
    go_wp2_with ((go_at_call 9; (refine (CCmp_is p p 0 (ccmp_self p) _).mono ?_); rintro e w4 ⟨rfl, hn⟩))
    try replace hb := hb.trans (hn.mono hb.size)
    refine hK.out _ _ (up_iff.2 hb) ?_
    clear hK K
    try clear hn
    iterate 12
     first | refine wpS_takeL rfl rfl ?_ | refine wpS_takeB rfl rfl rfl ?_
     first | go_big_quiet_step (rfl) | (go_big_quiet_want; go_big_quiet_op; refine ⟨_, fun _ => rfl, ?_⟩; go_big_quiet_on)
     refine wpQuiet_nil ?_
    refine wpS_nil ?_
    simp only [List.drop_succ_cons, List.drop_zero]
    go_wp2_with fail
    have hs34 := hb.size
    have HZ4 := Lib.hid (HZ3.out.turn (hb.mono (by omega)) hlx1.1 hlx1.2.1 hlx1.2.2)
    have KX4 := Lib.hid (HKX.out.of hb)
    have NL4 := Lib.hid (NL3.out.of hb)
    have GN4 := Lib.hid (HGN2.out.of hb)
    have Y4 : Hid (w4.cell? ⟨g, k * 13 + 12, none⟩ = some (.slice ga ln gc)) := Lib.hid ((hb.cell (p := ⟨g, k * 13 + 12, none⟩) hgl).trans y12)
    have HB34 := Lib.hid hb; clear hb y0 y1 y2 y3 y4 y5 y6 y7 y8 y9 y10 y11 y12 t0 t1 t2 t3 t4 t5 t6 t7 t8 t9 t10 t11 t12 c9 c7 hkge hkg2 hkg3 HZ3 NL3 HKX HGN2; have t12 : w4.cell? ⟨W2.heap.size, 12, none⟩ = _ := KX4.out.cell 12
    simp only [List.getElem?_toArray, List.getElem?_cons_zero, List.getElem?_cons_succ] at t12
    have ltx4 : W2.heap.size < w4.heap.size := by omega
    gi_wp2_with fail
    clear t12
    gi_loopg [12, 65] ln (fun gk _ s65 wr => ∃ i : Nat, s65 = .int .i64 (i : Nat) ∧ i ≤ ln ∧ ln - i ≤ gk ∧ Below w4.heap.size w4 wr)
    case atStart => exact ⟨0, rfl, Nat.zero_le _, by omega, Below.refl _ _⟩
    case round =>
     obtain ⟨i, rfl, hi, hgi, hbl⟩ := hrel
     have hs4r := hbl.size
     by_cases h1 : i < ln
     ·obtain ⟨x, hx⟩ : ∃ x, L[i]? = some x := ⟨L[i]'(by rw [HLN.out]; omega), List.getElem?_eq_getElem _⟩
      obtain ⟨va', vc', hv', _, _, hvp⟩ := NL4.out.val
      injection hv' with hv1 hv2 hv3
      subst hv1 hv3
      obtain ⟨h_, rfl, _, hhl, hhc⟩ := hvp (by rw [HLN.out]; omega)
      obtain ⟨q_, qo_, rfl, hql, hqc⟩ := GN4.out.ptr (by rw [HLN.out]; omega)
      have x0 := (hbl.cell (p := ⟨h_, i, none⟩) hhl).trans (hhc i x hx)
      have x1 := (hbl.cell (p := ⟨q_, qo_ + i, none⟩) hql).trans (hqc i x hx)
      have t12 : wr.cell? ⟨W2.heap.size, 12, none⟩ = _ := (KX4.out.of hbl).cell 12
      have y12 := (hbl.cell (p := ⟨g, k * 13 + 12, none⟩) (show g < w4.heap.size by omega)).trans Y4.out
      have hz := HZ4.out.turn (hbl.mono (show V3.heap.size ≤ w4.heap.size by omega)) hlx1.1 hlx1.2.1 hlx1.2.2
      have c9 : wr.cell? ⟨lx + 1 + 1, 0, none⟩ = _ := hz.k9.cell 0; have c7 : wr.cell? ⟨lx, 0, none⟩ = _ := hz.k7.cell 0
      simp only [List.getElem?_toArray, List.getElem?_cons_zero, List.getElem?_cons_succ] at t12 c9 c7
      have l7 : lx < wr.heap.size := by omega
      have l9 : lx + 1 + 1 < wr.heap.size := by omega
      have lxx : W2.heap.size < wr.heap.size := by omega
      have lgg : g < wr.heap.size := by omega
      have lh : h_ < wr.heap.size := by omega
      have lq : q_ < wr.heap.size := by omega
      clear hx hhc hqc hz
      gi_wp2_with fail
      refine wpIn_region_up wr.heap.size 13 [(true, 0), (true, 1), (true, 2), (true, 3), (true, 4), (true, 5), (true, 6), (true, 7), (true, 8), (true, 9), (true, 10), (true, 11), (true, 12)] (by kernel_rfl) (by kernel_rfl) (by kernel_rfl) (fun _ _ h => h) (fun _ _ d _ _ h => by cases d <;> exact h) ?_
      have hb : Below wr.heap.size wr wr.drew := (Below.refl _ _).drew
      iterate 13
       first | refine wpS_takeL rfl rfl ?_ | refine wpS_takeB rfl rfl rfl ?_
       first | go_big_quiet_step (rfl) | (go_big_quiet_want; go_big_quiet_op; refine ⟨_, fun _ => rfl, ?_⟩; go_big_quiet_on)
       refine wpQuiet_nil ?_
      refine wpS_nil ?_
      simp only [List.drop_succ_cons, List.drop_zero]
      go_wp2_with fail
      have hb2 := hbl.trans (hb.mono hs4r)
      clear hb hbl x0 x1 t12 y12 c9 c7 l7 l9 lxx lgg lh lq
      gi_wp2_with fail
      gi_roundg (ln - (i + 1))
      case measure => omega
      case rel => exact ⟨i + 1, by norm_cast, by omega, Nat.le_refl _, hb2⟩
     ·have hil : i = ln := by omega
      have hz := Lib.hid (HZ4.out.turn (hbl.mono (show V3.heap.size ≤ w4.heap.size by omega)) hlx1.1 hlx1.2.1 hlx1.2.2)
      have c9 : wr.cell? ⟨lx + 1 + 1, 0, none⟩ = _ := hz.out.k9.cell 0; have c8 : wr.cell? ⟨lx + 1, 0, none⟩ = _ := hz.out.k8.cell 0
      have c5 : wr.cell? ⟨w.heap.size, 0, none⟩ = some (.int .i64 st) := (own_belowZ K5.out hz.out.out (by omega)).cell 0
      have k6 : Blk wr rb #[.bool false] 4 := own_belowZ K6.out hz.out.out (by omega)
      have c6 : wr.cell? ⟨rb, 0, none⟩ = some (.bool false) := k6.cell 0
      simp only [List.getElem?_toArray, List.getElem?_cons_zero] at c9 c8
      have f9 := hz.out.k9.free 0; have f6 := k6.free 0
      have l9 : lx + 1 + 1 < wr.heap.size := by omega
      have l8 : lx + 1 < wr.heap.size := by omega
      have l6 : rb < wr.heap.size := by omega
      have l5 : w.heap.size < wr.heap.size := by omega
      have hev : ev = 0 := HE0.out (by intro e; rw [e] at hk; simp at hk)
      have n1 : rb ≠ lx + 1 + 1 := by omega
      have n2 : lx + 1 ≠ lx + 1 + 1 := by omega
      have n3 : w.heap.size ≠ lx + 1 + 1 := by omega
      have HB3r := Lib.hid (HB34.out.trans (hbl.mono hs34))
      have hk1 : k + 1 ≤ 100000 := by have := HEL.out; omega
      subst hev; clear hbl NL4 GN4 Y4 KX4 hil hgi
      by_cases hstop : ((k + 1 : Nat) : Int) = st
      ·have hse : (((k : Int) + 1) == st) = true := by simp; omega
       gi_wp2_with fail
       refine ⟨trivial, CallsIn.inRound _ (callsIn_wide.2 ?_)⟩
       refine calls_w ?_
       intro wk hwk
       have okw : OutL [lx + 1 + 1] wr wk := by rw [hwk]; exact (OutL.refl _ _).set (by simp) 0 none _
       have hwks : wk.heap.size = wr.heap.size := by rw [hwk]; simp [World.setCell]
       have k6k : Blk wk rb #[.bool false] 4 := k6.turn (okw.block rb (by omega) (by simp; omega))
       have HK6K := Lib.hid k6k; clear hwk c9 c8 c5 c6 f9 f6 k6 k6k
       refine (awake_is _).mono ?_
       rintro e wz ⟨rfl, hbz⟩
       have hwz := hbz.size; have k6z := HK6K.out.of hbz; have fz := k6z.free 0; have c6 : wz.cell? ⟨rb, 0, none⟩ = some (.bool false) := k6z.cell 0; have l6z := k6z.lt
       have hsf : (wz.setCell ⟨rb, 0, none⟩ (.bool true)).heap.size = wz.heap.size := by simp [World.setCell]
       have GG : Hid ((Fix2 (V3.heap.size + 1) V3.heap.size W3 (wz.setCell ⟨rb, 0, none⟩ (.bool true)) ∧ Code.ret = Code.ret ∧ Blk (wz.setCell ⟨rb, 0, none⟩ (.bool true)) rb #[.bool true] 4 ∧ Below w.heap.size w (wz.setCell ⟨rb, 0, none⟩ (.bool true))) ∧ AboveX (V3.heap.size + 2) G W3 (wz.setCell ⟨rb, 0, none⟩ (.bool true))) := by
        have fx : ∀ b, b < W3.heap.size → b ≠ lx + 1 + 1 → b ≠ rb → (wz.setCell ⟨rb, 0, none⟩ (.bool true)).heap[b]? = W3.heap[b]? := fun b h1 h2 h3 =>
         (Below.heap_setCell _ _ _ _ (show b ≠ rb from h3)).trans ((hbz.block b (by omega)).trans ((okw.block b (by omega) (by simpa using h2)).trans (HB3r.out.block b h1)))
        have bw1 := B1.out.trans (hz.out.out.mono (show w.heap.size ≤ V1.heap.size by omega))
        have bw2 := bw1.trans (okw.below bw1.size (by simp; omega))
        have bw3 := bw2.trans (hbz.mono bw2.size)
        exact Lib.hid ⟨⟨⟨fx _ (by omega) (by omega) (by omega), fx _ (by omega) (by omega) (by omega)⟩, rfl, k6z.put 0 (.bool true), bw3.trans (((OutL.refl [rb] wz).set (by simp) 0 none _).below bw3.size (by simp; omega))⟩, ⟨by omega, fun b h1 h2 _ => fx b h2 (by omega) (by omega)⟩⟩
       clear okw HB34 HB3r HZ4 HZ2 hbz k6z hz
       gi_wp2_with fail
       obtain ⟨⟨ga1, _, ga2⟩, ga3⟩ := GG.out
       exact ⟨⟨ga1, rfl, ga2⟩, ga3⟩
      ·have hse : (((k : Int) + 1) == st) = false := by simp; omega
       have hWf : ∀ b, b < V3.heap.size + 2 ∨ V3.heap.size + 2 ≤ b → b < wr.heap.size → b ≠ lx + 1 + 1 → (wr.setCell ⟨lx + 1 + 1, 0, none⟩ (.int .i64 ((k : Int) + 1))).heap[b]? = wr.heap[b]? := fun b _ _ h => Below.heap_setCell _ _ _ _ h
       have hsf : (wr.setCell ⟨lx + 1 + 1, 0, none⟩ (.int .i64 ((k : Int) + 1))).heap.size = wr.heap.size := by simp [World.setCell]
       have GG : Hid ((Fix2 (V3.heap.size + 1) V3.heap.size W3 (wr.setCell ⟨lx + 1 + 1, 0, none⟩ (.int .i64 ((k : Int) + 1))) ∧ ∃ G' : Nat → Prop, (∀ g, G' g → G g ∨ H g ∨ W3.heap.size ≤ g) ∧ (∀ g, ¬ G' g) ∧ EzJ V1 0 b1 pa n pc sa m sq (some ⟨g, 0, none⟩) cap ne lx (k + 1) (wr.setCell ⟨lx + 1 + 1, 0, none⟩ (.int .i64 ((k : Int) + 1))) ∧ V3.heap.size ≤ (wr.setCell ⟨lx + 1 + 1, 0, none⟩ (.int .i64 ((k : Int) + 1))).heap.size) ∧ AboveX (V3.heap.size + 2) G W3 (wr.setCell ⟨lx + 1 + 1, 0, none⟩ (.int .i64 ((k : Int) + 1)))) := by
        have hz' := hz.out
        have ks : ∀ {b : Nat} {c : Array Value} {t : TypeId}, Blk wr b c t → b ≠ lx + 1 + 1 → Blk (wr.setCell ⟨lx + 1 + 1, 0, none⟩ (.int .i64 ((k : Int) + 1))) b c t := fun h hn => h.turn (hWf _ (by omega) h.lt hn)
        have fx : ∀ b, b < W3.heap.size → b ≠ lx + 1 + 1 → (wr.setCell ⟨lx + 1 + 1, 0, none⟩ (.int .i64 ((k : Int) + 1))).heap[b]? = W3.heap[b]? := fun b h1 h2 => (hWf b (by omega) (by omega) h2).trans (HB3r.out.block b h1)
        refine Lib.hid ⟨⟨⟨fx (V3.heap.size + 1) (by omega) (by omega), fx V3.heap.size (by omega) (by omega)⟩, fun _ => False, fun g h => h.elim, fun g h => h, ⟨ks hz'.k7 (by omega), ks hz'.k8 (by omega), hz'.k9.put 0 _, ks hz'.e1 (by omega), ks hz'.e2 (by omega), hz'.out.trans (((OutL.refl [lx + 1 + 1] wr).set (by simp) 0 none _).below hz'.out.size (by simp; omega))⟩, by omega⟩, ⟨by omega, fun b h1 h2 _ => fx b h2 (by omega)⟩⟩
       clear hWf hsf hz HB34 HB3r HZ4 HZ2 k6
       gi_wp2_with fail
       exact GG.out
   case done =>
    rintro Dd G W rfl ⟨_, hz, hsz⟩ hD
    have c9 : W.cell? ⟨lx + 1 + 1, 0, none⟩ = _ := hz.k9.cell 0; have c7 : W.cell? ⟨lx, 0, none⟩ = _ := hz.k7.cell 0
    simp only [List.getElem?_toArray, List.getElem?_cons_zero] at c9 c7
    rw [HNE.out] at c9
    have k6 : Blk W rb #[.bool false] 4 := own_belowZ K6.out hz.out (by omega)
    have B4 := B1.out.trans (hz.out.mono (by omega))
    have l7 : lx < W.heap.size := by omega
    have l9 : lx + 1 + 1 < W.heap.size := by omega
    have l6 := k6.lt; have HD := Lib.hid hD; clear hz HZ0 HTT hD
    gi_wp2_with fail
    refine ⟨trivial, callsIn_wide.2 ?_⟩
    refine (awake_is _).mono ?_
    rintro e V ⟨rfl, hb⟩
    have k6b := k6.of hb; have fz := k6b.free 0; have c6 : V.cell? ⟨rb, 0, none⟩ = some (.bool false) := k6b.cell 0; have l6b := k6b.lt
    have HB5 := Lib.hid (B4.trans (hb.mono B4.size))
    have HDV := Lib.hid ((hb.block V3.heap.size (Array.getElem?_eq_some_iff.1 HD.out).1).trans HD.out)
    have HK6 := Lib.hid k6b; clear c9 c7 hb k6 k6b B4
    gi_wp2
    refine ⟨by simp, .inl ⟨_, _, rfl, run_takeDeferred ((Below.heap_setCell V ⟨rb, 0, none⟩ (.bool true) V3.heap.size (show V3.heap.size ≠ rb by omega)).trans HDV.out), ?_⟩⟩
    simp only [LeavesInM, LeavesIn]
    have c6z : ((V.setCell ⟨rb, 0, none⟩ (.bool true)).putObj V3.heap.size (.deferred none)).cell? ⟨rb, 0, none⟩ = some (.bool true) := ((HK6.out.put 0 (.bool true)).turn (World.putObj_heap_other (by omega))).cell 0
    have HBW : Hid (Below w.heap.size w ((V.setCell ⟨rb, 0, none⟩ (.bool true)).putObj V3.heap.size (.deferred none))) := Lib.hid ((HB5.out.trans (((OutL.refl [rb] V).set (by simp) 0 none _).below HB5.out.size (by simp; omega))).trans ((putObj_out _ V3.heap.size _).below (by have := HB5.out.size; simp [World.setCell]; omega) (by simp; omega)))
    exact ⟨_, by simp [results, Try.results3, go_sem, c6z], rfl, HBW.out⟩
   case stop =>
    rintro Dd c k W rfl ⟨rfl, hk6, hbw⟩ hD
    have HK6 := Lib.hid hk6; have HB5 := Lib.hid hbw; have HD := Lib.hid hD; clear hk6 hbw hD HZ0 HTT
    gi_wp2
    refine ⟨by simp, .inl ⟨_, _, rfl, run_takeDeferred HD.out, ?_⟩⟩
    simp only [LeavesInM, LeavesIn]
    have c6z : (W.putObj V3.heap.size (.deferred none)).cell? ⟨rb, 0, none⟩ = some (.bool true) := (HK6.out.turn (World.putObj_heap_other (by omega))).cell 0
    have HBW : Hid (Below w.heap.size w (W.putObj V3.heap.size (.deferred none))) := Lib.hid (HB5.out.trans ((putObj_out _ V3.heap.size _).below HB5.out.size (by simp; omega)))
    exact ⟨_, by simp [results, Try.results3, go_sem, c6z], rfl, HBW.out⟩
end Go.Proofs.Ytkaolhlmimalkaa

namespace Go.Proofs.Ytkaolhlmimalkaa
open Go.RowKit

end Go.Proofs.Ytkaolhlmimalkaa
namespace Go.Proofs.Ytkaolhlmimalkaa
open Go.ChangeShapes Go.WideShapes Go.ChangeAt Go.RowKit Go.Joins

theorem own : ownKnob Try.prog.godebug = none := by kernel_rfl
theorem laidOut : laidOutB Try.prog = true := by kernel_rfl

theorem in64_wf {x : Int} (h : (Lit.int .i64 x).wf = true) : In64 x := by
  simp [Lit.wf, IntKind.min, IntKind.max, IntKind.signed, IntKind.bits] at h
  unfold In64; omega

section
variable {H : Type} {enc : TypeId × Value → H} {w : World} {base : Nat} {spare : Nat → Bool} {held : Bool}

end
end Go.Proofs.Ytkaolhlmimalkaa
namespace Go.Proofs.Ytkaolhlmimalkaa
open Go.ChangeShapes Go.WideShapes Go.ChangeAt Go.RowKit Go.Joins
end Go.Proofs.Ytkaolhlmimalkaa
namespace Go.Proofs.Ytkaolhlmimalkaa
open Go.RowKit

end Go.Proofs.Ytkaolhlmimalkaa
namespace Go.Proofs.Ytkaolhlmimalkaa
open Go.RowKit

end Go.Proofs.Ytkaolhlmimalkaa
namespace Go.Proofs.Ytkaolhlmimalkaa
open Go.RowKit

/-- a variable that holds a point of the document's answer -/
abbrev QVar (w : World) (b : Nat) (x y : Int) : Prop := Blk w b (pC x y) 67
theorem QVar.c {w : World} {b : Nat} {x y : Int} (h : QVar w b x y) : w.cell? ⟨b, 0, none⟩ = some (.int .i64 x) ∧ w.cell? ⟨b, 1, none⟩ = some (.int .i64 y) := ⟨h.cell 0, h.cell 1⟩
end Go.Proofs.Ytkaolhlmimalkaa
namespace Go.Proofs.Ytkaolhlmimalkaa
open Go.RowKit

end Go.Proofs.Ytkaolhlmimalkaa
namespace Go.Proofs.Ytkaolhlmimalkaa
open Go.RowKit

end Go.Proofs.Ytkaolhlmimalkaa

namespace Go.Proofs.Ytkaolhlmimalkaa
open Go.ChangeShapes Go.WideShapes Go.ChangeAt Go.RowKit

theorem blk_add (a : Addr) (n : Nat) : (a.add n).block = a.block := by unfold Addr.add; split <;> rfl
end Go.Proofs.Ytkaolhlmimalkaa

namespace Go.Proofs.Ytkaolhlmimalkaa
open Go.ChangeShapes Go.WideShapes Go.ChangeAt Go.RowKit

theorem spot_some {w : World} {g o : Nat} {q : Nat} {v : Value} : ¬ w.cell? ⟨g, o, some q⟩ = some v := by
  intro h1
  unfold World.cell? at h1
  revert h1
  cases w.heap[(⟨g, o, some q⟩ : Addr).block]? with
  | none => intro h1; cases h1
  | some b => cases b <;> intro h1 <;> cases h1
section
variable {H : Type} {enc : TypeId × Value → H} {w : World} {base : Nat} {held : Bool}
set_option maxRecDepth 100000 in
theorem open_pns {r : Reach} {b0 : Nat} {v : Value} {d : DataW H} {p : List MemPlace} (hv : Value.okWide Try.prog w r b0 22 v) (h : DataW.Trod enc Try.prog w base (fun _ => true) held 22 v d p) :
    ∃ ao n cap X Y, v = .slice ao n cap ∧ Pns w ao n cap X Y ∧ ∀ i, In64 (X i) ∧ In64 (Y i) := by
 obtain ⟨ao, n, cap, rfl⟩ := okWide_slice Try.underlying22 hv
 obtain ⟨fuel, hf⟩ := h
 have hC : Try.prog.cellsOf 44 = 2 := by kernel_rfl
 have hC1 : Try.prog.cellsOf 3 = 1 := by kernel_rfl
 have z0 : In64 0 := by unfold In64; omega
 rcases Go.Deep.open_slice_pairs Try.underlying22 Try.underlying44 hC rfl rfl hC1 hC1 hf with ⟨hc, hx⟩ | ⟨a, len, c2, m, k, V0, V1, D0, D1, P0, P1, hc, _, hl, hm, hmm, hx, hall⟩
 ·obtain ⟨rfl, rfl, rfl⟩ : ao = none ∧ n = 0 ∧ cap = 0 := by simpa [Value.cells] using hc
  exact ⟨none, 0, 0, fun _ => 0, fun _ => 0, rfl, ⟨fun h => absurd h (by omega), Nat.le_refl _, by omega⟩, fun _ => ⟨z0, z0⟩⟩
 ·obtain ⟨rfl, rfl, rfl⟩ : ao = some a ∧ n = len ∧ cap = c2 := by simpa [Value.cells] using hc
  have hmc : m = cap := by rw [hmm]; rfl
  have key : ∀ i, i < n → ∃ y : Int × Int, V0 i = .int .i64 y.1 ∧ V1 i = .int .i64 y.2 ∧ In64 y.1 ∧ In64 y.2 := by
   intro i hi
   obtain ⟨_, _, t0, t1⟩ := hall i (by omega)
   obtain ⟨a0, e0, _, g0⟩ := DataW.trod_int Try.underlying3 t0
   obtain ⟨a1, e1, _, g1⟩ := DataW.trod_int Try.underlying3 t1
   exact ⟨(a0, a1), by simpa using e0, by simpa using e1, in64_wf g0, in64_wf g1⟩
  obtain ⟨X, hX⟩ : ∃ X : Nat → Int, X = fun i => if h : i < n then (key i h).choose.1 else 0 := ⟨_, rfl⟩
  obtain ⟨Y, hY⟩ : ∃ Y : Nat → Int, Y = fun i => if h : i < n then (key i h).choose.2 else 0 := ⟨_, rfl⟩
  have hP : Pts w (some a) n cap X Y := by
   refine ⟨fun h0 => ⟨a, rfl, ?_, fun i hi => ?_⟩, hl, hm⟩
   ·have := (hall 0 (by omega)).1
    have := World.block_lt_of_cell? _ _ this
    rwa [blk_add] at this
   ·have e0 := (hall i (by omega)).1
    have e1 := (hall i (by omega)).2.1
    rw [(key i hi).choose_spec.1] at e0
    rw [(key i hi).choose_spec.2.1] at e1
    rw [hX, hY]
    simp only [dif_pos hi]
    exact ⟨e0, by rw [Go.Deep.add_add]; exact e1⟩
  refine ⟨some a, n, cap, X, Y, rfl, Pns.ofPts hP, fun i => ?_⟩
  rw [hX, hY]
  by_cases hi : i < n
  ·simp only [dif_pos hi]; exact (key i hi).choose_spec.2.2
  ·simp only [dif_neg hi]; exact ⟨z0, z0⟩
set_option maxRecDepth 100000 in
theorem open_segs {r : Reach} {b0 : Nat} {v : Value} {d : DataW H} {p : List MemPlace} (hv : Value.okWide Try.prog w r b0 23 v) (h : DataW.Trod enc Try.prog w base (fun _ => true) held 23 v d p) :
    ∃ ao n cap A, v = .slice ao n cap ∧ Sgs w ao n cap A := by
 obtain ⟨ao, n, cap, rfl⟩ := okWide_slice Try.underlying23 hv
 obtain ⟨fuel, hf⟩ := h
 have hC : Try.prog.cellsOf 46 = 4 := by kernel_rfl
 have hC1 : Try.prog.cellsOf 3 = 1 := by kernel_rfl
 have hC2 : Try.prog.cellsOf 44 = 2 := by kernel_rfl
 have z0 : In64 0 := by unfold In64; omega
 rcases Go.Deep.open_slice Try.underlying23 hf with ⟨hc, hx⟩ | ⟨a, len, c2, m, k, D, Pl, hc, hb, hl, hm, hmm, hxx, hall⟩
 ·obtain ⟨rfl, rfl, rfl⟩ : ao = none ∧ n = 0 ∧ cap = 0 := by simpa [Value.cells] using hc
  exact ⟨none, 0, 0, fun _ _ => 0, rfl, ⟨fun h => absurd h (by omega), fun _ _ => z0, Nat.le_refl _, by omega⟩⟩
 ·obtain ⟨rfl, rfl, rfl⟩ : ao = some a ∧ n = len ∧ cap = c2 := by simpa [Value.cells] using hc
  have hmc : m = cap := by rw [hmm]; rfl
  have key : ∀ i, i < n → ∃ y : Nat → Int, (∀ j, In64 (y j)) ∧ w.cell? (a.add (i * 4)) = some (.int .i64 (y 0)) ∧ w.cell? ((a.add (i * 4)).add 1) = some (.int .i64 (y 1)) ∧ w.cell? ((a.add (i * 4)).add 2) = some (.int .i64 (y 2)) ∧ w.cell? ((a.add (i * 4)).add 3) = some (.int .i64 (y 3)) := by
   intro i hi
   obtain ⟨cs', h1, h2⟩ := hall i (by omega)
   rw [hC] at h1
   obtain ⟨_, hlen, hcell⟩ := World.cells?_some h1
   obtain ⟨xs, k, hk, hxy, _, hxl, hf⟩ := DataW.trod_struct Try.underlying46 h2
   match xs, hxl, cs', hlen with
   | [y0, y1], _, [v0, v1, v2, v3], _ =>
    have g0 := hf 0 _ rfl; have g1 := hf 1 _ rfl
    simp [hC2] at g0 g1
    have e0 := hcell 0 (by omega)
    have e1 := hcell 1 (by omega)
    have e2 := hcell 2 (by omega)
    have e3 := hcell 3 (by omega)
    simp at e0 e1 e2 e3
    obtain ⟨us, k2, _, _, _, hul, hfu⟩ := DataW.trod_struct Try.underlying44 g0
    obtain ⟨ws, k3, _, _, _, hwl, hfw⟩ := DataW.trod_struct Try.underlying44 g1
    match us, hul, ws, hwl with
    | [u0, u1], _, [x0, x1], _ =>
     have m0 := hfu 0 _ rfl; have m1 := hfu 1 _ rfl; have m2 := hfw 0 _ rfl; have m3 := hfw 1 _ rfl
     simp [hC1] at m0 m1 m2 m3
     obtain ⟨a0, q0, _, w0⟩ := DataW.trod_int Try.underlying3 m0
     obtain ⟨a1, q1, _, w1⟩ := DataW.trod_int Try.underlying3 m1
     obtain ⟨a2, q2, _, w2⟩ := DataW.trod_int Try.underlying3 m2
     obtain ⟨a3, q3, _, w3⟩ := DataW.trod_int Try.underlying3 m3
     simp at q0 q1 q2 q3
     subst q0 q1 q2 q3
     have ez : ∀ x : Addr, x.add 0 = x := fun x => by unfold Addr.add; simp
     refine ⟨fun j => if j = 0 then a0 else if j = 1 then a1 else if j = 2 then a2 else a3, fun j => ?_, by simpa [hC, ez] using e0, by simpa [hC] using e1, by simpa [hC] using e2, by simpa [hC] using e3⟩
     show In64 (if j = 0 then a0 else if j = 1 then a1 else if j = 2 then a2 else a3)
     split
     ·exact in64_wf w0
     ·split
      ·exact in64_wf w1
      ·split
       ·exact in64_wf w2
       ·exact in64_wf w3
  obtain ⟨A, hA⟩ : ∃ A : Nat → Nat → Int, A = fun i j => if h : i < n then (key i h).choose j else 0 := ⟨_, rfl⟩
  have hA64 : ∀ i j, In64 (A i j) := fun i j => by
   rw [hA]
   by_cases hi : i < n
   ·simp only [dif_pos hi]; exact (key i hi).choose_spec.1 j
   ·simp only [dif_neg hi]; exact z0
  refine ⟨some a, n, cap, A, rfl, ⟨fun h0 => ?_, hA64, hl, hm⟩⟩
  have hlt : a.block < w.heap.size := by
   have := (key 0 h0).choose_spec.2.1
   have := World.block_lt_of_cell? _ _ this
   rwa [blk_add] at this
  obtain ⟨va, ha0⟩ : ∃ va, w.cell? (a.add (0 * 4)) = some va := ⟨_, (key 0 h0).choose_spec.2.1⟩
  obtain ⟨g, o, s⟩ := a
  cases s with
  | some q =>
   rw [Nat.zero_mul] at ha0
   unfold Addr.add at ha0
   rw [if_pos rfl] at ha0
   exact absurd ha0 spot_some
  | none =>
   have e : ∀ (o k : Nat), (⟨g, o, none⟩ : Addr).add k = ⟨g, o + k, none⟩ := fun o k => by unfold Addr.add; split <;> simp_all
   refine ⟨g, o, rfl, hlt, fun i hi j hj => ?_⟩
   obtain ⟨k0, k1, k2, k3⟩ := (key i hi).choose_spec.2
   rw [hA]
   simp only [dif_pos hi]
   simp only [e] at k0 k1 k2 k3
   match j, hj with
   | 0, _ => exact k0
   | 1, _ => exact k1
   | 2, _ => exact k2
   | 3, _ => exact k3
   | j + 4, hj => omega
end
end Go.Proofs.Ytkaolhlmimalkaa

namespace Go.Proofs.Ytkaolhlmimalkaa
open Go.ChangeShapes Go.WideShapes Go.ChangeAt Go.RowKit

set_option maxRecDepth 100000 in
set_option maxHeartbeats 1000000 in
theorem sweepEach_lifted (os : Os) (started : os.Started) (H : Type) (enc : TypeId × Value → H) :
    ReturnsInHanded {} Try.checked os 3 .any (Rows.sweepEachSpec.pre6 enc Try.prog Try.f3 Rows.sweepEachRow.domain false) (Rows.sweepEachSpec.post enc Try.prog Try.f3 false true false false) := by
 refine returnsInHanded_of_change (C := Try.checked) own started (by kernel_rfl) Try.func3
  (ChangeSpec.witness6 (enc := enc) (C := Try.checked) false ⟨#[], #[.slice none 0 0, .slice none 0 0, .int .i64 0], []⟩ 8 (by kernel_rfl) (by kernel_rfl) (by kernel_rfl) (by kernel_rfl)) ?_
 intro W base args ds gs before hval0 hW hcnd _
 have hval : ∀ (j : Nat) t v, Try.f3.params[j]? = some t → args[j]? = some v → Value.okWide Try.prog W .any base t v := hval0; have hW' := hW
 obtain ⟨p, q, hA0, hV, rfl, hfz, hnd⟩ := hW
 have hA : DataW.TrodAll enc Try.prog W 0 (fun _ => true) true Try.f3.params.toList args.toList ds p := hA0
 rw [Try.params3] at hA hval
 obtain ⟨v0, vs0, d0, ds0, p0, q0, hargs, rfl, rfl, h0, r0⟩ := trodAll_cons hA
 obtain ⟨v1, vs1, d1, ds1, p1, q1, rfl, rfl, rfl, h1, r1⟩ := trodAll_cons r0
 obtain ⟨v2, vs2, d2, ds2, p2, q2, rfl, rfl, rfl, h2, r2⟩ := trodAll_cons r1
 obtain ⟨rfl, rfl, rfl⟩ := trodAll_nil r2
 obtain rfl : args = #[v0, v1, v2] := by cases args; simp_all
 obtain ⟨rfl, rfl⟩ := trodVars_none hV
 have k0 := h0
 have lt0 : ∀ x ∈ p0, x.block < W.heap.size := by obtain ⟨m, hm⟩ := k0; exact DataW.trod_lt m _ _ _ hm
 obtain ⟨ao0, n0, cap0, X0, Y0, rfl, io0, iw0⟩ := open_pns (hval 0 22 v0 rfl rfl) h0
 have k1 := h1
 have lt1 : ∀ x ∈ p1, x.block < W.heap.size := by obtain ⟨m, hm⟩ := k1; exact DataW.trod_lt m _ _ _ hm
 obtain ⟨ao1, n1, cap1, A1, rfl, io1⟩ := open_segs (hval 1 23 v1 rfl rfl) h1
 obtain ⟨x2, rfl, rfl, rfl, wx2⟩ := open_int Try.underlying3 (hval 2 3 v2 rfl rfl) h2
 have ix2 := in64_wf wx2; clear hA0 hval0
 refine (SweepEach_any ao0 n0 cap0 X0 Y0 ao1 n1 cap1 A1 x2 W io0 iw0 io1 ix2).mono fun e W' ⟨he, bel⟩ => ?_
 subst he
 exact ⟨_, rfl, _, _, _, [], _, [], hW', trodAll_mk1 (shut_bool Try.underlying4 _), (trodAll_cons_mk (Below.trod laidOut (by kernel_rfl) (of_decide_eq_true (by kernel_rfl)) k0 bel lt0) (trodAll_cons_mk (Below.trod laidOut (by kernel_rfl) (of_decide_eq_true (by kernel_rfl)) k1 bel lt1) (trodAll_cons_mk (shut_int Try.underlying3 wx2) trodAll_mk0))), rfl, bel.frame _, fun h => by cases h⟩

theorem sweepEach_holds : Rows.SweepEachSaid :=
  OpenClaim.holds_of_wide 3 Try.f3 rfl rfl rfl rfl rfl rfl rfl ⟨rfl, rfl, rfl, rfl, rfl⟩ rfl rfl rfl rfl rfl (by kernel_rfl) Try.func3 (by kernel_rfl)
    (of_decide_eq_true (by kernel_rfl)) (by unfold Func.isWrapper; rw [if_neg (by decide +kernel)]; exact ⟨rfl, rfl⟩)
    (fun os started H enc _ => sweepEach_lifted os started H enc)
#print axioms sweepEach_holds
end Go.Proofs.Ytkaolhlmimalkaa

