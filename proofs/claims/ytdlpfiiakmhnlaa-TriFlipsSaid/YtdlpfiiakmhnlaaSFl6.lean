/- My texts TrBz, TrCg, TrCe, TrCf, TrDf, TrDh, TrDj, TrDk, TrBl, TrDl, TrBr, TrBm, TrBn, TrBo, TrBs, TrDm, TrAj, joined: what the last one needs of them. Conditions: as each lemma says. -/
import Derived.Test.YtdlpfiiakmhnlaaSFl5
import Derived.KernelRfl
import Derived.StillTail
import Derived.OrdersHeld
import Derived.Deep.Quiet
import Derived.Below
import Derived.WalkKit
import Derived.Test.YtdlpfiiakmhnlaaProg
import Derived.WalkSpells
import Derived.StillTactics
import Derived.Laws.Pointers
import Derived.Deep.RegionHeld3
import Derived.RowKit3
import Derived.Deep.QuietTactic
import Derived.BigQuiet
import Derived.BigRegion
import Derived.Lib.Hide
import Derived.WalkSmall
import Derived.Laws.BitsAllLaws
import Derived.IntWalk
import Derived.Deep.OwnRows
import Derived.Deep.LoopGhost
import Derived.Shelf.Bits.Mul64
import Derived.ProofKit
import Derived.OpenShut
import Derived.ShutString
import Derived.ChangeOld
import Derived.Lib.SmallJoins
import Derived.Laws.IdiomArrays
import Derived.Laws.CopyOwn
import Derived.Laws.AppendOwn
import Derived.Deep.DeepAppendRoom
import Derived.Lib.AppendZerosOnto
import Derived.Lib.Overlaps
import Derived.Deep.RegionLaw
import Derived.Shelf.RegionOpenPlain
import Derived.Deep.RegionWith
import Derived.Sort.LoopGhostIn
import Derived.RangeFuncNested
import Derived.RangeFuncBound
import Derived.RangeFuncCalls
import Derived.RangeFuncLeaves
import Derived.OwnWalk
import Derived.OwnWalkIn
import Derived.TacticsInMore
import Derived.LoopNIn
import Derived.LoopIn
import Derived.Deep.DeepFit
import Derived.Deep.DeepCutAuto
import Derived.Shelf.Abstract
import Derived.Shelf.RegionOpen
import Derived.Maps.OwnIn
import Derived.WalkMore
import Derived.Deep.SlicePairs
namespace Go.Proofs.Ytdlpfiiakmhnlaa
open Go.RowKit Go.Shelf
attribute [local go_sem] Oper.semAt_some undef

theorem wp_rangeXN {P : Program} {g : Operand} {ps : Array Tmp} {assign body : Code} {Q : Exit → Act → World → Prop} {a : Act} {w : World} {gf : Nat} {lb : Array Value} {N : Nat} {encs : Nat → Array Value} {Kp : World → Prop}
    (hg : a.eval g = .func (.func gf) #[] lb) (eg : ∀ args w, (callFunc gf args).run P w = .ok (.enter gf args) w)
    (hT : TellsX P gf lb N encs (w.heap.size + 2) Kp) (hps : ∀ k, (encs k).size = ps.size)
    (J : Nat → World → Prop) (hst : ∀ k W W', J k W → Below w.heap.size W W' → J k W')
    (hKp : ∀ k W, J k W → Kp W) (h0 : J 0 w)
    (hround : ∀ (lid D k : Nat) (G : Nat → Prop) (W : World), k < N → (∀ g, ¬ G g) → J k W → lid = w.heap.size + 1 → D = w.heap.size → lid < W.heap.size → D < W.heap.size →
      assign.wpIn (Fence.wide.inRound lid) 1 P (Exit.then (fun a₁ w₁ => (Fix2 lid D W w₁ ∧ AboveX (w.heap.size + 2) G W w₁) ∧ ∀ w₂, OutL [lid] w₁ w₂ → body.wpIn (Fence.wide.inRound lid) 1 P (rPostX (w.heap.size + 2) lid D w₂ (fun G k W => (∀ g, ¬ G g) ∧ J k W) (fun _ _ _ => False) G k) a₁ w₂) (fun _ _ _ => False))
        { tmps := (ps.zip (encs k)).foldl (fun t (p, v) => t.setIfInBounds p v) a.tmps, defers := [] } W)
    (hpost : ∀ W, J N W → W.heap[w.heap.size]? = some (.deferred (some [])) → Q .normal { a with defers := { target := .collected w.heap.size, args := #[] } :: a.defers } W) :
    (Code.rangeFunc g ps assign body).wp P Q a w := by
  refine wpIn_wide.1 (wpIn_rangeX (m := 1) hg eg hT hps (fun G k W => (∀ g, ¬ G g) ∧ J k W) (fun _ _ _ => False) (fun G k W h g hg => absurd hg (h.1 g)) (fun G k W W' h hb => ⟨h.1, hst k W W' h.2 hb.1⟩) (fun c k W W' h hb => h.elim) (fun G k W h => hKp k W h.2) ⟨fun _ h => h, h0⟩ ?_ ?_ (fun D c k W _ h _ => h.elim))
  · intro lid D k G W hk hJ h1 h2 h3 h4
    exact hround lid D k G W hk hJ.1 hJ.2 h1 h2 h3 h4
  · rintro D G W rfl hJ hD
    exact hpost W hJ.2 hD
theorem ecN_le {N n : Nat} {O : Nat → List (Nat × Nat)} (h : WS N O n) (k : Nat) : ecN N O k ≤ 3 * n := by
  have h1 := ecN_all h
  unfold ecN at h1 ⊢
  rw [List.take_length] at h1
  have h2 : ((preE N O N).map (cE O)).sum = (((preE N O N).take k).map (cE O)).sum + (((preE N O N).drop k).map (cE O)).sum := by
    rw [← List.sum_append, ← List.map_append, List.take_append_drop]
  omega
theorem Blk.setO {w : World} {g : Nat} {c : Array Value} {ty : TypeId} (h : Blk w g c ty) {b : Nat} (hne : g ≠ b) (v : Value) : Blk (w.setCell ⟨b, 0, none⟩ v) g c ty := (Below.heap_setCell w ⟨b, 0, none⟩ v g hne).trans h
theorem five_new (w V : World) (c0 c1 c2 c3 c4 : Array Value) (t0 t1 t2 t3 t4 : TypeId) (hV : V = ((((w.alloc (.cells c0 t0)).alloc (.cells c1 t1)).alloc (.cells c2 t2)).alloc (.cells c3 t3)).alloc (.cells c4 t4)) :
    Below w.heap.size w V ∧ Blk V w.heap.size c0 t0 ∧ Blk V (w.heap.size + 1) c1 t1 ∧ Blk V (w.heap.size + 2) c2 t2 ∧ Blk V (w.heap.size + 3) c3 t3 ∧ Blk V (w.heap.size + 4) c4 t4 ∧ V.heap.size = w.heap.size + 5 := by
  have e1 := (Blk.new (w.alloc (.cells c0 t0)) c1 t1)
  have e2 := (Blk.new ((w.alloc (.cells c0 t0)).alloc (.cells c1 t1)) c2 t2)
  have e3 := (Blk.new (((w.alloc (.cells c0 t0)).alloc (.cells c1 t1)).alloc (.cells c2 t2)) c3 t3)
  have e4 := (Blk.new ((((w.alloc (.cells c0 t0)).alloc (.cells c1 t1)).alloc (.cells c2 t2)).alloc (.cells c3 t3)) c4 t4)
  simp only [World.size_alloc] at e1 e2 e3 e4
  subst hV
  refine ⟨?_, ((((Blk.new w c0 t0).of (below_a1 _ _)).of (below_a1 _ _)).of (below_a1 _ _)).of (below_a1 _ _), ((e1.of (below_a1 _ _)).of (below_a1 _ _)).of (below_a1 _ _), (e2.of (below_a1 _ _)).of (below_a1 _ _), e3.of (below_a1 _ _), e4, by simp⟩
  exact (((((below_a1 w _).trans ((below_a1 _ _).mono (by simp))).trans ((below_a1 _ _).mono (by simp; omega))).trans ((below_a1 _ _).mono (by simp; omega)))).trans ((below_a1 _ _).mono (by simp; omega))
set_option maxRecDepth 100000 in
set_option maxHeartbeats 4000000 in
theorem edges_is (t : Nat) (D : SD) (N : Nat) (X Y : Nat → Int) (O : Nat → List (Nat × Nat)) (n : Nat) (ao : Option Addr) (cap : Nat) (hn : n < 100000000) (hW : WS N O n) (w : World) (h : SM w t D N X Y O (n : Nat)) :
    Calls Try.prog 62 #[ptr t 0, .slice ao n cap] w fun e w' => e = .returned (.bool true) ∧ Below w.heap.size w w' := by
 have HS := Lib.hid h
 have HWS := Lib.hid hW
 clear h hW
 refine (callsIn_wide (n := 3)).1 ?_
 refine callsIn_of_wp_marks Try.func62 rfl trivial ?_ rfl
 refine wpIn_wide.2 ?_
 simp only [Try.ntmps62, List.size_toArray, List.length_cons, List.length_nil, Nat.reduceAdd, Nat.reduceSub, Array.replicate_succ, Array.replicate_zero, List.push_toArray, List.append_toArray, List.nil_append, List.cons_append]
 go_wp2_with fail
 refine calls_w ?_
 intro V hV
 obtain ⟨hb0, ks, kr, kx, ky, kn, hvs⟩ := five_new _ _ _ _ _ _ _ _ _ _ _ _ hV
 obtain ⟨sb, esb⟩ : ∃ b, w.heap.size = b := ⟨_, rfl⟩
 obtain ⟨rb, erb⟩ : ∃ b, w.heap.size + 1 = b := ⟨_, rfl⟩
 obtain ⟨xb, exb⟩ : ∃ b, w.heap.size + 1 + 1 = b := ⟨_, rfl⟩
 obtain ⟨yb, eyb⟩ : ∃ b, w.heap.size + 1 + 1 + 1 = b := ⟨_, rfl⟩
 obtain ⟨nb, enb⟩ : ∃ b, w.heap.size + 1 + 1 + 1 + 1 = b := ⟨_, rfl⟩
 rw [show w.heap.size + 2 = xb from exb] at kx
 rw [show w.heap.size + 3 = yb from eyb] at ky
 rw [show w.heap.size + 4 = nb from enb] at kn
 rw [erb] at kr
 rw [esb] at ks
 rw [enb, eyb, exb, erb, esb]
 have hws : w.heap.size = sb := esb
 have o1 : sb < rb := by omega
 have o2 : rb < xb := by omega
 have o3 : xb < yb := by omega
 have o4 : yb < nb := by omega
 have o5 : nb < V.heap.size := by omega
 have ot : t < sb := by have := HS.out.blk.lt; omega
 clear hV esb erb exb eyb enb
 refine (Edges_is t V).mono ?_
 rintro e V2 ⟨rfl, kq, hb⟩
 have HS2 := Lib.hid (HS.out.of (hb0.trans (hb.mono hb0.size)))
 have B2 := Lib.hid (hb0.trans (hb.mono hb0.size))
 have KS2 := Lib.hid (ks.of hb)
 have KR2 := Lib.hid (kr.of hb)
 have KX2 := Lib.hid (kx.of hb)
 have KY2 := Lib.hid (ky.of hb)
 have KN2 := Lib.hid (kn.of hb)
 have HDT := Lib.hid (show ∀ b, D.has t N b → b < sb by intro b hb; have := HS.out.lt hb; omega)
 have HPT := Lib.hid (show ∀ a, D.po = some a → 0 < N → a.block < sb by intro a h1 h2; obtain ⟨a', q1, q2, _⟩ := HS.out.pts.ptr h2; rw [h1] at q1; injection q1 with q1; subst q1; omega)
 have KQ := Lib.hid kq
 have oq := kq.lt
 obtain ⟨qb, eqb⟩ : ∃ b, V.heap.size = b := ⟨_, rfl⟩
 rw [eqb] at KQ oq o5 ⊢
 have hqv : qb < V2.heap.size := by omega
 clear kq oq hb0 hb ks kr kx ky kn hvs eqb HS
 obtain ⟨LE, hLE⟩ : ∃ l, preE N O N = l := ⟨_, rfl⟩
 have HLE := Lib.hid hLE
 have HUP : Hid (LE.Pairwise (fun x y => x.1 < y.1 ∨ (x.1 = y.1 ∧ x.2 < y.2)) ∧ ∀ x, x ∈ LE → x.1 < N ∧ x.1 < x.2 ∧ x.2 < N) := by rw [← hLE]; exact Lib.hid (preE_up N O N)
 have HNE : Hid (∀ x, x ∈ LE → cE O x ≠ 0) := by rw [← hLE]; exact Lib.hid (preE_some HWS.out.cyc N)
 have HST : Hid (∀ k x, LE[k]? = some x → ecN N O (k + 1) = ecN N O k + cE O x) := by rw [← hLE]; exact Lib.hid fun k x h => ecN_step h
 have HLA : Hid (ecN N O LE.length = 3 * n) := by rw [← hLE]; exact Lib.hid (ecN_all HWS.out)
 have HBD : Hid (∀ k, ecN N O k ≤ 3 * n) := Lib.hid (ecN_le HWS.out)
 clear hLE HWS
 go_wp2_with fail
 refine wp_rangeXN (gf := 64) (lb := #[ptr qb 0]) (N := LE.length) (encs := edE LE) (Kp := fun W => Blk W qb #[ptr t 0] 25 ∧ SM W t D N X Y O (n : Nat)) rfl (fun args w => by go_simp) (Edges1_tells qb t D N X Y O _ LE HLE.out _) (fun _ => rfl)
  (fun k W => ∃ x y : Int, Blk W xb #[.int .i64 x] 3 ∧ Blk W yb #[.int .i64 y] 3 ∧ Blk W nb #[.int .i64 (ecN N O k : Nat)] 3 ∧ Fr V2 W (fun b => b = xb ∨ b = yb ∨ b = nb) ∧ (∀ e, LE[k]? = some e → x < (e.1 : Int) ∨ (x = (e.1 : Int) ∧ y < (e.2 : Int)))) ?stable ?keeps ?start ?round ?post
 case stable =>
  rintro k W W' ⟨x, y, j1, j2, j3, j4, j5⟩ hbl
  exact ⟨x, y, j1.below hbl (by omega), j2.below hbl (by omega), j3.below hbl (by omega), j4.trans (S' := fun b => V2.heap.size ≤ b) ⟨hbl.os, hbl.tape, hbl.output, hbl.size, fun k _ hk => hbl.block k (by omega)⟩ (fun _ h => .inr h), j5⟩
 case keeps =>
  rintro k W ⟨x, y, j1, j2, j3, j4, j5⟩
  exact ⟨j4.blk KQ.out (by omega), HS2.out.fr j4 (fun b hb => by have := HDT.out b hb; omega) fun a h1 h2 => by have := HPT.out a h1 h2; omega⟩
 case start => exact ⟨-1, -1, KX2.out, KY2.out, KN2.out, ⟨rfl, rfl, rfl, Nat.le_refl _, fun _ _ _ => rfl⟩, fun e _ => .inl (by omega)⟩
 case round =>
  rintro l2 D2 k G W2 hk hG ⟨x, y, j1, j2, j3, j4, j5⟩ g1 g2 g3 g4
  obtain ⟨⟨a, b⟩, hx⟩ : ∃ x, LE[k]? = some x := ⟨_, List.getElem?_eq_getElem hk⟩
  have hE : edE LE k = #[.int .i64 (a : Nat), .int .i64 (b : Nat)] := by unfold edE; rw [List.getD_eq_getElem?_getD, hx]; rfl
  rw [hE]
  have J5 := j5 _ hx
  obtain ⟨haN, hab, hbN⟩ := HUP.out.2 _ (List.mem_iff_getElem?.2 ⟨k, hx⟩)
  have hce := HNE.out _ (List.mem_iff_getElem?.2 ⟨k, hx⟩)
  have HEC := Lib.hid (HST.out _ _ hx)
  have HCE := Lib.hid hce
  have hen := HBD.out k
  have hen2 := HBD.out (k + 1)
  simp only [] at J5 haN hab hbN
  have HX := Lib.hid hx
  have JJ := Lib.hid (And.intro j1 (And.intro j2 (And.intro j3 j4)))
  clear j1 j2 j3 j4 j5 hE hx
  gi_wp2_with fail
  refine ⟨⟨Fix2.of (OutL.refl [] _) g3 g4 (by simp) (by simp), AboveX.refl _ _ _⟩, ?_⟩
  intro W3 hW3
  obtain ⟨j1, j2, j3, j4⟩ := JJ.out
  have hs3 := hW3.size
  have z2 := j4.size
  have F3 : Fr V2 W3 (fun b => b = xb ∨ b = yb ∨ b = nb) := j4.trans (S' := fun b => V2.heap.size ≤ b) ⟨hW3.os, hW3.tape, hW3.output, hW3.size, fun g hg hn => hW3.block g hg (by simp; omega)⟩ (fun _ h => .inr h)
  have k1 := j1.outl hW3 (by simp; omega)
  have k2 := j2.outl hW3 (by simp; omega)
  have k3 := j3.outl hW3 (by simp; omega)
  have S3 := Lib.hid (HS2.out.fr F3 (fun b hb => by have := HDT.out b hb; omega) fun a h1 h2 => by have := HPT.out a h1 h2; omega)
  have hz3 := F3.size
  have KS3 := Lib.hid (F3.blk KS2.out (by omega))
  have s0 := KS3.out.cell 0
  have ls := KS3.out.lt
  simp only [List.getElem?_toArray, List.getElem?_cons_zero] at s0
  have KK := Lib.hid (And.intro k1 (And.intro k2 (And.intro k3 F3)))
  clear JJ j1 j2 j3 j4 hW3 k1 k2 k3 F3
  gi_wp2_with fail
  refine ⟨trivial, CallsIn.inRound l2 (callsIn_wide.2 ?_)⟩
  obtain ⟨R1, hR1⟩ : ∃ R, leftO N O (a : Nat) (b : Nat) = R := ⟨_, rfl⟩
  obtain ⟨R2, hR2⟩ : ∃ R, leftO N O (b : Nat) (a : Nat) = R := ⟨_, rfl⟩
  have HR1 := Lib.hid hR1
  have HR2 := Lib.hid hR2
  refine (Left_is t D N X Y O _ a b W3 S3.out R1 hR1).mono ?_
  rintro e W4 ⟨rfl, hb4⟩
  have S4 := Lib.hid (S3.out.of hb4)
  have B34 := Lib.hid hb4
  clear hR1 hR2 hb4 s0 ls
  have s0 := (KS3.out.of B34.out).cell 0
  have ls := (KS3.out.of B34.out).lt
  simp only [List.getElem?_toArray, List.getElem?_cons_zero] at s0
  gi_wp2_with fail
  refine ⟨trivial, CallsIn.inRound l2 (callsIn_wide.2 ?_)⟩
  refine (Left_is t D N X Y O _ b a W4 S4.out R2 HR2.out).mono ?_
  rintro e W5 ⟨rfl, hb5⟩
  have B35 := B34.out.trans (hb5.mono B34.out.size)
  clear s0 ls S3 S4 B34 hb5 KS3
  obtain ⟨i1, i2, i3, F3⟩ := KK.out
  have k1 := i1.of B35
  have k2 := i2.of B35
  have k3 := i3.of B35
  clear i1 i2 i3
  obtain ⟨m, hm⟩ : ∃ m, ecN N O k = m := ⟨_, rfl⟩
  rw [hm] at k3 hen
  have HM := Lib.hid hm
  clear hm
  have x0 := k1.cell 0
  have y0 := k2.cell 0
  have n0 := k3.cell 0
  have lx := k1.lt
  have ly := k2.lt
  have ln := k3.lt
  have fx := k1.free 0
  have fy := k2.free 0
  have fn := k3.free 0
  simp only [List.getElem?_toArray, List.getElem?_cons_zero] at x0 y0 n0
  have FIN : Hid (∀ W6 : World, Blk W6 xb #[.int .i64 (a : Nat)] 3 → Blk W6 yb #[.int .i64 (b : Nat)] 3 → Blk W6 nb #[.int .i64 (ecN N O (k + 1) : Nat)] 3 → W6.os = W5.os → W6.tape = W5.tape → W6.output = W5.output → W6.heap.size = W5.heap.size → (∀ g, g ≠ xb → g ≠ yb → g ≠ nb → W6.heap[g]? = W5.heap[g]?) →
    (Fix2 l2 D2 W3 W6 ∧ ∃ G' : Nat → Prop, (∀ g, G' g → G g ∨ W3.heap.size ≤ g) ∧ (∀ g, ¬ G' g) ∧ ∃ x y : Int, Blk W6 xb #[.int .i64 x] 3 ∧ Blk W6 yb #[.int .i64 y] 3 ∧ Blk W6 nb #[.int .i64 (ecN N O (k + 1) : Nat)] 3 ∧ Fr V2 W6 (fun b => b = xb ∨ b = yb ∨ b = nb) ∧ (∀ e, LE[k + 1]? = some e → x < (e.1 : Int) ∨ (x = (e.1 : Int) ∧ y < (e.2 : Int)))) ∧ AboveX (V2.heap.size + 2) G W3 W6) := by
   refine Lib.hid fun W6 q1 q2 q3 q4 q5 q6 q7 q8 => ?_
   have hz5 := B35.size
   refine ⟨⟨⟨(q8 _ (by omega) (by omega) (by omega)).trans (B35.block _ (by omega)), (q8 _ (by omega) (by omega) (by omega)).trans (B35.block _ (by omega))⟩, fun _ => False, fun g h => h.elim, fun g h => h, (a : Nat), (b : Nat), q1, q2, q3, ?_, fun e he => ?_⟩, ⟨by omega, fun g h1 h2 _ => (q8 g (by omega) (by omega) (by omega)).trans (B35.block g h2)⟩⟩
   ·exact (F3.trans (Fr.ofBelow (S := fun _ => False) B35) (fun b hb => hb.elim)).trans (S' := fun b => b = xb ∨ b = yb ∨ b = nb) ⟨q4, q5, q6, by omega, fun g _ hn => q8 g (fun e => hn (.inl e)) (fun e => hn (.inr (.inl e))) (fun e => hn (.inr (.inr e)))⟩ (fun _ h => .inl h)
   ·have := List.pairwise_iff_getElem.1 HUP.out.1 k (k + 1) (List.getElem?_eq_some_iff.1 HX.out).1 (List.getElem?_eq_some_iff.1 he).1 (by omega)
    rw [(List.getElem?_eq_some_iff.1 HX.out).2, (List.getElem?_eq_some_iff.1 he).2] at this
    simp only [] at this
    omega
  have KB := Lib.hid (And.intro k1 (And.intro k2 k3))
  clear KK k1 k2 k3 F3 B35
  have hge : decide ((b : Int) ≤ (a : Int)) = false := by simp; omega
  have hn1 : m < 1000000000 := by omega
  clear hen hen2 hce g1 g2 hs3 z2 hz3 hk hG g3 g4
  rcases J5 with hx1 | ⟨hx1, hy1⟩
  ·have hl1 : decide ((a : Int) < x) = false := by simp; omega
   have hl2 : ((a : Int) == x) = false := by simp; omega
   cases R1 with
   | some c1 =>
    cases R2 with
    | some c2 =>
     have HV : Hid (ecN N O (k + 1) = ecN N O k + 2) := by
      have h1 := HR1.out
      have h2 := HR2.out
      rw [leftO_of haN] at h1
      rw [leftO_of hbN] at h2
      have h3 := HEC.out
      unfold cE sdI at h3
      simp only [h1, h2] at h3
      exact Lib.hid h3
     have HVI : Hid ((m : Int) + 1 + 1 = ((ecN N O (k + 1) : Nat) : Int)) := Lib.hid (by have := HV.out; have := HM.out; omega)
     clear HV
     gi_wp2_with fail
     refine (FIN.out _ ?_ ?_ ?_ rfl rfl rfl (by simp [World.setCell]) ?_)
     ·exact ((((KB.out.1.put 0 _).setO (b := yb) (by omega) _).setO (b := nb) (by omega) _).setO (b := nb) (by omega) _)
     ·exact ((((KB.out.2.1.setO (b := xb) (by omega) _).put 0 _).setO (b := nb) (by omega) _).setO (b := nb) (by omega) _)
     ·rw [← HVI.out]
      exact ((((KB.out.2.2.setO (b := xb) (by omega) _).setO (b := yb) (by omega) _).put 0 _).put 0 _)
     ·intro g h1 h2 h3
      exact (Below.heap_setCell _ ⟨nb, 0, none⟩ _ g h3).trans ((Below.heap_setCell _ ⟨nb, 0, none⟩ _ g h3).trans ((Below.heap_setCell _ ⟨yb, 0, none⟩ _ g h2).trans (Below.heap_setCell _ ⟨xb, 0, none⟩ _ g h1)))
    | none =>
     have HV : Hid (ecN N O (k + 1) = ecN N O k + 1) := by
      have h1 := HR1.out
      have h2 := HR2.out
      rw [leftO_of haN] at h1
      rw [leftO_of hbN] at h2
      have h3 := HEC.out
      unfold cE sdI at h3
      simp only [h1, h2] at h3
      exact Lib.hid h3
     have HVI : Hid ((m : Int) + 1 = ((ecN N O (k + 1) : Nat) : Int)) := Lib.hid (by have := HV.out; have := HM.out; omega)
     clear HV
     gi_wp2_with fail
     refine (FIN.out _ ?_ ?_ ?_ rfl rfl rfl (by simp [World.setCell]) ?_)
     ·exact (((KB.out.1.put 0 _).setO (b := yb) (by omega) _).setO (b := nb) (by omega) _)
     ·exact (((KB.out.2.1.setO (b := xb) (by omega) _).put 0 _).setO (b := nb) (by omega) _)
     ·rw [← HVI.out]
      exact (((KB.out.2.2.setO (b := xb) (by omega) _).setO (b := yb) (by omega) _).put 0 _)
     ·intro g h1 h2 h3
      exact (Below.heap_setCell _ ⟨nb, 0, none⟩ _ g h3).trans ((Below.heap_setCell _ ⟨yb, 0, none⟩ _ g h2).trans (Below.heap_setCell _ ⟨xb, 0, none⟩ _ g h1))
   | none =>
    cases R2 with
    | some c2 =>
     have HV : Hid (ecN N O (k + 1) = ecN N O k + 1) := by
      have h1 := HR1.out
      have h2 := HR2.out
      rw [leftO_of haN] at h1
      rw [leftO_of hbN] at h2
      have h3 := HEC.out
      unfold cE sdI at h3
      simp only [h1, h2] at h3
      exact Lib.hid h3
     have HVI : Hid ((m : Int) + 1 = ((ecN N O (k + 1) : Nat) : Int)) := Lib.hid (by have := HV.out; have := HM.out; omega)
     clear HV
     gi_wp2_with fail
     refine (FIN.out _ ?_ ?_ ?_ rfl rfl rfl (by simp [World.setCell]) ?_)
     ·exact (((KB.out.1.put 0 _).setO (b := yb) (by omega) _).setO (b := nb) (by omega) _)
     ·exact (((KB.out.2.1.setO (b := xb) (by omega) _).put 0 _).setO (b := nb) (by omega) _)
     ·rw [← HVI.out]
      exact (((KB.out.2.2.setO (b := xb) (by omega) _).setO (b := yb) (by omega) _).put 0 _)
     ·intro g h1 h2 h3
      exact (Below.heap_setCell _ ⟨nb, 0, none⟩ _ g h3).trans ((Below.heap_setCell _ ⟨yb, 0, none⟩ _ g h2).trans (Below.heap_setCell _ ⟨xb, 0, none⟩ _ g h1))
    | none =>
     exfalso
     have h1 := HR1.out
     have h2 := HR2.out
     rw [leftO_of haN] at h1
     rw [leftO_of hbN] at h2
     have hce := HCE.out
     unfold cE sdI at hce
     simp only [h1, h2] at hce
     exact hce rfl
  ·have hl1 : decide ((a : Int) < x) = false := by simp; omega
   have hl2 : ((a : Int) == x) = true := by simp; omega
   have hl3 : decide ((b : Int) ≤ y) = false := by simp; omega
   cases R1 with
   | some c1 =>
    cases R2 with
    | some c2 =>
     have HV : Hid (ecN N O (k + 1) = ecN N O k + 2) := by
      have h1 := HR1.out
      have h2 := HR2.out
      rw [leftO_of haN] at h1
      rw [leftO_of hbN] at h2
      have h3 := HEC.out
      unfold cE sdI at h3
      simp only [h1, h2] at h3
      exact Lib.hid h3
     have HVI : Hid ((m : Int) + 1 + 1 = ((ecN N O (k + 1) : Nat) : Int)) := Lib.hid (by have := HV.out; have := HM.out; omega)
     clear HV
     gi_wp2_with fail
     refine (FIN.out _ ?_ ?_ ?_ rfl rfl rfl (by simp [World.setCell]) ?_)
     ·exact ((((KB.out.1.put 0 _).setO (b := yb) (by omega) _).setO (b := nb) (by omega) _).setO (b := nb) (by omega) _)
     ·exact ((((KB.out.2.1.setO (b := xb) (by omega) _).put 0 _).setO (b := nb) (by omega) _).setO (b := nb) (by omega) _)
     ·rw [← HVI.out]
      exact ((((KB.out.2.2.setO (b := xb) (by omega) _).setO (b := yb) (by omega) _).put 0 _).put 0 _)
     ·intro g h1 h2 h3
      exact (Below.heap_setCell _ ⟨nb, 0, none⟩ _ g h3).trans ((Below.heap_setCell _ ⟨nb, 0, none⟩ _ g h3).trans ((Below.heap_setCell _ ⟨yb, 0, none⟩ _ g h2).trans (Below.heap_setCell _ ⟨xb, 0, none⟩ _ g h1)))
    | none =>
     have HV : Hid (ecN N O (k + 1) = ecN N O k + 1) := by
      have h1 := HR1.out
      have h2 := HR2.out
      rw [leftO_of haN] at h1
      rw [leftO_of hbN] at h2
      have h3 := HEC.out
      unfold cE sdI at h3
      simp only [h1, h2] at h3
      exact Lib.hid h3
     have HVI : Hid ((m : Int) + 1 = ((ecN N O (k + 1) : Nat) : Int)) := Lib.hid (by have := HV.out; have := HM.out; omega)
     clear HV
     gi_wp2_with fail
     refine (FIN.out _ ?_ ?_ ?_ rfl rfl rfl (by simp [World.setCell]) ?_)
     ·exact (((KB.out.1.put 0 _).setO (b := yb) (by omega) _).setO (b := nb) (by omega) _)
     ·exact (((KB.out.2.1.setO (b := xb) (by omega) _).put 0 _).setO (b := nb) (by omega) _)
     ·rw [← HVI.out]
      exact (((KB.out.2.2.setO (b := xb) (by omega) _).setO (b := yb) (by omega) _).put 0 _)
     ·intro g h1 h2 h3
      exact (Below.heap_setCell _ ⟨nb, 0, none⟩ _ g h3).trans ((Below.heap_setCell _ ⟨yb, 0, none⟩ _ g h2).trans (Below.heap_setCell _ ⟨xb, 0, none⟩ _ g h1))
   | none =>
    cases R2 with
    | some c2 =>
     have HV : Hid (ecN N O (k + 1) = ecN N O k + 1) := by
      have h1 := HR1.out
      have h2 := HR2.out
      rw [leftO_of haN] at h1
      rw [leftO_of hbN] at h2
      have h3 := HEC.out
      unfold cE sdI at h3
      simp only [h1, h2] at h3
      exact Lib.hid h3
     have HVI : Hid ((m : Int) + 1 = ((ecN N O (k + 1) : Nat) : Int)) := Lib.hid (by have := HV.out; have := HM.out; omega)
     clear HV
     gi_wp2_with fail
     refine (FIN.out _ ?_ ?_ ?_ rfl rfl rfl (by simp [World.setCell]) ?_)
     ·exact (((KB.out.1.put 0 _).setO (b := yb) (by omega) _).setO (b := nb) (by omega) _)
     ·exact (((KB.out.2.1.setO (b := xb) (by omega) _).put 0 _).setO (b := nb) (by omega) _)
     ·rw [← HVI.out]
      exact (((KB.out.2.2.setO (b := xb) (by omega) _).setO (b := yb) (by omega) _).put 0 _)
     ·intro g h1 h2 h3
      exact (Below.heap_setCell _ ⟨nb, 0, none⟩ _ g h3).trans ((Below.heap_setCell _ ⟨yb, 0, none⟩ _ g h2).trans (Below.heap_setCell _ ⟨xb, 0, none⟩ _ g h1))
    | none =>
     exfalso
     have h1 := HR1.out
     have h2 := HR2.out
     rw [leftO_of haN] at h1
     rw [leftO_of hbN] at h2
     have hce := HCE.out
     unfold cE sdI at hce
     simp only [h1, h2] at hce
     exact hce rfl
 case post =>
  rintro W ⟨x, y, j1, j2, j3, j4, j5⟩ hD
  rw [HLA.out] at j3
  have hz := j4.size
  have n0 := j3.cell 0
  have ln := j3.lt
  simp only [List.getElem?_toArray, List.getElem?_cons_zero] at n0
  have r0 := (j4.blk KR2.out (by omega)).cell 0
  have lr := (j4.blk KR2.out (by omega)).lt
  have fr := (j4.blk KR2.out (by omega)).free 0
  simp only [List.getElem?_toArray, List.getElem?_cons_zero] at r0
  have hen : ((3 * n : Nat) : Int) = 3 * (n : Int) := by omega
  rw [hen] at n0
  have HW := Lib.hid (B2.out.trans (j4.below (B := w.heap.size) B2.out.size (fun k h => by omega)))
  have HDD := Lib.hid hD
  have hrw : rb < W.heap.size := by omega
  have KR3 := Lib.hid (j4.blk KR2.out (by omega))
  clear j1 j2 j3 j4 j5 hD
  go_wp2
  have HB3 : Below w.heap.size w (W.setCell ⟨rb, 0, none⟩ (.bool true)) := HW.out.setCell (p := ⟨rb, 0, none⟩) (by show w.heap.size ≤ rb; omega) (.bool true)
  have KR4 := KR3.out.put 0 (.bool true)
  have HD4 : (W.setCell ⟨rb, 0, none⟩ (.bool true)).heap[V2.heap.size]? = some (.deferred (some [])) := (Below.heap_setCell W ⟨rb, 0, none⟩ (.bool true) _ (by show V2.heap.size ≠ rb; omega)).trans HDD.out
  have hz4 : (W.setCell ⟨rb, 0, none⟩ (.bool true)).heap.size = W.heap.size := by simp [World.setCell]
  refine leaves_marks (B := w.heap.size) (y := rb) (by omega) (fun g => g = rb) _ _ (by omega) (show Marks rb _ [{ target := .collected V2.heap.size, args := #[] }] from ⟨⟨V2.heap.size, rfl, by omega, HD4, fun d hd => by cases hd⟩, trivial⟩) (fun d hd r hr => ?_) fun w' hb => ?_
  ·rw [List.mem_singleton.1 hd] at hr
   injection hr with hr
   omega
  ·have c4 := (show Blk w' rb _ _ from (hb.2 rb rfl (by omega)).trans KR4).cell 0
   simp at c4
   exact ⟨_, by simp [results, Try.results62, go_sem, c4], rfl, HB3.trans hb.1⟩
end Go.Proofs.Ytdlpfiiakmhnlaa

namespace Go.Proofs.Ytdlpfiiakmhnlaa
open Go.RowKit Go.Shelf

/-- what stands at a place of a list -/
def tmAt : List Value → Nat → Value
  | [], _ => undef
  | x :: _, 0 => x
  | _ :: l, n + 1 => tmAt l n
/-- the frame's values by a function of the places (S); what the loop's rounds leave in the frame (defers) may grow -/
theorem wp_loop_tm {P : Program} {Q : Exit → Act → World → Prop} {c : Code} (S : (Nat → Value) → Array Value) (I : Nat → (Nat → Value) → List Deferred → World → Prop) (n0 : Nat) (tm : Array Value) (ds : List Deferred) (w : World)
    (h : tm = S (tmAt tm.toList)) (h0 : I n0 (tmAt tm.toList) ds w)
    (round : ∀ n f ds w, I n f ds w → ∀ (J : Nat → Act → World → Prop) (K : Act → World → Prop), (∀ k tm ds w, tm = S (tmAt tm.toList) → I k (tmAt tm.toList) ds w → J k ⟨tm, ds⟩ w) → (∀ a' w', Handed J n a' w' → K a' w') → c.wp P (Exit.then K Q) ⟨S f, ds⟩ w) :
    (Code.loop c).wp P Q ⟨tm, ds⟩ w := by
  refine wp_loop_ghost_k (fun k a w => ∃ f, a.tmps = S f ∧ I k f a.defers w) n0 ⟨_, h, h0⟩ ?_
  rintro n ⟨tm', ds'⟩ w' ⟨f, e, hI⟩ J K hJ hK
  simp only [] at e hI
  rw [e]
  exact round n f ds' w' hI J K (fun k tm ds w h1 h2 => hJ _ _ _ ⟨_, h1, h2⟩) hK
end Go.Proofs.Ytdlpfiiakmhnlaa

namespace Go.Proofs.Ytdlpfiiakmhnlaa
open Go.RowKit

theorem make_pts (N : Nat) (hN : N ≤ 4096) : ∃ MC : Array Value, (∀ w, Sem.run Try.prog (Instr.makeSlice 22 (.int .i64 (N : Nat)) (.int .i64 (N : Nat))) w = .ok (.slice (some ⟨w.heap.size, 0, none⟩) N N) (w.alloc (.cells MC 41))) ∧ MC.size = N * 2 := by
  obtain ⟨i0, hi, hz0, hz1, hz2⟩ := info_parts info_pt
  refine ⟨madeCells (Value.agg #[.int .i64 0, .int .i64 0]).cells (N * 2), fun w => ?_, ?_⟩
  · have := run_makeSlice (P := Try.prog) w 22 41 i0 (.agg #[.int .i64 0, .int .i64 0]) Try.underlying22 hi hz0 .i64 .i64 (N : Nat) (N : Nat) (by omega) (Int.le_refl _) (by rw [hz1]; simp; omega) (by rw [hz2]; omega) (by omega)
    rw [hz1] at this
    simpa using this
  · unfold madeCells
    simp
theorem pt_sz : (Try.prog.info? 41).map (·.size) = some 2 := by kernel_rfl
set_option maxRecDepth 100000 in
set_option maxHeartbeats 2000000 in
theorem Points_is (t : Nat) (D : SD) (N : Nat) (X Y : Nat → Int) (O : Nat → List (Nat × Nat)) (n : Int) (w : World) (h : SM w t D N X Y O n) :
    Calls Try.prog 24 #[ptr t 0] w fun e w' => ∃ ao, e = .returned (.slice ao N N) ∧ Pts w' ao N N X Y ∧ Below w.heap.size w w' := by
 obtain ⟨c0, c1, c2⟩ := h.c
 have lt := h.blk.lt
 have hsm := h.small
 have hpcl := h.pts.capl
 have hpcb := h.pts.capb
 have HP := Lib.hid h.pts
 clear h c1 c2
 obtain ⟨MC, hmk, hMC⟩ := make_pts N hsm
 obtain ⟨po, hpo⟩ : ∃ x, D.po = x := ⟨_, rfl⟩
 obtain ⟨pc, hpc⟩ : ∃ x, D.pc = x := ⟨_, rfl⟩
 rw [hpo, hpc] at HP c0
 rw [hpc] at hpcl hpcb
 clear hpo hpc
 obtain ⟨V, hV⟩ : ∃ V, w.alloc (.cells MC 41) = V := ⟨_, rfl⟩
 have kM : Blk V w.heap.size MC 41 := by rw [← hV]; exact Blk.new w _ _
 have hbV : Below w.heap.size w V := by rw [← hV]; exact below_a1 _ _
 obtain ⟨g, hg⟩ : ∃ g, w.heap.size = g := ⟨_, rfl⟩
 obtain ⟨MC2, hM2⟩ : ∃ M, (MC.toList.take 0 ++ fw X Y N ++ MC.toList.drop (0 + (fw X Y N).length)).toArray = M := ⟨_, rfl⟩
 have hcell : ∀ i, i < N → MC2[i * 2]? = some (.int .i64 (X i)) ∧ MC2[i * 2 + 1]? = some (.int .i64 (Y i)) := by
  intro i hi
  have e : MC2 = (fw X Y N).toArray := by
   rw [← hM2, List.take_zero, List.nil_append, fw_len, List.drop_of_length_le (by rw [Array.length_toList]; omega), List.append_nil]
  have := fw_at X Y N i hi
  rw [e]
  simpa using this
 have hrun : ∃ W, (∀ ty, (Builtin.copy_ #[22, 22] ty #[.slice (some ⟨g, 0, none⟩) N N, .slice po N pc]).run Try.prog V = .ok (goInt N) W) ∧ Pts W (some ⟨g, 0, none⟩) N N X Y ∧ Below w.heap.size w W := by
  cases po with
  | some a =>
   refine ⟨V.setRow g MC2, fun ty => ?_, ?_, below_setRow hbV (by omega) _⟩
   ·have hmin : N.min N = N := Nat.min_self N
    have := run_copy_rowk (P := Try.prog) V 22 22 ty 41 g 0 N N a N pc 2 MC 41 (fw X Y N) Try.underlying22 pt_sz (by rw [← hg]; exact kM) (by rw [fw_len, hmin]) (fun j v hj => (HP.out.of hbV).src j v hj) (by rw [fw_len]; omega) (fw_one X Y N)
    rw [hM2, hmin] at this
    exact this
   ·exact Pts.ofBlk (ty := 41) (setRow_heap V g MC MC2 _ _ (by rw [← hg]; exact kM)) (by omega) hcell
  | none =>
   have h0 : N = 0 := by
    rcases Nat.eq_zero_or_pos N with h | h
    ·exact h
    ·obtain ⟨a, e, _⟩ := HP.out.ptr h; cases e
   subst h0
   refine ⟨V, fun ty => ?_, ⟨fun h => absurd h (by omega), Nat.le_refl _, by omega⟩, hbV⟩
   have hi := pt_sz
   cases hq : Try.prog.info? 41 with
   | none => rw [hq] at hi; cases hi
   | some i => simp [Builtin.copy_, run_underlying Try.underlying22, Builtin.lenOf, Builtin.firstCells, sizeOf, typeInfo, hq, storeCells]
 obtain ⟨W, hcp, hpw, hbW⟩ := hrun
 have HC := Lib.hid (And.intro hpw hbW)
 have cV := (hbV.cell (p := ⟨t, 0, none⟩) lt).trans c0
 have lV := Nat.lt_of_lt_of_le lt hbV.size
 have hmk2 := hmk w
 rw [hV, hg] at hmk2
 clear hmk hV
 clear hM2 hcell kM hpw hbW HP hbV
 go_enter Try.func24, Try.ntmps24
 go_wp2
 simp [bodyPost, results, Try.results24, go_sem]
 exact HC.out
end Go.Proofs.Ytdlpfiiakmhnlaa

namespace Go.Proofs.Ytdlpfiiakmhnlaa
open Go.RowKit Go.Shelf
attribute [local go_sem] Oper.semAt_some undef

theorem ahd3_up {a b c d e f : Nat} (h : a < d ∨ (a = d ∧ b < e)) : ahd3 a b c d e f = true := by
  unfold ahd3
  rcases h with h | ⟨h, h2⟩
  · rw [if_pos (by omega)]; simpa using h
  · rw [if_neg (by omega), if_pos (by omega)]; simpa using h2
theorem marks_gt {y : Nat} {w : World} : ∀ {ds : List Deferred}, Marks y w ds → ∀ d, d ∈ ds → ∀ r, d.target = .collected r → y < r := by
  intro ds
  induction ds with
  | nil => intro _ d hd; cases hd
  | cons d ds ih =>
    rintro ⟨⟨r, h1, h2, h3, h4⟩, h5⟩ d' hd' r' hr'
    rcases List.mem_cons.1 hd' with rfl | hd'
    · rw [h1] at hr'; injection hr' with hr'; omega
    · exact ih h5 d' hd' r' hr'
theorem ahead_yes (a b c d e f : Nat) (w : World) (h : a < d ∨ (a = d ∧ b < e)) : Calls Try.prog 61 #[tI a b c, tI d e f] w fun r w' => r = .returned (.bool true) ∧ Below w.heap.size w w' := by
  refine (ahead_is a b c d e f w).mono ?_
  rintro r w' ⟨rfl, hb⟩
  rw [ahd3_up h]
  exact ⟨rfl, hb⟩
theorem Trs.up {w : World} {ao : Option Addr} {cap : Nat} {L : List Tri3} (h : Trs w ao cap L) (h0 : 0 < L.length) : ∃ g, ao = some ⟨g, 0, none⟩ ∧ g < w.heap.size ∧ ∀ i x, L[i]? = some x → ∀ u : UpTo w.heap.size w, u.w.cell? ⟨g, i * 3, none⟩ = some (.int .i64 (x.1 : Nat)) ∧ u.w.cell? ⟨g, i * 3 + 1, none⟩ = some (.int .i64 (x.2.1 : Nat)) ∧ u.w.cell? ⟨g, i * 3 + 2, none⟩ = some (.int .i64 (x.2.2 : Nat)) := by
  obtain ⟨g, e, hg, hc⟩ := h.ptr h0
  refine ⟨g, e, hg, fun i x hx u => ?_⟩
  obtain ⟨h1, h2, h3⟩ := hc i x hx
  exact ⟨(u.below.cell hg).trans h1, (u.below.cell hg).trans h2, (u.below.cell hg).trans h3⟩
set_option maxRecDepth 100000 in
set_option maxHeartbeats 8000000 in
theorem whole_is (t : Nat) (D : SD) (N : Nat) (X Y : Nat → Int) (O : Nat → List (Nat × Nat)) (n : Nat) (hn : n < 100000000) (hW : WS N O n) (w : World) (h : SM w t D N X Y O (n : Nat)) :
    Calls Try.prog 26 #[ptr t 0] w fun e w' => e = .returned (.bool true) ∧ Below w.heap.size w w' := by
 have HS := Lib.hid h
 have HS0 := HS
 have HWS := Lib.hid hW
 clear h hW
 refine (callsIn_wide (n := 3)).1 ?_
 refine callsIn_of_wp_marks Try.func26 rfl trivial ?_ rfl
 refine wpIn_wide.2 ?_
 simp only [Try.ntmps26, List.size_toArray, List.length_cons, List.length_nil, Nat.reduceAdd, Nat.reduceSub, Array.replicate_succ, Array.replicate_zero, List.push_toArray, List.append_toArray, List.nil_append, List.cons_append]
 go_wp2_with fail
 refine calls_w ?_
 intro V hV
 have hb0 : Below w.heap.size w V := by rw [hV]; exact below_a2 _ _ _
 have ks : Blk V w.heap.size #[ptr t 0] 25 := by rw [hV]; exact (Blk.new w _ _).of (below_a1 _ _)
 have kr : Blk V (w.heap.size + 1) #[.bool false] 4 := by rw [hV]; have := Blk.new (w.alloc (.cells #[ptr t 0] 25)) #[.bool false] 4; simpa using this
 obtain ⟨sb, esb⟩ : ∃ b, w.heap.size = b := ⟨_, rfl⟩
 obtain ⟨rb, erb⟩ : ∃ b, w.heap.size + 1 = b := ⟨_, rfl⟩
 rw [erb] at kr
 rw [esb] at ks
 rw [erb, esb]
 have hws : w.heap.size = sb := esb
 have o1 : sb < rb := by omega
 have o2 : rb < V.heap.size := kr.lt
 have ot : t < sb := by have := HS.out.blk.lt; omega
 obtain ⟨L, hL⟩ : ∃ L, preO O N = L := ⟨_, rfl⟩
 have HLL := Lib.hid hL
 have hln : L.length = n := by rw [← hL]; exact HWS.out.cnt
 have HLN := Lib.hid hln
 have hUP : L.Pairwise fun t u => t.1 < u.1 ∨ (t.1 = u.1 ∧ t.2.1 < u.2.1) := by rw [← hL]; exact preO_up HWS.out.cyc.srt N
 have HUP := Lib.hid hUP
 have HMM : Hid (∀ x, x ∈ L → x.1 < x.2.1 ∧ x.1 < x.2.2 ∧ lookH (O x.1) x.2.1 = some x.2.2 ∧ lookH (O x.2.1) x.2.2 = some x.1 ∧ lookH (O x.2.2) x.1 = some x.2.1 ∧ x.1 < N ∧ x.2.1 < N ∧ x.2.2 < N) := by
  rw [← hL]
  refine Lib.hid fun x hx => ?_
  obtain ⟨h1, h2, h3, h4⟩ := mem_preO.1 hx
  have l0 := (look_mem (HWS.out.cyc.srt _)).1 h2
  have l1 := HWS.out.cyc.rot _ _ _ l0
  exact ⟨h3, h4, l0, l1, HWS.out.cyc.rot _ _ _ l1, HWS.out.dom _ _ _ l0⟩
 clear hV esb erb hL hUP
 refine (all_is t D N X Y O _ L HLL.out (by omega) V (HS.out.of hb0)).mono ?_
 rintro e V1 ⟨v, rfl, hTL, hb1⟩
 obtain ⟨ao, cap, rfl, hP⟩ := Trs.ofRow hTL
 have hcl := hP.capl
 have hcb := hP.capb
 rw [hln] at hcl ⊢
 have HP1 := Lib.hid hP
 have HS1 := Lib.hid (HS.out.of (hb0.trans (hb1.mono hb0.size)))
 have B1 := Lib.hid (hb0.trans (hb1.mono hb0.size))
 have KS1 := Lib.hid (ks.of hb1)
 have KR1 := Lib.hid (kr.of hb1)
 have o3 : rb < V1.heap.size := Nat.lt_of_lt_of_le o2 hb1.size
 clear hTL hP hb0 hb1 ks kr hln o2
 have s0 := KS1.out.cell 0
 have ls := KS1.out.lt
 simp only [List.getElem?_toArray, List.getElem?_cons_zero] at s0
 go_wp2_with fail
 refine (Len_is t D N X Y O _ V1 HS1.out).mono ?_
 rintro e V2 ⟨rfl, hb2⟩
 have HP2 := Lib.hid (HP1.out.of hb2)
 have HS2 := Lib.hid (HS1.out.of hb2)
 have B2 := Lib.hid (B1.out.trans (hb2.mono B1.out.size))
 have KS2 := Lib.hid (KS1.out.of hb2)
 have KR2 := Lib.hid (KR1.out.of hb2)
 have o4 : rb < V2.heap.size := Nat.lt_of_lt_of_le o3 hb2.size
 clear hb2 HP1 HS1 B1 KS1 KR1 o3 s0 ls
 go_wp2_with fail
 refine name_world ?_
 intro V3 hV3
 have hb3 : Below V2.heap.size V2 V3 := by rw [hV3]; exact below_a1 _ _
 have kd : Blk V3 V2.heap.size #[.int .i64 0] 3 := by rw [hV3]; exact Blk.new _ _ _
 obtain ⟨db, edb⟩ : ∃ b, V2.heap.size = b := ⟨_, rfl⟩
 have HP3 := Lib.hid (HP2.out.of hb3)
 have HS3 := Lib.hid (HS2.out.of hb3)
 have B3 := Lib.hid (B2.out.trans (hb3.mono B2.out.size))
 have KS3 := Lib.hid (KS2.out.of hb3)
 have KR3 := Lib.hid (KR2.out.of hb3)
 rw [edb] at kd o4 ⊢
 have KD3 := Lib.hid kd
 have o5 : db < V3.heap.size := kd.lt
 clear hb3 HP2 HS2 B2 KS2 KR2 kd edb hV3
 go_wp2_with fail
 go_loopg [25] n (fun gk s25 wr => ∃ i : Nat, s25 = .int .i64 (i : Nat) ∧ i ≤ n ∧ n - i ≤ gk ∧ Hid (Below V3.heap.size V3 wr))
 case atStart => exact ⟨0, rfl, by omega, by omega, Lib.hid (Below.refl _ _)⟩
 case round =>
  obtain ⟨i, rfl, hi, hgi, HB⟩ := hrel
  by_cases hlt : i < n
  ·obtain ⟨⟨a, b, c⟩, hx⟩ : ∃ x, L[i]? = some x := ⟨_, List.getElem?_eq_getElem (show i < L.length by rw [HLN.out]; exact hlt)⟩
   obtain ⟨h1, h2, l0, l1, l2, d0, d1, d2⟩ := HMM.out _ (List.mem_iff_getElem?.2 ⟨i, hx⟩)
   have HLK := Lib.hid (And.intro l0 (And.intro l1 (And.intro l2 (And.intro d0 (And.intro d1 d2)))))
   simp only [] at h1 h2
   obtain ⟨g, rfl, hg, hcell⟩ := (HP3.out.of HB.out).ptr (by rw [HLN.out]; omega)
   obtain ⟨p0, p1, p2⟩ := hcell i _ hx
   simp only [] at p0 p1 p2
   have HX := Lib.hid hx
   clear hx l0 l1 l2 d0 d1 d2 hcell
   go_wp2_with fail
   refine name_world ?_
   intro W hW
   have hbW : Below wr.heap.size wr W := by rw [hW]; exact below_a1 _ _
   have kt : Blk W wr.heap.size #[.int .i64 (a : Nat), .int .i64 (b : Nat), .int .i64 (c : Nat)] 35 := by rw [hW]; exact Blk.new _ _ _
   obtain ⟨tb, etb⟩ : ∃ b, wr.heap.size = b := ⟨_, rfl⟩
   rw [etb] at kt ⊢
   have HBW := Lib.hid (HB.out.trans (hbW.mono HB.out.size))
   have KT := Lib.hid kt
   have hVt : V3.heap.size ≤ tb := by have := HB.out.size; omega
   clear hW hbW p0 p1 p2 hg HB
   have lt := KT.out.lt
   have hge1 : decide (b ≤ a) = false := by simp; omega
   have hge2 : decide (c ≤ a) = false := by simp; omega
   have f0 : ∀ u : UpTo W.heap.size W, u.w.cell? ⟨tb, 0, none⟩ = some (.int .i64 (a : Nat)) := fun u => (KT.out.of u.below).cell 0
   have f1 : ∀ u : UpTo W.heap.size W, u.w.cell? ⟨tb, 1, none⟩ = some (.int .i64 (b : Nat)) := fun u => (KT.out.of u.below).cell 1
   have f2 : ∀ u : UpTo W.heap.size W, u.w.cell? ⟨tb, 2, none⟩ = some (.int .i64 (c : Nat)) := fun u => (KT.out.of u.below).cell 2
   clear kt etb
   rcases Nat.eq_zero_or_pos i with hi0 | hi0
   ·subst hi0
    refine wp_noP ?_
    refine wp_region_up W.heap.size 22 [(true, 0), (true, 1), (true, 2), (true, 3), (true, 4), (true, 5), (true, 6), (true, 7), (true, 8), (true, 9), (true, 10), (true, 11), (true, 12), (true, 13), (true, 14), (true, 15), (true, 16), (true, 17), (true, 18), (true, 19), (true, 20), (true, 21)] (by kernel_rfl) (by kernel_rfl) (fun _ _ d _ _ h => by cases d <;> exact h) ?_
    have hb : Below W.heap.size W W.drew := (Below.refl _ _).drew
    iterate 22
     refine wpS_takeL rfl rfl ?_
     go_big_quiet_step (rfl)
     refine wpQuiet_nil ?_
    refine wpS_nil ?_
    simp only [List.drop_succ_cons, List.drop_zero]
    clear f0 f1 f2 lt
    have KT1 := KT.out.of hb
    have k0 := KT1.cell 0
    have k1 := KT1.cell 1
    have k2 := KT1.cell 2
    have lt := KT1.lt
    simp only [List.getElem?_toArray, List.getElem?_cons_zero, List.getElem?_cons_succ] at k0 k1 k2
    clear KT1
    go_wp2_with fail
    first | (rw [noP_normal]; go_wp2_with fail) | skip
    have HB1 := Lib.hid hb
    clear k0 k1 k2 lt
    go_loopg [56] 3 (fun gk s56 wr => ∃ k : Nat, s56 = .int .i64 (k : Nat) ∧ k ≤ 3 ∧ 3 - k ≤ gk ∧ Hid (Below W.heap.size W wr))
    case atStart => exact ⟨0, rfl, by omega, by omega, HB1⟩
    case round =>
     clear HB1
     obtain ⟨k, rfl, hk, hgk, HB⟩ := hrel
     rcases (show k = 0 ∨ k = 1 ∨ k = 2 ∨ k = 3 by omega) with rfl | rfl | rfl | rfl
     ·go_wp2_with fail
      refine name_world ?_
      intro W5 hW5
      have hb5 : Below wr.heap.size wr W5 := by rw [hW5]; exact Below.refl _ _
      have HB5 := Lib.hid (HB.out.trans (hb5.mono HB.out.size))
      have HBW5 := Lib.hid (HBW.out.trans (HB5.out.mono HBW.out.size))
      have HS5 := Lib.hid (HS3.out.of HBW5.out)
      have KT5 := Lib.hid (KT.out.of HB5.out)
      have KS5 := Lib.hid (KS3.out.of HBW5.out)
      clear hb5 hW5 HB
      have s0 : ∀ u : UpTo W5.heap.size W5, u.w.cell? ⟨sb, 0, none⟩ = some (ptr t 0) := fun u => (KS5.out.of u.below).cell 0
      have f0 : ∀ u : UpTo W5.heap.size W5, u.w.cell? ⟨tb, 0, none⟩ = some (.int .i64 (a : Nat)) := fun u => (KT5.out.of u.below).cell 0
      have f1 : ∀ u : UpTo W5.heap.size W5, u.w.cell? ⟨tb, 1, none⟩ = some (.int .i64 (b : Nat)) := fun u => (KT5.out.of u.below).cell 1
      have f2 : ∀ u : UpTo W5.heap.size W5, u.w.cell? ⟨tb, 2, none⟩ = some (.int .i64 (c : Nat)) := fun u => (KT5.out.of u.below).cell 2
      have ls := KS5.out.lt
      have lt := KT5.out.lt
      have HLO : Hid (leftO N O (a : Nat) (b : Nat) = some c) := Lib.hid ((leftO_of HLK.out.2.2.2.1).trans HLK.out.1)
      refine wp_noP ?_
      refine wp_region_up W5.heap.size 14 [(true, 0), (true, 1), (true, 2), (true, 3), (true, 4), (true, 5), (true, 6), (true, 7), (true, 8), (false, 9), (true, 10), (true, 11), (true, 12), (true, 13)] (by kernel_rfl) (by kernel_rfl) (fun _ _ d _ _ h => by cases d <;> exact h) ?_
      have hb : Below W5.heap.size W5 W5.drew := (Below.refl _ _).drew
      iterate 9
       refine wpS_takeL rfl rfl ?_
       go_big_quiet_step (rfl)
       refine wpQuiet_nil ?_
      refine wpS_doL rfl ?_
      intro K hK
      go_wp2_with ((go_at_call 21; (with_reducible refine (Left_is t D N X Y O _ a b _ (HS5.out.of hb) (some c) HLO.out).mono ?_); rintro e w2 ⟨rfl, hn⟩))
      replace hb := hb.trans (hn.mono hb.size)
      refine hK.out _ _ (up_iff.2 hb) ?_
      clear hK K
      clear hn
      iterate 4
       refine wpS_takeL rfl rfl ?_
       go_big_quiet_step (rfl)
       refine wpQuiet_nil ?_
      refine wpS_nil ?_
      simp only [List.drop_succ_cons, List.drop_zero]
      have KT6 := KT5.out.of hb
      have k0 := KT6.cell 0
      have k1 := KT6.cell 1
      have k2 := KT6.cell 2
      have s1 := (KS5.out.of hb).cell 0
      have ls1 := (KS5.out.of hb).lt
      have lt1 := KT6.lt
      simp only [List.getElem?_toArray, List.getElem?_cons_zero, List.getElem?_cons_succ] at k0 k1 k2 s1
      clear s0 f0 f1 f2 ls lt KT6
      have HB6 := Lib.hid (HB5.out.trans (hb.mono HB5.out.size))
      clear s1 ls1 hb
      go_wp2_with fail
      first | (rw [noP_normal]; go_wp2_with fail) | skip
      clear k0 k1 k2 lt1
      go_roundg (3 - (0 + 1))
      case measure => omega
      case rel => exact ⟨0 + 1, by rfl, by omega, Nat.le_refl _, HB6⟩
     ·go_wp2_with fail
      refine name_world ?_
      intro W5 hW5
      have hb5 : Below wr.heap.size wr W5 := by rw [hW5]; exact Below.refl _ _
      have HB5 := Lib.hid (HB.out.trans (hb5.mono HB.out.size))
      have HBW5 := Lib.hid (HBW.out.trans (HB5.out.mono HBW.out.size))
      have HS5 := Lib.hid (HS3.out.of HBW5.out)
      have KT5 := Lib.hid (KT.out.of HB5.out)
      have KS5 := Lib.hid (KS3.out.of HBW5.out)
      clear hb5 hW5 HB
      have s0 : ∀ u : UpTo W5.heap.size W5, u.w.cell? ⟨sb, 0, none⟩ = some (ptr t 0) := fun u => (KS5.out.of u.below).cell 0
      have f0 : ∀ u : UpTo W5.heap.size W5, u.w.cell? ⟨tb, 0, none⟩ = some (.int .i64 (a : Nat)) := fun u => (KT5.out.of u.below).cell 0
      have f1 : ∀ u : UpTo W5.heap.size W5, u.w.cell? ⟨tb, 1, none⟩ = some (.int .i64 (b : Nat)) := fun u => (KT5.out.of u.below).cell 1
      have f2 : ∀ u : UpTo W5.heap.size W5, u.w.cell? ⟨tb, 2, none⟩ = some (.int .i64 (c : Nat)) := fun u => (KT5.out.of u.below).cell 2
      have ls := KS5.out.lt
      have lt := KT5.out.lt
      have HLO : Hid (leftO N O (b : Nat) (c : Nat) = some a) := Lib.hid ((leftO_of HLK.out.2.2.2.2.1).trans HLK.out.2.1)
      refine wp_noP ?_
      refine wp_region_up W5.heap.size 14 [(true, 0), (true, 1), (true, 2), (true, 3), (true, 4), (true, 5), (true, 6), (true, 7), (true, 8), (false, 9), (true, 10), (true, 11), (true, 12), (true, 13)] (by kernel_rfl) (by kernel_rfl) (fun _ _ d _ _ h => by cases d <;> exact h) ?_
      have hb : Below W5.heap.size W5 W5.drew := (Below.refl _ _).drew
      iterate 9
       refine wpS_takeL rfl rfl ?_
       go_big_quiet_step (rfl)
       refine wpQuiet_nil ?_
      refine wpS_doL rfl ?_
      intro K hK
      go_wp2_with ((go_at_call 21; (with_reducible refine (Left_is t D N X Y O _ b c _ (HS5.out.of hb) (some a) HLO.out).mono ?_); rintro e w2 ⟨rfl, hn⟩))
      replace hb := hb.trans (hn.mono hb.size)
      refine hK.out _ _ (up_iff.2 hb) ?_
      clear hK K
      clear hn
      iterate 4
       refine wpS_takeL rfl rfl ?_
       go_big_quiet_step (rfl)
       refine wpQuiet_nil ?_
      refine wpS_nil ?_
      simp only [List.drop_succ_cons, List.drop_zero]
      have KT6 := KT5.out.of hb
      have k0 := KT6.cell 0
      have k1 := KT6.cell 1
      have k2 := KT6.cell 2
      have s1 := (KS5.out.of hb).cell 0
      have ls1 := (KS5.out.of hb).lt
      have lt1 := KT6.lt
      simp only [List.getElem?_toArray, List.getElem?_cons_zero, List.getElem?_cons_succ] at k0 k1 k2 s1
      clear s0 f0 f1 f2 ls lt KT6
      have HB6 := Lib.hid (HB5.out.trans (hb.mono HB5.out.size))
      clear s1 ls1 hb
      go_wp2_with fail
      first | (rw [noP_normal]; go_wp2_with fail) | skip
      clear k0 k1 k2 lt1
      go_roundg (3 - (1 + 1))
      case measure => omega
      case rel => exact ⟨1 + 1, by rfl, by omega, Nat.le_refl _, HB6⟩
     ·go_wp2_with fail
      refine name_world ?_
      intro W5 hW5
      have hb5 : Below wr.heap.size wr W5 := by rw [hW5]; exact Below.refl _ _
      have HB5 := Lib.hid (HB.out.trans (hb5.mono HB.out.size))
      have HBW5 := Lib.hid (HBW.out.trans (HB5.out.mono HBW.out.size))
      have HS5 := Lib.hid (HS3.out.of HBW5.out)
      have KT5 := Lib.hid (KT.out.of HB5.out)
      have KS5 := Lib.hid (KS3.out.of HBW5.out)
      clear hb5 hW5 HB
      have s0 : ∀ u : UpTo W5.heap.size W5, u.w.cell? ⟨sb, 0, none⟩ = some (ptr t 0) := fun u => (KS5.out.of u.below).cell 0
      have f0 : ∀ u : UpTo W5.heap.size W5, u.w.cell? ⟨tb, 0, none⟩ = some (.int .i64 (a : Nat)) := fun u => (KT5.out.of u.below).cell 0
      have f1 : ∀ u : UpTo W5.heap.size W5, u.w.cell? ⟨tb, 1, none⟩ = some (.int .i64 (b : Nat)) := fun u => (KT5.out.of u.below).cell 1
      have f2 : ∀ u : UpTo W5.heap.size W5, u.w.cell? ⟨tb, 2, none⟩ = some (.int .i64 (c : Nat)) := fun u => (KT5.out.of u.below).cell 2
      have ls := KS5.out.lt
      have lt := KT5.out.lt
      have HLO : Hid (leftO N O (c : Nat) (a : Nat) = some b) := Lib.hid ((leftO_of HLK.out.2.2.2.2.2).trans HLK.out.2.2.1)
      refine wp_noP ?_
      refine wp_region_up W5.heap.size 14 [(true, 0), (true, 1), (true, 2), (true, 3), (true, 4), (true, 5), (true, 6), (true, 7), (true, 8), (false, 9), (true, 10), (true, 11), (true, 12), (true, 13)] (by kernel_rfl) (by kernel_rfl) (fun _ _ d _ _ h => by cases d <;> exact h) ?_
      have hb : Below W5.heap.size W5 W5.drew := (Below.refl _ _).drew
      iterate 9
       refine wpS_takeL rfl rfl ?_
       go_big_quiet_step (rfl)
       refine wpQuiet_nil ?_
      refine wpS_doL rfl ?_
      intro K hK
      go_wp2_with ((go_at_call 21; (with_reducible refine (Left_is t D N X Y O _ c a _ (HS5.out.of hb) (some b) HLO.out).mono ?_); rintro e w2 ⟨rfl, hn⟩))
      replace hb := hb.trans (hn.mono hb.size)
      refine hK.out _ _ (up_iff.2 hb) ?_
      clear hK K
      clear hn
      iterate 4
       refine wpS_takeL rfl rfl ?_
       go_big_quiet_step (rfl)
       refine wpQuiet_nil ?_
      refine wpS_nil ?_
      simp only [List.drop_succ_cons, List.drop_zero]
      have KT6 := KT5.out.of hb
      have k0 := KT6.cell 0
      have k1 := KT6.cell 1
      have k2 := KT6.cell 2
      have s1 := (KS5.out.of hb).cell 0
      have ls1 := (KS5.out.of hb).lt
      have lt1 := KT6.lt
      simp only [List.getElem?_toArray, List.getElem?_cons_zero, List.getElem?_cons_succ] at k0 k1 k2 s1
      clear s0 f0 f1 f2 ls lt KT6
      have HB6 := Lib.hid (HB5.out.trans (hb.mono HB5.out.size))
      clear s1 ls1 hb
      go_wp2_with fail
      first | (rw [noP_normal]; go_wp2_with fail) | skip
      clear k0 k1 k2 lt1
      go_roundg (3 - (2 + 1))
      case measure => omega
      case rel => exact ⟨2 + 1, by rfl, by omega, Nat.le_refl _, HB6⟩
     ·have HB9 := Lib.hid (HBW.out.trans (HB.out.mono HBW.out.size))
      go_wp2_with fail
      go_roundg (n - (0 + 1))
      case measure => omega
      case rel => exact ⟨0 + 1, by norm_cast, by omega, Nat.le_refl _, HB9⟩
   ·obtain ⟨m, rfl⟩ : ∃ m, i = m + 1 := ⟨i - 1, by omega⟩
    obtain ⟨⟨a', b', c'⟩, hy⟩ : ∃ x, L[m]? = some x := ⟨_, List.getElem?_eq_getElem (show m < L.length by rw [HLN.out]; omega)⟩
    have hup : a' < a ∨ (a' = a ∧ b' < b) := by
     have := List.pairwise_iff_getElem.1 HUP.out m (m + 1) (List.getElem?_eq_some_iff.1 hy).1 (List.getElem?_eq_some_iff.1 HX.out).1 (by omega)
     rw [(List.getElem?_eq_some_iff.1 hy).2, (List.getElem?_eq_some_iff.1 HX.out).2] at this
     exact this
    have HU := Lib.hid hup
    obtain ⟨g', e', hg', hcell⟩ := (HP3.out.of HBW.out).up (by rw [HLN.out]; omega)
    injection e' with e'; injection e' with e'; subst e'
    have q0 := fun u => (hcell m _ hy u).1
    have q1 := fun u => (hcell m _ hy u).2.1
    have q2 := fun u => (hcell m _ hy u).2.2
    simp only [] at q0 q1 q2
    clear hcell hy hup
    refine wp_noP ?_
    refine wp_region_up W.heap.size 22 [(true, 0), (true, 1), (true, 2), (true, 3), (true, 4), (true, 5), (true, 6), (true, 7), (true, 8), (true, 9), (true, 10), (true, 11), (true, 12), (true, 13), (true, 14), (true, 15), (true, 16), (true, 17), (true, 18), (true, 19), (true, 20), (true, 21)] (by kernel_rfl) (by kernel_rfl) (fun _ _ d _ _ h => by cases d <;> exact h) ?_
    have hb : Below W.heap.size W W.drew := (Below.refl _ _).drew
    iterate 22
     refine wpS_takeL rfl rfl ?_
     go_big_quiet_step (rfl)
     refine wpQuiet_nil ?_
    refine wpS_nil ?_
    simp only [List.drop_succ_cons, List.drop_zero]
    clear f0 f1 f2 lt
    have KT1 := KT.out.of hb
    have k0 := KT1.cell 0
    have k1 := KT1.cell 1
    have k2 := KT1.cell 2
    have lt := KT1.lt
    simp only [List.getElem?_toArray, List.getElem?_cons_zero, List.getElem?_cons_succ] at k0 k1 k2
    clear KT1
    go_wp2_with fail
    refine (ahead_yes a' b' c' a b c _ HU.out).mono ?_
    rintro e w2 ⟨rfl, hn9⟩
    have hb9 := hb.trans (hn9.mono hb.size)
    clear hn9
    go_wp2_with fail
    first | (rw [noP_normal]; go_wp2_with fail) | skip
    have HB1 := Lib.hid hb9
    clear k0 k1 k2 lt hb9 hb
    go_loopg [56] 3 (fun gk s56 wr => ∃ k : Nat, s56 = .int .i64 (k : Nat) ∧ k ≤ 3 ∧ 3 - k ≤ gk ∧ Hid (Below W.heap.size W wr))
    case atStart => exact ⟨0, rfl, by omega, by omega, HB1⟩
    case round =>
     clear HB1
     obtain ⟨k, rfl, hk, hgk, HB⟩ := hrel
     rcases (show k = 0 ∨ k = 1 ∨ k = 2 ∨ k = 3 by omega) with rfl | rfl | rfl | rfl
     ·go_wp2_with fail
      refine name_world ?_
      intro W5 hW5
      have hb5 : Below wr.heap.size wr W5 := by rw [hW5]; exact Below.refl _ _
      have HB5 := Lib.hid (HB.out.trans (hb5.mono HB.out.size))
      have HBW5 := Lib.hid (HBW.out.trans (HB5.out.mono HBW.out.size))
      have HS5 := Lib.hid (HS3.out.of HBW5.out)
      have KT5 := Lib.hid (KT.out.of HB5.out)
      have KS5 := Lib.hid (KS3.out.of HBW5.out)
      clear hb5 hW5 HB
      have s0 : ∀ u : UpTo W5.heap.size W5, u.w.cell? ⟨sb, 0, none⟩ = some (ptr t 0) := fun u => (KS5.out.of u.below).cell 0
      have f0 : ∀ u : UpTo W5.heap.size W5, u.w.cell? ⟨tb, 0, none⟩ = some (.int .i64 (a : Nat)) := fun u => (KT5.out.of u.below).cell 0
      have f1 : ∀ u : UpTo W5.heap.size W5, u.w.cell? ⟨tb, 1, none⟩ = some (.int .i64 (b : Nat)) := fun u => (KT5.out.of u.below).cell 1
      have f2 : ∀ u : UpTo W5.heap.size W5, u.w.cell? ⟨tb, 2, none⟩ = some (.int .i64 (c : Nat)) := fun u => (KT5.out.of u.below).cell 2
      have ls := KS5.out.lt
      have lt := KT5.out.lt
      have HLO : Hid (leftO N O (a : Nat) (b : Nat) = some c) := Lib.hid ((leftO_of HLK.out.2.2.2.1).trans HLK.out.1)
      refine wp_noP ?_
      refine wp_region_up W5.heap.size 14 [(true, 0), (true, 1), (true, 2), (true, 3), (true, 4), (true, 5), (true, 6), (true, 7), (true, 8), (false, 9), (true, 10), (true, 11), (true, 12), (true, 13)] (by kernel_rfl) (by kernel_rfl) (fun _ _ d _ _ h => by cases d <;> exact h) ?_
      have hb : Below W5.heap.size W5 W5.drew := (Below.refl _ _).drew
      iterate 9
       refine wpS_takeL rfl rfl ?_
       go_big_quiet_step (rfl)
       refine wpQuiet_nil ?_
      refine wpS_doL rfl ?_
      intro K hK
      go_wp2_with ((go_at_call 21; (with_reducible refine (Left_is t D N X Y O _ a b _ (HS5.out.of hb) (some c) HLO.out).mono ?_); rintro e w2 ⟨rfl, hn⟩))
      replace hb := hb.trans (hn.mono hb.size)
      refine hK.out _ _ (up_iff.2 hb) ?_
      clear hK K
      clear hn
      iterate 4
       refine wpS_takeL rfl rfl ?_
       go_big_quiet_step (rfl)
       refine wpQuiet_nil ?_
      refine wpS_nil ?_
      simp only [List.drop_succ_cons, List.drop_zero]
      have KT6 := KT5.out.of hb
      have k0 := KT6.cell 0
      have k1 := KT6.cell 1
      have k2 := KT6.cell 2
      have s1 := (KS5.out.of hb).cell 0
      have ls1 := (KS5.out.of hb).lt
      have lt1 := KT6.lt
      simp only [List.getElem?_toArray, List.getElem?_cons_zero, List.getElem?_cons_succ] at k0 k1 k2 s1
      clear s0 f0 f1 f2 ls lt KT6
      have HB6 := Lib.hid (HB5.out.trans (hb.mono HB5.out.size))
      clear s1 ls1 hb
      go_wp2_with fail
      first | (rw [noP_normal]; go_wp2_with fail) | skip
      clear k0 k1 k2 lt1
      go_roundg (3 - (0 + 1))
      case measure => omega
      case rel => exact ⟨0 + 1, by rfl, by omega, Nat.le_refl _, HB6⟩
     ·go_wp2_with fail
      refine name_world ?_
      intro W5 hW5
      have hb5 : Below wr.heap.size wr W5 := by rw [hW5]; exact Below.refl _ _
      have HB5 := Lib.hid (HB.out.trans (hb5.mono HB.out.size))
      have HBW5 := Lib.hid (HBW.out.trans (HB5.out.mono HBW.out.size))
      have HS5 := Lib.hid (HS3.out.of HBW5.out)
      have KT5 := Lib.hid (KT.out.of HB5.out)
      have KS5 := Lib.hid (KS3.out.of HBW5.out)
      clear hb5 hW5 HB
      have s0 : ∀ u : UpTo W5.heap.size W5, u.w.cell? ⟨sb, 0, none⟩ = some (ptr t 0) := fun u => (KS5.out.of u.below).cell 0
      have f0 : ∀ u : UpTo W5.heap.size W5, u.w.cell? ⟨tb, 0, none⟩ = some (.int .i64 (a : Nat)) := fun u => (KT5.out.of u.below).cell 0
      have f1 : ∀ u : UpTo W5.heap.size W5, u.w.cell? ⟨tb, 1, none⟩ = some (.int .i64 (b : Nat)) := fun u => (KT5.out.of u.below).cell 1
      have f2 : ∀ u : UpTo W5.heap.size W5, u.w.cell? ⟨tb, 2, none⟩ = some (.int .i64 (c : Nat)) := fun u => (KT5.out.of u.below).cell 2
      have ls := KS5.out.lt
      have lt := KT5.out.lt
      have HLO : Hid (leftO N O (b : Nat) (c : Nat) = some a) := Lib.hid ((leftO_of HLK.out.2.2.2.2.1).trans HLK.out.2.1)
      refine wp_noP ?_
      refine wp_region_up W5.heap.size 14 [(true, 0), (true, 1), (true, 2), (true, 3), (true, 4), (true, 5), (true, 6), (true, 7), (true, 8), (false, 9), (true, 10), (true, 11), (true, 12), (true, 13)] (by kernel_rfl) (by kernel_rfl) (fun _ _ d _ _ h => by cases d <;> exact h) ?_
      have hb : Below W5.heap.size W5 W5.drew := (Below.refl _ _).drew
      iterate 9
       refine wpS_takeL rfl rfl ?_
       go_big_quiet_step (rfl)
       refine wpQuiet_nil ?_
      refine wpS_doL rfl ?_
      intro K hK
      go_wp2_with ((go_at_call 21; (with_reducible refine (Left_is t D N X Y O _ b c _ (HS5.out.of hb) (some a) HLO.out).mono ?_); rintro e w2 ⟨rfl, hn⟩))
      replace hb := hb.trans (hn.mono hb.size)
      refine hK.out _ _ (up_iff.2 hb) ?_
      clear hK K
      clear hn
      iterate 4
       refine wpS_takeL rfl rfl ?_
       go_big_quiet_step (rfl)
       refine wpQuiet_nil ?_
      refine wpS_nil ?_
      simp only [List.drop_succ_cons, List.drop_zero]
      have KT6 := KT5.out.of hb
      have k0 := KT6.cell 0
      have k1 := KT6.cell 1
      have k2 := KT6.cell 2
      have s1 := (KS5.out.of hb).cell 0
      have ls1 := (KS5.out.of hb).lt
      have lt1 := KT6.lt
      simp only [List.getElem?_toArray, List.getElem?_cons_zero, List.getElem?_cons_succ] at k0 k1 k2 s1
      clear s0 f0 f1 f2 ls lt KT6
      have HB6 := Lib.hid (HB5.out.trans (hb.mono HB5.out.size))
      clear s1 ls1 hb
      go_wp2_with fail
      first | (rw [noP_normal]; go_wp2_with fail) | skip
      clear k0 k1 k2 lt1
      go_roundg (3 - (1 + 1))
      case measure => omega
      case rel => exact ⟨1 + 1, by rfl, by omega, Nat.le_refl _, HB6⟩
     ·go_wp2_with fail
      refine name_world ?_
      intro W5 hW5
      have hb5 : Below wr.heap.size wr W5 := by rw [hW5]; exact Below.refl _ _
      have HB5 := Lib.hid (HB.out.trans (hb5.mono HB.out.size))
      have HBW5 := Lib.hid (HBW.out.trans (HB5.out.mono HBW.out.size))
      have HS5 := Lib.hid (HS3.out.of HBW5.out)
      have KT5 := Lib.hid (KT.out.of HB5.out)
      have KS5 := Lib.hid (KS3.out.of HBW5.out)
      clear hb5 hW5 HB
      have s0 : ∀ u : UpTo W5.heap.size W5, u.w.cell? ⟨sb, 0, none⟩ = some (ptr t 0) := fun u => (KS5.out.of u.below).cell 0
      have f0 : ∀ u : UpTo W5.heap.size W5, u.w.cell? ⟨tb, 0, none⟩ = some (.int .i64 (a : Nat)) := fun u => (KT5.out.of u.below).cell 0
      have f1 : ∀ u : UpTo W5.heap.size W5, u.w.cell? ⟨tb, 1, none⟩ = some (.int .i64 (b : Nat)) := fun u => (KT5.out.of u.below).cell 1
      have f2 : ∀ u : UpTo W5.heap.size W5, u.w.cell? ⟨tb, 2, none⟩ = some (.int .i64 (c : Nat)) := fun u => (KT5.out.of u.below).cell 2
      have ls := KS5.out.lt
      have lt := KT5.out.lt
      have HLO : Hid (leftO N O (c : Nat) (a : Nat) = some b) := Lib.hid ((leftO_of HLK.out.2.2.2.2.2).trans HLK.out.2.2.1)
      refine wp_noP ?_
      refine wp_region_up W5.heap.size 14 [(true, 0), (true, 1), (true, 2), (true, 3), (true, 4), (true, 5), (true, 6), (true, 7), (true, 8), (false, 9), (true, 10), (true, 11), (true, 12), (true, 13)] (by kernel_rfl) (by kernel_rfl) (fun _ _ d _ _ h => by cases d <;> exact h) ?_
      have hb : Below W5.heap.size W5 W5.drew := (Below.refl _ _).drew
      iterate 9
       refine wpS_takeL rfl rfl ?_
       go_big_quiet_step (rfl)
       refine wpQuiet_nil ?_
      refine wpS_doL rfl ?_
      intro K hK
      go_wp2_with ((go_at_call 21; (with_reducible refine (Left_is t D N X Y O _ c a _ (HS5.out.of hb) (some b) HLO.out).mono ?_); rintro e w2 ⟨rfl, hn⟩))
      replace hb := hb.trans (hn.mono hb.size)
      refine hK.out _ _ (up_iff.2 hb) ?_
      clear hK K
      clear hn
      iterate 4
       refine wpS_takeL rfl rfl ?_
       go_big_quiet_step (rfl)
       refine wpQuiet_nil ?_
      refine wpS_nil ?_
      simp only [List.drop_succ_cons, List.drop_zero]
      have KT6 := KT5.out.of hb
      have k0 := KT6.cell 0
      have k1 := KT6.cell 1
      have k2 := KT6.cell 2
      have s1 := (KS5.out.of hb).cell 0
      have ls1 := (KS5.out.of hb).lt
      have lt1 := KT6.lt
      simp only [List.getElem?_toArray, List.getElem?_cons_zero, List.getElem?_cons_succ] at k0 k1 k2 s1
      clear s0 f0 f1 f2 ls lt KT6
      have HB6 := Lib.hid (HB5.out.trans (hb.mono HB5.out.size))
      clear s1 ls1 hb
      go_wp2_with fail
      first | (rw [noP_normal]; go_wp2_with fail) | skip
      clear k0 k1 k2 lt1
      go_roundg (3 - (2 + 1))
      case measure => omega
      case rel => exact ⟨2 + 1, by rfl, by omega, Nat.le_refl _, HB6⟩
     ·have HB9 := Lib.hid (HBW.out.trans (HB.out.mono HBW.out.size))
      go_wp2_with fail
      go_roundg (n - (m + 1 + 1))
      case measure => omega
      case rel => exact ⟨m + 1 + 1, by norm_cast, by omega, Nat.le_refl _, HB9⟩
  ·have hin : i = n := by omega
   have HS4 := Lib.hid (HS3.out.of HB.out)
   have KS4 := Lib.hid (KS3.out.of HB.out)
   have KR4 := Lib.hid (KR3.out.of HB.out)
   have KD4 := Lib.hid (KD3.out.of HB.out)
   have B4 := Lib.hid (B3.out.trans (HB.out.mono B3.out.size))
   have hw4 := HB.out.size
   have s0 := KS4.out.cell 0
   have ls := KS4.out.lt
   simp only [List.getElem?_toArray, List.getElem?_cons_zero] at s0
   clear HB hlt
   go_wp2_with fail
   refine (Points_is t D N X Y O _ wr HS4.out).mono ?_
   rintro e V4 ⟨po, rfl, hpt, hb4⟩
   have HS5 := Lib.hid (HS4.out.of hb4)
   have KS5 := Lib.hid (KS4.out.of hb4)
   have KR5 := Lib.hid (KR4.out.of hb4)
   have KD5 := Lib.hid (KD4.out.of hb4)
   have B5 := Lib.hid (B4.out.trans (hb4.mono B4.out.size))
   have hw5 : db < V4.heap.size := by have := hb4.size; omega
   have hsm := HS4.out.small
   have HDT := Lib.hid (show ∀ b, D.has t N b → b < sb by intro b hb; have := HS0.out.lt hb; omega)
   have HPT := Lib.hid (show ∀ a, D.po = some a → 0 < N → a.block < sb by intro a h1 h2; obtain ⟨a', q1, q2, _⟩ := HS0.out.pts.ptr h2; rw [h1] at q1; injection q1 with q1; subst q1; omega)
   have HSU : Hid (∀ k, k ≤ N → sumO O k ≤ 3 * n) := Lib.hid fun k hk => by rw [← HWS.out.sum]; exact sumM_mono hk
   have HSE : Hid (sumO O N = 3 * n) := Lib.hid HWS.out.sum
   clear hb4 hpt HS4 KS4 KR4 KD4 B4 s0 ls hw4
   go_wp2_with fail
   refine wp_loop_tm (fun f => #[f 0, f 1, f 2, f 3, f 4, f 5, f 6, f 7, f 8, f 9, f 10, f 11, f 12, f 13, f 14, f 15, f 16, f 17, f 18, f 19, f 20, f 21, f 22, f 23, f 24, f 25, f 26, f 27, f 28, f 29, f 30, f 31, f 32, f 33, f 34, f 35, f 36, f 37, f 38, f 39, f 40, f 41, f 42, f 43, f 44, f 45, f 46, f 47, f 48, f 49, f 50, f 51, f 52, f 53, f 54, f 55, f 56, f 57, f 58, f 59, f 60, f 61, f 62, f 63, f 64, f 65, f 66, f 67, f 68, f 69, f 70, f 71, f 72, f 73, f 74, f 75, f 76, f 77, f 78, f 79, f 80, f 81, f 82, f 83, f 84, f 85, f 86, f 87, f 88, f 89, f 90, f 91, f 92, f 93, f 94, f 95, f 96, f 97, f 98, f 99, f 100, f 101, f 102, f 103, f 104, f 105, f 106, f 107, f 108, f 109, f 110, f 111, f 112, f 113, f 114, f 115, f 116, f 117, f 118, f 119, f 120, f 121, f 122, f 123, f 124, f 125, f 126, f 127, f 128]) (fun gk f ds wr => ∃ a : Nat, (f 0 = ptr t 0 ∧ f 1 = ptr sb 0 ∧ f 2 = ptr rb 0 ∧ f 3 = .slice ao n cap ∧ f 4 = ptr db 0 ∧ f 87 = .int .i64 (N : Nat) ∧ f 88 = .int .i64 (a : Nat)) ∧ (a ≤ N ∧ N - a ≤ gk ∧ Hid (Blk wr db #[.int .i64 (sumO O a : Nat)] 3) ∧ Hid (Fr V4 wr (fun b => b = db)) ∧ Hid (Marks db wr ds) ∧ Hid (∀ d, d ∈ ds → ∀ r, d.target = .collected r → r < wr.heap.size))) N _ _ _ ?shape ?start ?round
   case shape => rfl
   case start => exact ⟨0, ⟨rfl, rfl, rfl, rfl, rfl, rfl, rfl⟩, by omega, by omega, KD5, Lib.hid ⟨rfl, rfl, rfl, Nat.le_refl _, fun _ _ _ => rfl⟩, Lib.hid trivial, Lib.hid fun d hd => by cases hd⟩
   case round =>
    intro gk2 f ds wr2 hinv J K hJ hK
    obtain ⟨a, ⟨e0, e1, e2, e3, e4, e87, e88⟩, ha, hgk2, HD, HF, HMK, HML⟩ := hinv
    simp only []
    rw [e0, e1, e2, e3, e4, e87, e88]
    clear e0 e1 e2 e3 e4 e87 e88
    have KS6 := Lib.hid (HF.out.blk KS5.out (by omega))
    have hz6 := HF.out.size
    have HS6 := Lib.hid (HS5.out.fr HF.out (fun b hb => by have := HDT.out b hb; omega) fun a h1 h2 => by have := HPT.out a h1 h2; omega)
    by_cases haN : a < N
    ·have s0 := KS6.out.cell 0
     have ls := KS6.out.lt
     simp only [List.getElem?_toArray, List.getElem?_cons_zero] at s0
     go_wp2_with fail
     refine calls_w ?_
     intro V5 hV5
     have hb5 : Below wr2.heap.size wr2 V5 := by rw [hV5]; exact below_a2 _ _ _
     have ka : Blk V5 wr2.heap.size #[.int .i64 (a : Nat)] 3 := by rw [hV5]; exact (Blk.new _ _ _).of (below_a1 _ _)
     have kl : Blk V5 (wr2.heap.size + 1) #[.int .i64 (-1)] 3 := by rw [hV5]; have := Blk.new (wr2.alloc (.cells #[.int .i64 (a : Nat)] 3)) #[.int .i64 (-1)] 3; simpa using this
     obtain ⟨ab, eab⟩ : ∃ b, wr2.heap.size = b := ⟨_, rfl⟩
     obtain ⟨lb, elb⟩ : ∃ b, wr2.heap.size + 1 = b := ⟨_, rfl⟩
     rw [elb] at kl
     rw [eab] at ka
     rw [elb, eab]
     have p1 : db < ab := by have := HD.out.lt; omega
     have p2 : ab < lb := by omega
     clear hV5 s0 ls elb
     refine (Around_is t a V5).mono ?_
     rintro e V6 ⟨rfl, kcs, kca, hb6⟩
     have hb56 := hb5.trans (hb6.mono hb5.size)
     have HD6 := Lib.hid (HD.out.of hb56)
     have KS7 := Lib.hid (KS6.out.of hb56)
     have HS7 := Lib.hid (HS6.out.of hb56)
     have KA7 := Lib.hid (ka.of hb6)
     have KL7 := Lib.hid (kl.of hb6)
     have HF7 := Lib.hid (HF.out.trans (Fr.ofBelow (S := fun _ => False) hb56) (fun b hb => hb.elim))
     have MK7 := Lib.hid (HMK.out.keep fun r _ h2 => hb56.block r h2)
     have KC := Lib.hid (And.intro kcs kca)
     obtain ⟨cs, ecs⟩ : ∃ b, V5.heap.size = b := ⟨_, rfl⟩
     rw [show V5.heap.size + 1 = cs + 1 by rw [ecs], ecs] at KC ⊢
     have p3 : lb < cs := by have := kl.lt; omega
     have p4 : cs + 1 < V6.heap.size := by have := kca.lt; omega
     have p5 : V4.heap.size ≤ ab := by omega
     have p6 : ab < V6.heap.size := by omega
     have ML7 : Hid (∀ d, d ∈ ds → ∀ r, d.target = .collected r → r < ab) := Lib.hid fun d hd r hr => by have := HML.out d hd r hr; omega
     clear kcs kca ecs ka kl hb5 hb6 hb56 HD KS6 HS6 HF HMK HML eab hz6
     obtain ⟨lr, hlr⟩ : ∃ l, (O a).length = l := ⟨_, rfl⟩
     have HLR := Lib.hid hlr
     have hrow : rowO N O (a : Int) = O a := by unfold rowO; rw [if_pos (by omega)]; rfl
     have hT := Around1_tells cs (cs + 1) t D N X Y O (n : Nat) a (O a) hrow (V6.heap.size + 2)
     rw [hlr] at hT
     have hbd : sumO O a + lr ≤ 3 * n := by have := HSU.out (a + 1) (by omega); rw [← hlr]; exact this
     clear hlr hrow
     go_wp2_with fail
     refine wp_rangeXN (gf := 67) (lb := #[ptr cs 0, ptr (cs + 1) 0]) (N := lr) (encs := arE (O a)) (Kp := fun W => Blk W cs #[ptr t 0] 25 ∧ Blk W (cs + 1) #[.int .i64 (a : Nat)] 3 ∧ SM W t D N X Y O (n : Nat)) rfl (fun args w => by go_simp) hT (fun _ => rfl)
      (fun k W => ∃ x : Int, Blk W lb #[.int .i64 x] 3 ∧ Blk W db #[.int .i64 (sumO O a + k : Nat)] 3 ∧ Fr V6 W (fun b => b = lb ∨ b = db) ∧ (∀ e, (O a)[k]? = some e → x < (e.1 : Int))) ?stable ?keeps ?start ?round ?post
     case stable =>
      rintro k W W' ⟨x, j1, j2, j3, j4⟩ hbl
      exact ⟨x, j1.below hbl (by omega), j2.below hbl (by omega), j3.trans (S' := fun b => V6.heap.size ≤ b) ⟨hbl.os, hbl.tape, hbl.output, hbl.size, fun k _ hk => hbl.block k (by omega)⟩ (fun _ h => .inr h), j4⟩
     case keeps =>
      rintro k W ⟨x, j1, j2, j3, j4⟩
      exact ⟨j3.blk KC.out.1 (by omega), j3.blk KC.out.2 (by omega), HS7.out.fr j3 (fun b hb => by have := HDT.out b hb; omega) fun a h1 h2 => by have := HPT.out a h1 h2; omega⟩
     case start => exact ⟨-1, KL7.out, HD6.out, ⟨rfl, rfl, rfl, Nat.le_refl _, fun _ _ _ => rfl⟩, fun e _ => by omega⟩
     case round =>
      rintro l2 D2 k G W2 hk hG ⟨x, j1, j2, j3, j4⟩ g1 g2 g3 g4
      obtain ⟨⟨b, c⟩, hx⟩ : ∃ x, (O a)[k]? = some x := ⟨_, List.getElem?_eq_getElem (show k < (O a).length by rw [HLR.out]; exact hk)⟩
      have hE : arE (O a) k = #[.int .i64 (b : Nat), .int .i64 (c : Nat)] := by unfold arE; rw [List.getD_eq_getElem?_getD, hx]; rfl
      rw [hE]
      have J4 := j4 _ hx
      simp only [] at J4
      have HX := Lib.hid hx
      have JJ := Lib.hid (And.intro j1 (And.intro j2 j3))
      clear j1 j2 j3 j4 hE hx hT
      gi_wp2_with fail
      refine ⟨⟨Fix2.of (OutL.refl [] _) g3 g4 (by simp) (by simp), AboveX.refl _ _ _⟩, ?_⟩
      intro W3 hW3
      obtain ⟨j1, j2, j3⟩ := JJ.out
      have hs3 := hW3.size
      have z2 := j3.size
      have F3 : Fr V6 W3 (fun b => b = lb ∨ b = db) := j3.trans (S' := fun b => V6.heap.size ≤ b) ⟨hW3.os, hW3.tape, hW3.output, hW3.size, fun g hg hn => hW3.block g hg (by simp; omega)⟩ (fun _ h => .inr h)
      have k1 := j1.outl hW3 (by simp; omega)
      have k2 := j2.outl hW3 (by simp; omega)
      have S3 := Lib.hid (HS7.out.fr F3 (fun b hb => by have := HDT.out b hb; omega) fun a h1 h2 => by have := HPT.out a h1 h2; omega)
      have hz3 := F3.size
      have s0 := (F3.blk KS7.out (by omega)).cell 0
      have ls := (F3.blk KS7.out (by omega)).lt
      have a0 := (F3.blk KA7.out (by omega)).cell 0
      have la := (F3.blk KA7.out (by omega)).lt
      simp only [List.getElem?_toArray, List.getElem?_cons_zero] at s0 a0
      have KK := Lib.hid (And.intro k1 (And.intro k2 F3))
      clear JJ j1 j2 j3 hW3 k1 k2 F3
      gi_wp2_with fail
      refine ⟨trivial, CallsIn.inRound l2 (callsIn_wide.2 ?_)⟩
      have HLO : Hid (leftO N O (a : Nat) (b : Nat) = some c) := Lib.hid ((leftO_of haN).trans ((look_mem (HWS.out.cyc.srt a)).1 (List.mem_iff_getElem?.2 ⟨k, HX.out⟩)))
      refine (Left_is t D N X Y O _ a b W3 S3.out (some c) HLO.out).mono ?_
      rintro e W4 ⟨rfl, hb4⟩
      clear s0 ls a0 la S3
      obtain ⟨i1, i2, F3⟩ := KK.out
      have k1 := i1.of hb4
      have k2 := i2.of hb4
      have hs4 := hb4.size
      clear i1 i2
      have x0 := k1.cell 0
      have d0 := k2.cell 0
      have lx := k1.lt
      have ld := k2.lt
      have fx := k1.free 0
      have fd := k2.free 0
      simp only [List.getElem?_toArray, List.getElem?_cons_zero] at x0 d0
      obtain ⟨m, hm⟩ : ∃ m, sumO O a + k = m := ⟨_, rfl⟩
      rw [hm] at d0 k2
      have hm9 : m < 1000000000 := by omega
      have HM := Lib.hid hm
      have hle : decide ((b : Int) ≤ x) = false := by simp; omega
      have GG : Hid (∀ W6 : World, W6 = (W4.setCell ⟨lb, 0, none⟩ (.int .i64 (b : Nat))).setCell ⟨db, 0, none⟩ (.int .i64 ((m : Int) + 1)) →
        (Fix2 l2 D2 W3 W6 ∧ ∃ G' : Nat → Prop, (∀ g, G' g → G g ∨ W3.heap.size ≤ g) ∧ (∀ g, ¬ G' g) ∧ ∃ x : Int, Blk W6 lb #[.int .i64 x] 3 ∧ Blk W6 db #[.int .i64 (sumO O a + (k + 1) : Nat)] 3 ∧ Fr V6 W6 (fun b => b = lb ∨ b = db) ∧ (∀ e, (O a)[k + 1]? = some e → x < (e.1 : Int))) ∧ AboveX (V6.heap.size + 2) G W3 W6) := by
       refine Lib.hid ?_
       rintro W6 rfl
       have q1 : ∀ g, g ≠ lb → g ≠ db → ((W4.setCell ⟨lb, 0, none⟩ (.int .i64 (b : Nat))).setCell ⟨db, 0, none⟩ (.int .i64 ((m : Int) + 1))).heap[g]? = W4.heap[g]? := fun g h1 h2 => (Below.heap_setCell _ ⟨db, 0, none⟩ _ g h2).trans (Below.heap_setCell _ ⟨lb, 0, none⟩ _ g h1)
       have q2 : ((W4.setCell ⟨lb, 0, none⟩ (.int .i64 (b : Nat))).setCell ⟨db, 0, none⟩ (.int .i64 ((m : Int) + 1))).heap.size = W4.heap.size := by simp [World.setCell]
       refine ⟨⟨⟨(q1 _ (by omega) (by omega)).trans (hb4.block _ (by omega)), (q1 _ (by omega) (by omega)).trans (hb4.block _ (by omega))⟩, fun _ => False, fun g h => h.elim, fun g h => h, (b : Nat), (k1.put 0 _).setO (b := db) (by omega) _, ?_, ?_, fun e he => ?_⟩, ⟨by omega, fun g h1 h2 _ => (q1 g (by omega) (by omega)).trans (hb4.block g h2)⟩⟩
       ·have e : ((sumO O a + (k + 1) : Nat) : Int) = (m : Int) + 1 := by have := HM.out; omega
        rw [e]
        exact (k2.setO (b := lb) (by omega) _).put 0 _
       ·exact (F3.trans (Fr.ofBelow (S := fun _ => False) hb4) (fun b hb => hb.elim)).trans (S' := fun b => b = lb ∨ b = db) ⟨rfl, rfl, rfl, by omega, fun g _ hn => q1 g (fun e => hn (.inl e)) (fun e => hn (.inr e))⟩ (fun _ h => .inl h)
       ·have := HWS.out.cyc.srt a k (k + 1) _ e (by omega) HX.out he
        simp only [] at this
        omega
      clear k1 k2 hm KK hb4 F3 hs3 hs4 hz3 z2 hbd J4 HM
      gi_wp2_with fail
      exact GG.out _ rfl
     case post =>
      rintro W ⟨x, j1, j2, j3, j4⟩ hD
      have hsz := j3.size
      have HD8 : Hid (Blk W db #[.int .i64 (sumO O (a + 1) : Nat)] 3) := by
       have e : sumO O (a + 1) = sumO O a + lr := by rw [← HLR.out]; rfl
       rw [e]; exact Lib.hid j2
      have HF8 : Hid (Fr V4 W (fun b => b = db)) := Lib.hid (HF7.out.trans j3 (fun b hb => by rcases hb with h | h; exact .inr (by omega); exact .inl h))
      have MK8 : Hid (Marks db W ({ target := .collected V6.heap.size, args := #[] } :: ds)) := Lib.hid ⟨⟨V6.heap.size, rfl, by omega, hD, fun d hd r hr => by have := ML7.out d hd r hr; omega⟩, MK7.out.keepD fun d hd r hr h1 h2 => j3.block r h2 (by have := ML7.out d hd r hr; omega)⟩
      have ML8 : Hid (∀ d, d ∈ ({ target := .collected V6.heap.size, args := #[] } :: ds : List Deferred) → ∀ r, d.target = .collected r → r < W.heap.size) := Lib.hid fun d hd r hr => by
       rcases List.mem_cons.1 hd with rfl | hd
       ·injection hr with hr
        have := (Array.getElem?_eq_some_iff.1 hD).1
        omega
       ·have := ML7.out d hd r hr; omega
      clear j1 j2 j3 j4 hD hT
      go_wp2_with fail
      refine ⟨N - (a + 1), by omega, hJ _ _ _ _ rfl ⟨a + 1, ⟨rfl, rfl, rfl, rfl, rfl, rfl, ?_⟩, by omega, Nat.le_refl _, HD8, HF8, MK8, ML8⟩⟩
      show Value.int .i64 ((a : Int) + 1) = .int .i64 ((a + 1 : Nat) : Int)
      norm_cast
    ·obtain rfl : a = N := by omega
     have d0 := HD.out.cell 0
     have ld := HD.out.lt
     have s0 := KS6.out.cell 0
     have ls := KS6.out.lt
     rw [HSE.out] at d0
     have hen : ((3 * n : Nat) : Int) = 3 * (n : Int) := by omega
     simp only [List.getElem?_toArray, List.getElem?_cons_zero, hen] at d0 s0
     have KR6 := Lib.hid (HF.out.blk KR5.out (by omega))
     have B6 := Lib.hid (B5.out.trans (HF.out.below (B := w.heap.size) B5.out.size (fun k h => by omega)))
     clear hen HD
     go_wp2_with fail
     refine (edges_is t D _ X Y O n ao cap hn HWS.out wr2 HS6.out).mono ?_
     rintro e V7 ⟨rfl, hb7⟩
     have KR7 := Lib.hid (KR6.out.of hb7)
     have B7 := Lib.hid (B6.out.trans (hb7.mono B6.out.size))
     have MK7 := Lib.hid (HMK.out.keep fun r _ h2 => hb7.block r h2)
     have ML7 : Hid (∀ d, d ∈ ds → ∀ r, d.target = .collected r → r < V7.heap.size) := Lib.hid fun d hd r hr => Nat.lt_of_lt_of_le (HML.out d hd r hr) hb7.size
     have lr := KR7.out.lt
     have fr := KR7.out.free 0
     have r0 := KR7.out.cell 0
     simp only [List.getElem?_toArray, List.getElem?_cons_zero] at r0
     clear hb7 KR6 B6 HMK HML HF KS6 HS6 d0 ld s0 ls
     go_wp2
     have B8 : Below w.heap.size w (V7.setCell ⟨rb, 0, none⟩ (.bool true)) := B7.out.setCell (p := ⟨rb, 0, none⟩) (by show w.heap.size ≤ rb; omega) (.bool true)
     have KR8 := KR7.out.put 0 (.bool true)
     have hz8 : (V7.setCell ⟨rb, 0, none⟩ (.bool true)).heap.size = V7.heap.size := by simp [World.setCell]
     have hz7 := B7.out.size
     have MK8 : Marks db (V7.setCell ⟨rb, 0, none⟩ (.bool true)) ds := MK7.out.keep fun r h1 h2 => Below.heap_setCell V7 ⟨rb, 0, none⟩ _ r (by show r ≠ rb; omega)
     have MG := marks_gt MK7.out
     refine leaves_marks (B := w.heap.size) (y := db) (by omega) (fun g => g = rb) _ _ (by omega) MK8 (fun d hd r hr => by have := MG d hd r hr; omega) fun w' hb => ?_
     have c4 := (show Blk w' rb _ _ from (hb.2 rb rfl (by omega)).trans KR8).cell 0
     simp at c4
     exact ⟨_, by simp [results, Try.results26, go_sem, c4], rfl, B8.trans hb.1⟩
end Go.Proofs.Ytdlpfiiakmhnlaa

namespace Go.Proofs.Ytdlpfiiakmhnlaa
open Go.RowKit

/-- a triangulation, as a list of triangles -/
structure RT (N : Nat) (X Y : Nat → Int) (L : List Tri3) (H : List Nat) : Prop where
  lt : ∀ x, x ∈ L → x.1 < N ∧ x.2.1 < N ∧ x.2.2 < N
  pos : ∀ x, x ∈ L → 0 < wy X Y x.1 x.2.1 x.2.2
  emp : ∀ x, x ∈ L → ∀ k, k < N → k ≠ x.1 → k ≠ x.2.1 → k ≠ x.2.2 → inT X Y (X k) (Y k) x < 0
  nom : ∀ (i k : Nat) (x y : Tri3), k < i → L[i]? = some x → L[k]? = some y → NoM X Y x y
  use : ∀ k, k < N → ∃ x, x ∈ L ∧ (k = x.1 ∨ k = x.2.1 ∨ k = x.2.2)
  area : arT X Y L = fanS X Y H (H.length - 2)
/-- a sum in a variable, its digits above B -/
def SumF (w : World) (B b : Nat) (z : Int) : Prop := ∃ neg a l c, Blk w b #[.bool neg, .slice a l c] 109 ∧ Big w (.agg #[.bool neg, .slice a l c]) z 12 ∧ (a = none ∨ ∃ g, a = some ⟨g, 0, none⟩ ∧ B ≤ g)
theorem SumF.of {w w' : World} {B b : Nat} {z : Int} (h : SumF w B b z) (hb : Below w.heap.size w w') : SumF w' B b z := by
  obtain ⟨neg, a, l, c, h1, h2, h3⟩ := h
  exact ⟨neg, a, l, c, h1.of hb, h2.of hb, h3⟩
theorem SumF.fr {w w' : World} {B b : Nat} {z : Int} {S : Nat → Prop} (h : SumF w B b z) (hf : Fr w w' S) (hS : ∀ k, S k → k < B ∧ k ≠ b) : SumF w' B b z := by
  obtain ⟨neg, a, l, c, h1, ⟨n2, ao, bd, cap, ds, e, hs, r⟩, h3⟩ := h
  refine ⟨neg, a, l, c, hf.blk h1 (fun h => (hS _ h).2 rfl), ⟨n2, ao, bd, cap, ds, e, ⟨hs.ptr, hs.nil, hs.capl, hs.len, hs.capb, fun i hi => ?_, fun h => Nat.lt_of_lt_of_le (hs.blk h) hf.size⟩, r⟩, h3⟩
  injection e with e; injection e with e
  simp at e
  have hp := hs.ptr (by omega)
  have hbd : B ≤ bd := by
    rcases h3 with h3 | ⟨g, h3, hg⟩
    · rw [h3] at e
      rw [← e.2.1] at hp; cases hp
    · rw [h3] at e
      rw [← e.2.1] at hp
      injection hp with hp; injection hp with hp
      omega
  exact (hf.cell (p := ⟨bd, i, none⟩) (hs.blk (by omega)) (fun h => by have := (hS _ h).1; simp only [] at this; omega)).trans (hs.cell i hi)
theorem make_intsN (k : Nat) (hk : k ≤ 1000000) : ∃ MC : Array Value, (∀ w, Sem.run Try.prog (Instr.makeSlice 29 (.int .i64 (k : Nat)) (.int .i64 (k : Nat))) w = .ok (.slice (some ⟨w.heap.size, 0, none⟩) k k) (w.alloc (.cells MC 3))) ∧ MC.size = k ∧ ∀ j, j < k → MC[j]? = some (.int .i64 0) := by
  obtain ⟨i0, hi, hz0, hz1, hz2⟩ := info_parts info_int
  refine ⟨madeCells (Value.int .i64 0).cells (k * 1), fun w => ?_, ?_, fun j hj => ?_⟩
  · have := run_makeSlice (P := Try.prog) w 29 3 i0 (.int .i64 0) Try.underlying29 hi hz0 .i64 .i64 (k : Nat) (k : Nat) (by omega) (Int.le_refl _) (by rw [hz1]; simp; omega) (by rw [hz2]; omega) (by omega)
    rw [hz1] at this
    simpa using this
  · unfold madeCells
    simp [Value.cells]
  · unfold madeCells
    simp [Value.cells, hj, Nat.mod_one]
/-- what is counted of the first triangles' corners -/
def US (N : Nat) (L : List Tri3) (i B : Nat) (f : Nat → Int) : Prop := (∀ j, j < N → 0 ≤ f j ∧ f j ≤ (B : Int)) ∧ ∀ (j : Nat) (y : Tri3), j < i → L[j]? = some y → 1 ≤ f y.1 ∧ 1 ≤ f y.2.1 ∧ 1 ≤ f y.2.2
theorem US.inc {N : Nat} {L : List Tri3} {i B : Nat} {f : Nat → Int} (h : US N L i B f) (a : Nat) : US N L i (B + 1) (fun j => if j = a then f a + 1 else f j) := by
  refine ⟨fun j hj => ?_, fun j y hj hy => ?_⟩
  · have := h.1 j hj
    show 0 ≤ (if j = a then f a + 1 else f j) ∧ (if j = a then f a + 1 else f j) ≤ _
    split
    · rename_i e; subst e; omega
    · omega
  · obtain ⟨h1, h2, h3⟩ := h.2 j y hj hy
    have key : ∀ z, 1 ≤ f z → 1 ≤ (if z = a then f a + 1 else f z) := fun z hz => by
      split
      · rename_i e; subst e; omega
      · exact hz
    exact ⟨key _ h1, key _ h2, key _ h3⟩
theorem inc_ge {f : Nat → Int} {a z : Nat} (h : z = a → 0 ≤ f a) (h2 : z ≠ a → 1 ≤ f z) : 1 ≤ (if z = a then f a + 1 else f z) := by
  split
  · rename_i e; have := h e; omega
  · rename_i e; exact h2 e
theorem neI {k a : Nat} (h : k ≠ a) : (((k : Nat) : Int) != ((a : Nat) : Int)) = true ∧ (k != a) = true ∧ decide (k = a) = false ∧ (((k : Nat) : Int) == ((a : Nat) : Int)) = false ∧ (k == a) = false := ⟨by simp; omega, by simpa using h, by simpa using h, by simp; omega, by simpa using h⟩
theorem eqI {k a : Nat} (h : k = a) : (((k : Nat) : Int) != ((a : Nat) : Int)) = false ∧ (k != a) = false ∧ decide (k = a) = true ∧ (((k : Nat) : Int) == ((a : Nat) : Int)) = true ∧ (k == a) = true := by subst h; exact ⟨by simp, by simp, by simp, by simp, by simp⟩
theorem arT_take {X Y : Nat → Int} {L : List Tri3} {i : Nat} {x : Tri3} (hx : L[i]? = some x) : arT X Y (L.take (i + 1)) = arT X Y (L.take i) + gT X Y x.1 x.2.1 x.2.2 := by
  rw [List.take_add_one, hx, arT_app]
  unfold arT; simp
theorem arT_bd {N : Nat} {X Y : Nat → Int} (hg : allC N X Y = true) : ∀ (L : List Tri3), (∀ x, x ∈ L → x.1 < N ∧ x.2.1 < N ∧ x.2.2 < N) → -(38685626227668133590597632 * (L.length : Int)) ≤ arT X Y L ∧ arT X Y L ≤ 38685626227668133590597632 * (L.length : Int)
  | [], _ => by unfold arT; simp
  | x :: l, h => by
    have h1 := arT_bd hg l fun y hy => h y (List.mem_cons_of_mem _ hy)
    obtain ⟨a, b, c⟩ := h x (List.mem_cons_self ..)
    have h2 := gT_bd hg a b c
    have e : arT X Y (x :: l) = gT X Y x.1 x.2.1 x.2.2 + arT X Y l := by unfold arT; simp
    have e2 : ((x :: l).length : Int) = (l.length : Int) + 1 := by simp
    rw [e, e2]; omega
set_option maxRecDepth 100000 in
set_option maxHeartbeats 8000000 in
theorem Right_is (po : Option Addr) (N pc : Nat) (X Y : Nat → Int) (ao : Option Addr) (cap : Nat) (L : List Tri3) (n : Nat) (H : List Nat) (r : Nat) (w : World) (hP : Pts w po N pc X Y) (hN : N ≤ 24) (hg : allC N X Y = true) (hT : Trs w ao cap L) (hn : L.length = n) (hn60 : n ≤ 60)
    (hR : RT N X Y L H) (hC : RC N X Y H) (hH : H.length = r + 2) (hf : ∃ i, 2 ≤ i ∧ i < N ∧ wy X Y 0 1 i ≠ 0) :
    Calls Try.prog 25 #[.slice po N pc, .slice ao n cap] w fun e w' => e = .returned (.bool true) ∧ Below w.heap.size w w' := by
 have HP := Lib.hid hP
 have HG := Lib.hid hg
 have HT := Lib.hid hT
 have HLN := Lib.hid hn
 have HR := Lib.hid hR
 have HC := Lib.hid hC
 have HH := Lib.hid hH
 have HFL := Lib.hid hf
 have hpcl := hP.capl
 have hpcb := hP.capb
 have hcl := hT.capl
 have hcb := hT.capb
 rw [hn] at hcl
 clear hP hg hT hn hR hC hH hf
 go_enter Try.func25, Try.ntmps25
 go_wp2_with fail
 refine (Flat_is po N pc X Y w HP.out (by omega)).mono ?_
 rintro e W1 ⟨b, rfl, hfb, hb1⟩
 obtain rfl : b = false := by
  cases b with
  | false => rfl
  | true =>
   obtain ⟨i, h1, h2, h3⟩ := HFL.out
   exact absurd (hfb.1 rfl i h1 h2) h3
 have B1 := Lib.hid hb1
 clear hfb hb1
 obtain ⟨MC, hmk, hms, hmz⟩ := make_intsN N (by omega)
 have HMZ := Lib.hid (And.intro hms hmz)
 clear hms hmz
 go_wp2_with fail
 refine name_world ?_
 intro V hV
 have hb0 : Below W1.heap.size W1 V := by rw [hV]; exact below_a2 _ _ _
 have ku : Blk V W1.heap.size MC 3 := by rw [hV]; exact (Blk.new _ _ _).of (below_a1 _ _)
 have ks : Blk V (W1.heap.size + 1) #[.bool false, .slice none 0 0] 109 := by rw [hV]; have := Blk.new (W1.alloc (.cells MC 3)) #[.bool false, .slice none 0 0] 109; simpa using this
 obtain ⟨ub, eub⟩ : ∃ b, W1.heap.size = b := ⟨_, rfl⟩
 obtain ⟨sb, esb⟩ : ∃ b, W1.heap.size + 1 = b := ⟨_, rfl⟩
 have hwu : w.heap.size ≤ ub := by have := B1.out.size; omega
 rw [esb] at ks
 rw [eub] at ku
 rw [esb, eub]
 have BV := Lib.hid (B1.out.trans (hb0.mono B1.out.size))
 have KS0 : Hid (SumF V (sb + 1) sb (arT X Y (L.take 0))) := Lib.hid ⟨false, none, 0, 0, ks, Big.zero _ _, .inl rfl⟩
 have KU0 : Hid (RowI V ub N N (fun _ => 0)) := Lib.hid ⟨MC, ku, Nat.le_refl _, by unfold maxLen; omega, HMZ.out.1, fun k hk => HMZ.out.2 k hk⟩
 have hus : ub < sb := by omega
 have hsV : sb < V.heap.size := ks.lt
 clear hV hb0 ku ks eub esb hmk HMZ B1
 go_wp2_with fail
 go_loopg [7] n (fun gk s7 wr => ∃ (i : Nat) (f : Nat → Int), s7 = .int .i64 (i : Nat) ∧ i ≤ n ∧ n - i ≤ gk ∧ Hid (SumF wr (sb + 1) sb (arT X Y (L.take i))) ∧ Hid (RowI wr ub N N f) ∧ Hid (US N L i (3 * i) f) ∧ Hid (Below w.heap.size w wr) ∧ sb < wr.heap.size)
 case atStart => exact ⟨0, _, rfl, by omega, by omega, KS0, KU0, Lib.hid ⟨fun j _ => ⟨Int.le_refl _, by show (0 : Int) ≤ ((3 * 0 : Nat) : Int); omega⟩, fun j y h => by omega⟩, BV, hsV⟩
 case round =>
  clear BV KS0 KU0 hsV
  obtain ⟨i, f, rfl, hi, hgi, KS, KU, HU, HB, hsw⟩ := hrel
  by_cases hlt : i < n
  ·obtain ⟨⟨a, b, c⟩, hx⟩ : ∃ x, L[i]? = some x := ⟨_, List.getElem?_eq_getElem (show i < L.length by rw [HLN.out]; exact hlt)⟩
   have hmem := List.mem_iff_getElem?.2 ⟨i, hx⟩
   obtain ⟨haN, hbN, hcN⟩ := HR.out.lt _ hmem
   have hpos := HR.out.pos _ hmem
   simp only [] at haN hbN hcN hpos
   have HX := Lib.hid (And.intro hx hmem)
   obtain ⟨g, rfl, hgw, hcell⟩ := (HT.out.of HB.out).ptr (by rw [HLN.out]; omega)
   obtain ⟨p0, p1, p2⟩ := hcell i _ hx
   simp only [] at p0 p1 p2
   clear hx hmem hcell
   go_wp2_with fail
   refine name_world ?_
   intro W hW
   have hbW : Below wr.heap.size wr W := by rw [hW]; exact below_a1 _ _
   have kt : Blk W wr.heap.size #[.int .i64 (a : Nat), .int .i64 (b : Nat), .int .i64 (c : Nat)] 35 := by rw [hW]; exact Blk.new _ _ _
   obtain ⟨tb, etb⟩ : ∃ b, wr.heap.size = b := ⟨_, rfl⟩
   rw [etb] at kt ⊢
   have hst : sb < tb := by omega
   have htW : tb < W.heap.size := kt.lt
   have KT := Lib.hid kt
   have KSW := Lib.hid (KS.out.of hbW)
   have KUW : Hid (RowI W ub N N f) := by
    obtain ⟨cur, h1, h2⟩ := KU.out
    exact Lib.hid ⟨cur, (hbW.block ub (by omega)).trans h1, h2⟩
   have HBW := Lib.hid (HB.out.trans (hbW.mono HB.out.size))
   clear hW hbW kt p0 p1 p2 hgw KS KU HB hsw etb
   go_wp2_with fail
   go_loopg [9] 3 (fun gk s9 wr => ∃ (k : Nat) (f : Nat → Int), s9 = .int .i64 (k : Nat) ∧ k ≤ 3 ∧ 3 - k ≤ gk ∧ Hid (RowI wr ub N N f) ∧ Hid (US N L i (3 * i + k) f) ∧ Hid ((0 < k → 1 ≤ f a) ∧ (1 < k → 1 ≤ f b) ∧ (2 < k → 1 ≤ f c)) ∧ Hid (Fr W wr (fun b => b = ub)))
   case atStart => exact ⟨0, f, rfl, by omega, by omega, KUW, HU, Lib.hid ⟨fun h => by omega, fun h => by omega, fun h => by omega⟩, Lib.hid ⟨rfl, rfl, rfl, Nat.le_refl _, fun _ _ _ => rfl⟩⟩
   case round =>
    clear KUW HU
    obtain ⟨k, f, rfl, hk, hgk, KU, HU, HE, HF⟩ := hrel
    have hzF := HF.out.size
    have kT := HF.out.blk KT.out (by omega)
    have k0 := kT.cell 0
    have k1 := kT.cell 1
    have k2 := kT.cell 2
    have lt := kT.lt
    simp only [List.getElem?_toArray, List.getElem?_cons_zero, List.getElem?_cons_succ] at k0 k1 k2
    have KT2 := Lib.hid kT
    clear kT
    rcases (show k = 0 ∨ k = 1 ∨ k = 2 ∨ k = 3 by omega) with rfl | rfl | rfl | rfl
    ·have u0 := KU.out.cell haN
     have uf := KU.out.free a
     have lu : ub < wr.heap.size := by omega
     have hu0 := HU.out.1 a haN
     obtain ⟨q, hq⟩ : ∃ q, f a = q := ⟨_, rfl⟩
     have HQ := Lib.hid hq
     rw [hq] at u0 hu0
     have hq1 : -9223372036854775808 ≤ q + 1 ∧ q + 1 ≤ 9223372036854775807 := by omega
     have h1 : ¬ ((N : Int) ≤ ((a : Nat) : Int)) := by omega
     clear hq
     go_wp2_with fail
     go_roundg (3 - (0 + 1))
     case measure => omega
     case rel =>
      rw [← HQ.out] at hu0
      refine ⟨0 + 1, _, by rfl, by omega, Nat.le_refl _, Lib.hid (KU.out.set haN _), Lib.hid ?_, Lib.hid ?_, Lib.hid ?_⟩
      ·have := HU.out.inc a
       rw [HQ.out] at this
       exact this
      ·rw [← HQ.out]
       exact ⟨fun _ => inc_ge (fun _ => hu0.1) (fun e => absurd rfl e), fun h => by omega, fun h => by omega⟩
      ·exact HF.out.trans (S' := fun b => b = ub) ⟨rfl, rfl, rfl, by simp [World.setCell], fun g _ hn => Below.heap_setCell _ ⟨ub, a, none⟩ _ g hn⟩ (fun _ h => .inl h)
    ·have u0 := KU.out.cell hbN
     have uf := KU.out.free b
     have lu : ub < wr.heap.size := by omega
     have hu0 := HU.out.1 b hbN
     obtain ⟨q, hq⟩ : ∃ q, f b = q := ⟨_, rfl⟩
     have HQ := Lib.hid hq
     rw [hq] at u0 hu0
     have hq1 : -9223372036854775808 ≤ q + 1 ∧ q + 1 ≤ 9223372036854775807 := by omega
     have h1 : ¬ ((N : Int) ≤ ((b : Nat) : Int)) := by omega
     clear hq
     go_wp2_with fail
     go_roundg (3 - (1 + 1))
     case measure => omega
     case rel =>
      rw [← HQ.out] at hu0
      refine ⟨1 + 1, _, by rfl, by omega, Nat.le_refl _, Lib.hid (KU.out.set hbN _), Lib.hid ?_, Lib.hid ?_, Lib.hid ?_⟩
      ·have := HU.out.inc b
       rw [HQ.out] at this
       exact this
      ·rw [← HQ.out]
       exact ⟨fun _ => inc_ge (fun _ => hu0.1) (fun _ => HE.out.1 (by omega)), fun _ => inc_ge (fun _ => hu0.1) (fun e => absurd rfl e), fun h => by omega⟩
      ·exact HF.out.trans (S' := fun b => b = ub) ⟨rfl, rfl, rfl, by simp [World.setCell], fun g _ hn => Below.heap_setCell _ ⟨ub, b, none⟩ _ g hn⟩ (fun _ h => .inl h)
    ·have u0 := KU.out.cell hcN
     have uf := KU.out.free c
     have lu : ub < wr.heap.size := by omega
     have hu0 := HU.out.1 c hcN
     obtain ⟨q, hq⟩ : ∃ q, f c = q := ⟨_, rfl⟩
     have HQ := Lib.hid hq
     rw [hq] at u0 hu0
     have hq1 : -9223372036854775808 ≤ q + 1 ∧ q + 1 ≤ 9223372036854775807 := by omega
     have h1 : ¬ ((N : Int) ≤ ((c : Nat) : Int)) := by omega
     clear hq
     go_wp2_with fail
     go_roundg (3 - (2 + 1))
     case measure => omega
     case rel =>
      rw [← HQ.out] at hu0
      refine ⟨2 + 1, _, by rfl, by omega, Nat.le_refl _, Lib.hid (KU.out.set hcN _), Lib.hid ?_, Lib.hid ?_, Lib.hid ?_⟩
      ·have := HU.out.inc c
       rw [HQ.out] at this
       exact this
      ·rw [← HQ.out]
       exact ⟨fun _ => inc_ge (fun _ => hu0.1) (fun _ => HE.out.1 (by omega)), fun _ => inc_ge (fun _ => hu0.1) (fun _ => HE.out.2.1 (by omega)), fun _ => inc_ge (fun _ => hu0.1) (fun e => absurd rfl e)⟩
      ·exact HF.out.trans (S' := fun b => b = ub) ⟨rfl, rfl, rfl, by simp [World.setCell], fun g _ hn => Below.heap_setCell _ ⟨ub, c, none⟩ _ g hn⟩ (fun _ h => .inl h)
    ·have HB2 := Lib.hid (HBW.out.trans (HF.out.below (B := w.heap.size) HBW.out.size (fun k h => by omega)))
     have KS2 := Lib.hid (KSW.out.fr HF.out (fun k hk => by omega))
     have HU2 : Hid (US N L (i + 1) (3 * (i + 1)) f) := by
      refine Lib.hid ⟨fun j hj => by have := HU.out.1 j hj; omega, fun j y hj hy => ?_⟩
      rcases Nat.lt_or_ge j i with h | h
      ·exact HU.out.2 j y h hy
      ·have e : j = i := by omega
       subst e
       rw [HX.out.1] at hy
       injection hy with hy
       subst hy
       exact ⟨HE.out.1 (by omega), HE.out.2.1 (by omega), HE.out.2.2 (by omega)⟩
     clear HU HE HF KSW HBW k0 k1 k2 lt KT
     have f0 : ∀ u : UpTo wr.heap.size wr, u.w.cell? ⟨tb, 0, none⟩ = some (.int .i64 (a : Nat)) := fun u => (KT2.out.of u.below).cell 0
     have f1 : ∀ u : UpTo wr.heap.size wr, u.w.cell? ⟨tb, 1, none⟩ = some (.int .i64 (b : Nat)) := fun u => (KT2.out.of u.below).cell 1
     have f2 : ∀ u : UpTo wr.heap.size wr, u.w.cell? ⟨tb, 2, none⟩ = some (.int .i64 (c : Nat)) := fun u => (KT2.out.of u.below).cell 2
     have ltb := KT2.out.lt
     obtain ⟨pb, epb, hpt⟩ := (HP.out.of HB2.out).atP (by omega)
     first | subst epb | (injection epb with epb; subst epb)
     have qa := hpt a haN
     have qb := hpt b hbN
     have qc := hpt c hcN
     have qa0 := fun u => (qa u).1
     have qa1 := fun u => (qa u).2
     have qb0 := fun u => (qb u).1
     have qb1 := fun u => (qb u).2
     have qc0 := fun u => (qc u).1
     have qc1 := fun u => (qc u).2
     clear qa qb qc hpt
     have hw1 : way (X a) (Y a) (X b) (Y b) (X c) (Y c) = 1 := by
      have h : 0 < wy X Y a b c := hpos
      rcases wy_cases X Y a b c with e | e | e
      ·omega
      ·omega
      ·exact e
     have HW1 := Lib.hid hw1
     clear hw1
     go_wp2_with fail
     refine wp_region_up wr.heap.size 15 [(true, 0), (true, 1), (true, 2), (true, 3), (true, 4), (true, 5), (true, 6), (true, 7), (true, 8), (true, 9), (true, 10), (true, 11), (true, 12), (true, 13), (true, 14)] (by kernel_rfl) (by kernel_rfl) (fun _ _ d _ _ h => by cases d <;> exact h) ?_
     have hb : Below wr.heap.size wr wr.drew := (Below.refl _ _).drew
     iterate 15
      refine wpS_takeL rfl rfl ?_
      go_big_quiet_step (rfl)
      refine wpQuiet_nil ?_
     refine wpS_nil ?_
     simp only [List.drop_succ_cons, List.drop_zero]
     go_wp2_with fail
     refine (rWy_is (X a) (Y a) (X b) (Y b) (X c) (Y c) 1 HW1.out _).mono ?_
     rintro e w2 ⟨rfl, hn⟩
     replace hb := hb.trans (hn.mono hb.size)
     clear hn f0 f1 f2 ltb qa0 qa1 qb0 qb1 qc0 qc1 HW1
     have HB3 := Lib.hid (HB2.out.trans (hb.mono HB2.out.size))
     have KS3 := Lib.hid (KS2.out.of hb)
     have KU3 : Hid (RowI w2 ub N N f) := by
      obtain ⟨cur, h1, h2⟩ := KU.out
      exact Lib.hid ⟨cur, (hb.block ub (by omega)).trans h1, h2⟩
     have KT3 := Lib.hid (KT2.out.of hb)
     have hz3 : tb < w2.heap.size := KT3.out.lt
     clear hb HB2 KS2 KU KT2
     go_wp2_with fail
     go_loopg [10] N (fun gk s10 wr => ∃ k : Nat, s10 = .int .i64 (k : Nat) ∧ k ≤ N ∧ N - k ≤ gk ∧ Hid (Below w2.heap.size w2 wr))
     case atStart => exact ⟨0, rfl, by omega, by omega, Lib.hid (Below.refl _ _)⟩
     case round =>
      obtain ⟨k, rfl, hk, hgk, HV⟩ := hrel
      by_cases hkN : k < N
      ·have HKT := Lib.hid (KT3.out.of HV.out)
       have HBK := Lib.hid (HB3.out.trans (HV.out.mono HB3.out.size))
       have f0 : ∀ u : UpTo wr.heap.size wr, u.w.cell? ⟨tb, 0, none⟩ = some (.int .i64 (a : Nat)) := fun u => (HKT.out.of u.below).cell 0
       have f1 : ∀ u : UpTo wr.heap.size wr, u.w.cell? ⟨tb, 1, none⟩ = some (.int .i64 (b : Nat)) := fun u => (HKT.out.of u.below).cell 1
       have f2 : ∀ u : UpTo wr.heap.size wr, u.w.cell? ⟨tb, 2, none⟩ = some (.int .i64 (c : Nat)) := fun u => (HKT.out.of u.below).cell 2
       have ltb := HKT.out.lt
       by_cases ea : k = a
       ·obtain ⟨e1, e2, e3, e4, e5⟩ := eqI ea
        clear ea
        go_wp2_with fail
        refine wp_region_up wr.heap.size 36 [(true, 0), (true, 1), (true, 2), (true, 3), (true, 4), (true, 5), (true, 6), (true, 7), (true, 8), (true, 9), (true, 10), (true, 11), (true, 12), (true, 13), (true, 14), (true, 15), (true, 16), (true, 17), (true, 18), (true, 19), (true, 20), (true, 21), (true, 22), (true, 23), (true, 24), (true, 25), (true, 26), (true, 27), (true, 28), (true, 29), (true, 30), (true, 31), (true, 32), (true, 33), (true, 34), (true, 35)] (by kernel_rfl) (by kernel_rfl) (fun _ _ d _ _ h => by cases d <;> exact h) ?_
        have hb : Below wr.heap.size wr wr.drew := (Below.refl _ _).drew
        iterate 36
         refine wpS_takeL rfl rfl ?_
         go_big_quiet_step (rfl)
         refine wpQuiet_nil ?_
        refine wpS_nil ?_
        simp only [List.drop_succ_cons, List.drop_zero]
        have HKW := HKT.out.of hb
        have k0 := HKW.cell 0
        have k1 := HKW.cell 1
        have k2 := HKW.cell 2
        have ltw := HKW.lt
        simp only [List.getElem?_toArray, List.getElem?_cons_zero, List.getElem?_cons_succ] at k0 k1 k2
        have HV9 := Lib.hid (HV.out.trans (hb.mono HV.out.size))
        clear f0 f1 f2 ltb HKW
        go_wp2_with fail
        go_roundg (N - (k + 1))
        case measure => omega
        case rel => exact ⟨k + 1, by norm_cast, by omega, Nat.le_refl _, HV9⟩
       ·obtain ⟨e1, e2, e3, e4, e5⟩ := neI ea
        by_cases eb : k = b
        ·obtain ⟨g1, g2, g3, g4, g5⟩ := eqI eb
         clear ea eb
         go_wp2_with fail
         refine wp_region_up wr.heap.size 36 [(true, 0), (true, 1), (true, 2), (true, 3), (true, 4), (true, 5), (true, 6), (true, 7), (true, 8), (true, 9), (true, 10), (true, 11), (true, 12), (true, 13), (true, 14), (true, 15), (true, 16), (true, 17), (true, 18), (true, 19), (true, 20), (true, 21), (true, 22), (true, 23), (true, 24), (true, 25), (true, 26), (true, 27), (true, 28), (true, 29), (true, 30), (true, 31), (true, 32), (true, 33), (true, 34), (true, 35)] (by kernel_rfl) (by kernel_rfl) (fun _ _ d _ _ h => by cases d <;> exact h) ?_
         have hb : Below wr.heap.size wr wr.drew := (Below.refl _ _).drew
         iterate 36
          refine wpS_takeL rfl rfl ?_
          go_big_quiet_step (rfl)
          refine wpQuiet_nil ?_
         refine wpS_nil ?_
         simp only [List.drop_succ_cons, List.drop_zero]
         have HKW := HKT.out.of hb
         have k0 := HKW.cell 0
         have k1 := HKW.cell 1
         have k2 := HKW.cell 2
         have ltw := HKW.lt
         simp only [List.getElem?_toArray, List.getElem?_cons_zero, List.getElem?_cons_succ] at k0 k1 k2
         have HV9 := Lib.hid (HV.out.trans (hb.mono HV.out.size))
         clear f0 f1 f2 ltb HKW
         go_wp2_with fail
         go_roundg (N - (k + 1))
         case measure => omega
         case rel => exact ⟨k + 1, by norm_cast, by omega, Nat.le_refl _, HV9⟩
        ·obtain ⟨g1, g2, g3, g4, g5⟩ := neI eb
         by_cases ec : k = c
         ·obtain ⟨j1, j2, j3, j4, j5⟩ := eqI ec
          clear ea eb ec
          go_wp2_with fail
          refine wp_region_up wr.heap.size 36 [(true, 0), (true, 1), (true, 2), (true, 3), (true, 4), (true, 5), (true, 6), (true, 7), (true, 8), (true, 9), (true, 10), (true, 11), (true, 12), (true, 13), (true, 14), (true, 15), (true, 16), (true, 17), (true, 18), (true, 19), (true, 20), (true, 21), (true, 22), (true, 23), (true, 24), (true, 25), (true, 26), (true, 27), (true, 28), (true, 29), (true, 30), (true, 31), (true, 32), (true, 33), (true, 34), (true, 35)] (by kernel_rfl) (by kernel_rfl) (fun _ _ d _ _ h => by cases d <;> exact h) ?_
          have hb : Below wr.heap.size wr wr.drew := (Below.refl _ _).drew
          iterate 36
           refine wpS_takeL rfl rfl ?_
           go_big_quiet_step (rfl)
           refine wpQuiet_nil ?_
          refine wpS_nil ?_
          simp only [List.drop_succ_cons, List.drop_zero]
          have HKW := HKT.out.of hb
          have k0 := HKW.cell 0
          have k1 := HKW.cell 1
          have k2 := HKW.cell 2
          have ltw := HKW.lt
          simp only [List.getElem?_toArray, List.getElem?_cons_zero, List.getElem?_cons_succ] at k0 k1 k2
          have HV9 := Lib.hid (HV.out.trans (hb.mono HV.out.size))
          clear f0 f1 f2 ltb HKW
          go_wp2_with fail
          go_roundg (N - (k + 1))
          case measure => omega
          case rel => exact ⟨k + 1, by norm_cast, by omega, Nat.le_refl _, HV9⟩
         ·obtain ⟨j1, j2, j3, j4, j5⟩ := neI ec
          have hin := HR.out.emp _ HX.out.2 k hkN ea eb ec
          obtain ⟨q, hq⟩ : ∃ q, inW (X a) (Y a) (X b) (Y b) (X c) (Y c) (X k) (Y k) = q := ⟨_, rfl⟩
          have hq0 : q < 0 := by rw [← hq]; exact hin
          have hq1 : decide ((0 : Int) ≤ q) = false := by simp; omega
          have HQ := Lib.hid hq
          clear ea eb ec hin hq
          obtain ⟨pb, epb, hpt⟩ := (HP.out.of HBK.out).atP (by omega)
          first | subst epb | (injection epb with epb; subst epb)
          have qa := hpt a haN
          have qb := hpt b hbN
          have qc := hpt c hcN
          have qa0 := fun u => (qa u).1
          have qa1 := fun u => (qa u).2
          have qb0 := fun u => (qb u).1
          have qb1 := fun u => (qb u).2
          have qc0 := fun u => (qc u).1
          have qc1 := fun u => (qc u).2
          have qk := hpt k hkN
          have qk0 := fun u => (qk u).1
          have qk1 := fun u => (qk u).2
          clear qa qb qc qk hpt
          go_wp2_with fail
          refine wp_region_up wr.heap.size 36 [(true, 0), (true, 1), (true, 2), (true, 3), (true, 4), (true, 5), (true, 6), (true, 7), (true, 8), (true, 9), (true, 10), (true, 11), (true, 12), (true, 13), (true, 14), (true, 15), (true, 16), (true, 17), (true, 18), (true, 19), (true, 20), (true, 21), (true, 22), (true, 23), (true, 24), (true, 25), (true, 26), (true, 27), (true, 28), (true, 29), (true, 30), (true, 31), (true, 32), (true, 33), (true, 34), (true, 35)] (by kernel_rfl) (by kernel_rfl) (fun _ _ d _ _ h => by cases d <;> exact h) ?_
          have hb : Below wr.heap.size wr wr.drew := (Below.refl _ _).drew
          iterate 36
           refine wpS_takeL rfl rfl ?_
           go_big_quiet_step (rfl)
           refine wpQuiet_nil ?_
          refine wpS_nil ?_
          simp only [List.drop_succ_cons, List.drop_zero]
          go_wp2_with fail
          refine (rInT_is X Y (X k) (Y k) (X a) (Y a) (X b) (Y b) (X c) (Y c) q HQ.out _).mono ?_
          rintro e w3 ⟨rfl, hn⟩
          replace hb := hb.trans (hn.mono hb.size)
          clear hn qa0 qa1 qb0 qb1 qc0 qc1 qk0 qk1
          have HKW := HKT.out.of hb
          have k0 := HKW.cell 0
          have k1 := HKW.cell 1
          have k2 := HKW.cell 2
          have ltw := HKW.lt
          simp only [List.getElem?_toArray, List.getElem?_cons_zero, List.getElem?_cons_succ] at k0 k1 k2
          have HV9 := Lib.hid (HV.out.trans (hb.mono HV.out.size))
          clear f0 f1 f2 ltb HKW
          go_wp2_with fail
          go_roundg (N - (k + 1))
          case measure => omega
          case rel => exact ⟨k + 1, by norm_cast, by omega, Nat.le_refl _, HV9⟩
      ·have ekN : N = k := by omega
       subst ekN
       have HB4 := Lib.hid (HB3.out.trans (HV.out.mono HB3.out.size))
       have KS4 := Lib.hid (KS3.out.of HV.out)
       have KU4 : Hid (RowI wr ub N N f) := by
        obtain ⟨cur, h1, h2⟩ := KU3.out
        exact Lib.hid ⟨cur, (HV.out.block ub (by omega)).trans h1, h2⟩
       have KT4 := Lib.hid (KT3.out.of HV.out)
       have hz4 : tb < wr.heap.size := KT4.out.lt
       clear HV HB3 KS3 KU3 KT3 hz3
       have f0 : ∀ u : UpTo wr.heap.size wr, u.w.cell? ⟨tb, 0, none⟩ = some (.int .i64 (a : Nat)) := fun u => (KT4.out.of u.below).cell 0
       have f1 : ∀ u : UpTo wr.heap.size wr, u.w.cell? ⟨tb, 1, none⟩ = some (.int .i64 (b : Nat)) := fun u => (KT4.out.of u.below).cell 1
       have f2 : ∀ u : UpTo wr.heap.size wr, u.w.cell? ⟨tb, 2, none⟩ = some (.int .i64 (c : Nat)) := fun u => (KT4.out.of u.below).cell 2
       have ltb := KT4.out.lt
       obtain ⟨pb, epb, hpt⟩ := (HP.out.of HB4.out).atP (by omega)
       first | subst epb | (injection epb with epb; subst epb)
       have qa := hpt a haN
       have qb := hpt b hbN
       have qc := hpt c hcN
       have qa0 := fun u => (qa u).1
       have qa1 := fun u => (qa u).2
       have qb0 := fun u => (qb u).1
       have qb1 := fun u => (qb u).2
       have qc0 := fun u => (qc u).1
       have qc1 := fun u => (qc u).2
       obtain ⟨neg, da, dl, dc, ks, hz, hfr⟩ := KS4.out
       have HZ := Lib.hid hz
       have HKS := Lib.hid ks
       have s0 : ∀ u : UpTo wr.heap.size wr, u.w.cell? ⟨sb, 0, none⟩ = some (.bool neg) := fun u => (ks.of u.below).cell 0
       have s1 : ∀ u : UpTo wr.heap.size wr, u.w.cell? ⟨sb, 1, none⟩ = some (.slice da dl dc) := fun u => (ks.of u.below).cell 1
       have ls := ks.lt
       obtain ⟨t, ht⟩ : ∃ t, trn (X a) (Y a) (X b) (Y b) (X c) (Y c) = t := ⟨_, rfl⟩
       have HTT := Lib.hid ht
       have HCA := Lib.hid (allC_co HG.out haN)
       have HCB := Lib.hid (allC_co HG.out hbN)
       have HCC := Lib.hid (allC_co HG.out hcN)
       clear qa qb qc hpt ks hz hfr ht
       go_wp2_with fail
       refine wp_region_up wr.heap.size 17 [(true, 0), (true, 1), (true, 2), (true, 3), (true, 4), (true, 5), (true, 6), (true, 7), (true, 8), (true, 9), (true, 10), (true, 11), (true, 12), (true, 13), (true, 14), (true, 15), (false, 16)] (by kernel_rfl) (by kernel_rfl) (fun _ _ d _ _ h => by cases d <;> exact h) ?_
       have hb : Below wr.heap.size wr wr.drew := (Below.refl _ _).drew
       iterate 16
        refine wpS_takeL rfl rfl ?_
        go_big_quiet_step (rfl)
        refine wpQuiet_nil ?_
       refine wpS_doL rfl ?_
       intro K hK
       go_wp2_with ((go_at_call 57; (with_reducible refine (rTurn_v (X a) (Y a) (X b) (Y b) (X c) (Y c) t HTT.out HCA.out.1 HCA.out.2 HCB.out.1 HCB.out.2 HCC.out.1 HCC.out.2 _).mono ?_); rintro e w2 ⟨v_, rfl, hbm, hn⟩; have HB9 := Lib.hid hbm; have hvm := hbm.shape; clear hbm; obtain ⟨bn1, ba1, bl1, bc1, rfl⟩ := hvm))
       replace hb := hb.trans (hn.mono hb.size)
       refine hK.out _ _ (up_iff.2 hb) ?_
       clear hK K
       clear hn
       refine wpS_nil ?_
       simp only [List.drop_succ_cons, List.drop_zero]
       clear f0 f1 f2 ltb qa0 qa1 qb0 qb1 qc0 qc1 s0 s1 ls
       go_wp2_with fail
       refine (bigAdd_F _ _ (arT X Y (L.take i)) t 12 _ (HZ.out.of hb) HB9.out (by decide)).mono ?_
       rintro e W9 ⟨⟨v9, rfl, hv9, hn9⟩, hfr9⟩
       obtain ⟨nn, na, nl, nc, rfl⟩ := hv9.shape
       have hbw := hb.trans (hn9.mono hb.size)
       have e1 : arT X Y (L.take (i + 1)) = arT X Y (L.take i) + t := by
        rw [arT_take HX.out.1, ← HTT.out]; rfl
       have Hv : Hid (Big W9 (.agg #[.bool nn, .slice na nl nc]) (arT X Y (L.take (i + 1))) 12) := by
        refine Lib.hid ?_
        have bd := arT_bd HG.out (L.take (i + 1)) fun x hx => HR.out.lt x (List.mem_of_mem_take hx)
        have hl : (L.take (i + 1)).length = i + 1 := by rw [List.length_take, HLN.out]; omega
        rw [hl] at bd
        have hk60 : ((i + 1 : Nat) : Int) ≤ 60 := by omega
        have p12 : P15 12 = 1532495540865888858358347027150309183618739122183602176 := by decide
        rw [← e1] at hv9
        refine hv9.fit ?_
        rw [p12]; omega
       have Hfr : Hid (na = none ∨ ∃ g, na = some ⟨g, 0, none⟩ ∧ sb + 1 ≤ g) := by
        refine Lib.hid ?_
        rcases hfr9.neg with h | ⟨g, h1, h2⟩
        ·exact .inl h
        ·exact .inr ⟨g, h1, by have := hb.size; omega⟩
       have HKS9 := Lib.hid (HKS.out.of hbw)
       have KU9 : Hid (RowI W9 ub N N f) := by
        obtain ⟨cur, h1, h2⟩ := KU4.out
        exact Lib.hid ⟨cur, (hbw.block ub (by omega)).trans h1, h2⟩
       have KT9 := Lib.hid (KT4.out.of hbw)
       have HB9' := Lib.hid (HB4.out.trans (hbw.mono HB4.out.size))
       have hz9 : tb < W9.heap.size := KT9.out.lt
       have c0 := HKS9.out.cell 0
       have c1 := HKS9.out.cell 1
       have f0 := HKS9.out.free 0
       have f1 := HKS9.out.free 1
       have ls9 := HKS9.out.lt
       clear hb hbw hv9 hn9 hfr9 HZ HKS HB9 KS4 KU4 KT4 HB4 hz4 e1 HTT HCA HCB HCC
       go_wp2_with fail
       refine name_world ?_
       intro Wa hWa
       have KSa : Hid (SumF Wa (sb + 1) sb (arT X Y (L.take (i + 1)))) := by rw [hWa]; exact Lib.hid ⟨nn, na, nl, nc, HKS9.out.put2 _ _, Hv.out.set2 (HKS9.out.cell 0) _ _, Hfr.out⟩
       have hWb : ∀ g, g ≠ sb → Wa.heap[g]? = W9.heap[g]? := fun g hg => by rw [hWa]; exact (Below.heap_setCell _ ⟨sb, 1, none⟩ _ g hg).trans (Below.heap_setCell _ ⟨sb, 0, none⟩ _ g hg)
       have KUa : Hid (RowI Wa ub N N f) := by
        obtain ⟨cur, h1, h2⟩ := KU9.out
        exact Lib.hid ⟨cur, (hWb ub (by omega)).trans h1, h2⟩
       have KTa : Hid (Blk Wa tb #[.int .i64 (a : Nat), .int .i64 (b : Nat), .int .i64 (c : Nat)] 35) := Lib.hid ((hWb tb (by omega)).trans KT9.out)
       have HBa : Hid (Below w.heap.size w Wa) := by rw [hWa]; exact Lib.hid ((HB9'.out.setCell (p := ⟨sb, 0, none⟩) (by show w.heap.size ≤ sb; omega) _).setCell (p := ⟨sb, 1, none⟩) (by show w.heap.size ≤ sb; omega) _)
       have hza : tb < Wa.heap.size := KTa.out.lt
       clear hWa hWb c0 c1 f0 f1 ls9 Hv Hfr HKS9 KU9 KT9 HB9' hz9
       go_wp2_with fail
       go_loopg [11] i (fun gk s11 wr => ∃ k : Nat, s11 = .int .i64 (k : Nat) ∧ k ≤ i ∧ i - k ≤ gk ∧ Hid (Below Wa.heap.size Wa wr))
       case atStart => exact ⟨0, rfl, by omega, by omega, Lib.hid (Below.refl _ _)⟩
       case round =>
        obtain ⟨k2, rfl, hk2, hgk2, HV⟩ := hrel
        by_cases hki : k2 < i
        ·obtain ⟨⟨y0, y1, y2⟩, hy⟩ : ∃ x, L[k2]? = some x := ⟨_, List.getElem?_eq_getElem (show k2 < L.length by rw [HLN.out]; omega)⟩
         have HM := Lib.hid (HR.out.nom i k2 _ _ hki HX.out.1 hy)
         obtain ⟨hy0, hy1, hy2⟩ := HR.out.lt _ (List.mem_iff_getElem?.2 ⟨k2, hy⟩)
         simp only [] at hy0 hy1 hy2
         have HBb := Lib.hid (HBa.out.trans (HV.out.mono HBa.out.size))
         have HKb := Lib.hid (KTa.out.of HV.out)
         obtain ⟨gy, egy, hgy, hcell⟩ := (HT.out.of HBb.out).up (by rw [HLN.out]; omega)
         injection egy with egy; injection egy with egy; subst egy
         have p0 := fun u => (hcell k2 _ hy u).1
         have p1 := fun u => (hcell k2 _ hy u).2.1
         have p2 := fun u => (hcell k2 _ hy u).2.2
         simp only [] at p0 p1 p2
         have f0 : ∀ u : UpTo wr.heap.size wr, u.w.cell? ⟨tb, 0, none⟩ = some (.int .i64 (a : Nat)) := fun u => (HKb.out.of u.below).cell 0
         have f1 : ∀ u : UpTo wr.heap.size wr, u.w.cell? ⟨tb, 1, none⟩ = some (.int .i64 (b : Nat)) := fun u => (HKb.out.of u.below).cell 1
         have f2 : ∀ u : UpTo wr.heap.size wr, u.w.cell? ⟨tb, 2, none⟩ = some (.int .i64 (c : Nat)) := fun u => (HKb.out.of u.below).cell 2
         have ltb := HKb.out.lt
         clear hcell hy
         go_wp2_with fail
         refine wp_region_up wr.heap.size 6 [(true, 0), (true, 1), (true, 2), (true, 3), (true, 4), (true, 5)] (by kernel_rfl) (by kernel_rfl) (fun _ _ d _ _ h => by cases d <;> exact h) ?_
         have hb : Below wr.heap.size wr wr.drew := (Below.refl _ _).drew
         iterate 6
          refine wpS_takeL rfl rfl ?_
          go_big_quiet_step (rfl)
          refine wpQuiet_nil ?_
         refine wpS_nil ?_
         simp only [List.drop_succ_cons, List.drop_zero]
         go_wp2_with fail
         refine (meet_no _ N pc X Y a b c y0 y1 y2 _ (HP.out.of (HBb.out.trans (hb.mono HBb.out.size))) (by omega) haN hbN hcN hy0 hy1 hy2 HM.out).mono ?_
         rintro e w3 ⟨rfl, hn⟩
         have HVc := Lib.hid (HV.out.trans ((hb.trans (hn.mono hb.size)).mono HV.out.size))
         clear hb hn f0 f1 f2 ltb p0 p1 p2
         go_wp2_with fail
         go_roundg (i - (k2 + 1))
         case measure => omega
         case rel => exact ⟨k2 + 1, by norm_cast, by omega, Nat.le_refl _, HVc⟩
        ·have HBc := Lib.hid (HBa.out.trans (HV.out.mono HBa.out.size))
         have KSc := Lib.hid (KSa.out.of HV.out)
         have KUc : Hid (RowI wr ub N N f) := by
          obtain ⟨cur, h1, h2⟩ := KUa.out
          exact Lib.hid ⟨cur, (HV.out.block ub (by omega)).trans h1, h2⟩
         have hzc := HV.out.size
         have hsc : sb < wr.heap.size := by omega
         clear HV HBa KSa KUa KTa
         have hk3 : ¬ ((k2 : Nat) : Int) < ((i : Nat) : Int) := by omega
         go_wp2_with fail
         go_roundg (n - (i + 1))
         case measure => omega
         case rel => exact ⟨i + 1, f, by norm_cast, by omega, Nat.le_refl _, KSc, KUc, HU2, HBc, hsc⟩

  ·have ein : i = n := by omega
   have hfr : ∀ k, k < N → 1 ≤ f k := fun k hk => by
    obtain ⟨x, hx, h⟩ := HR.out.use k hk
    obtain ⟨j, hj⟩ := List.mem_iff_getElem?.1 hx
    obtain ⟨h1, h2, h3⟩ := HU.out.2 j x (by have := (List.getElem?_eq_some_iff.1 hj).1; rw [HLN.out] at this; omega) hj
    rcases h with h | h | h <;> rw [h] <;> assumption
   have HFR := Lib.hid hfr
   have HAR : Hid (arT X Y (L.take i) = fanS X Y H r) := by
    have := HR.out.area
    rw [HH.out] at this
    rw [ein, ← HLN.out, List.take_length]
    exact Lib.hid this
   clear hfr
   go_wp2_with fail
   go_loopg [12] N (fun gk s12 wr2 => ∃ k : Nat, s12 = .int .i64 (k : Nat) ∧ k ≤ N ∧ N - k ≤ gk ∧ wr2 = wr)
   case atStart => exact ⟨0, rfl, by omega, by omega, rfl⟩
   case round =>
    obtain ⟨k, rfl, hk, hgk, rfl⟩ := hrel
    by_cases hkN : k < N
    ·have u0 := KU.out.cell hkN
     have lu : ub < wr.heap.size := by omega
     obtain ⟨q, hq⟩ : ∃ q, f k = q := ⟨_, rfl⟩
     have hq1 := HFR.out k hkN
     rw [hq] at u0 hq1
     have hq0 : (q == 0) = false := by simp; omega
     clear hq
     go_wp2_with fail
     go_roundg (N - (k + 1))
     case measure => omega
     case rel => exact ⟨k + 1, by norm_cast, by omega, Nat.le_refl _, rfl⟩
    ·obtain ⟨neg, da, dl, dc, ks, hz, _⟩ := KS.out
     rw [HAR.out] at hz
     have HZ := Lib.hid hz
     have s0 : ∀ u : UpTo wr.heap.size wr, u.w.cell? ⟨sb, 0, none⟩ = some (.bool neg) := fun u => (ks.of u.below).cell 0
     have s1 : ∀ u : UpTo wr.heap.size wr, u.w.cell? ⟨sb, 1, none⟩ = some (.slice da dl dc) := fun u => (ks.of u.below).cell 1
     have ls := ks.lt
     have hr60 : r ≤ 60 := by have := HC.out.len; rw [HH.out] at this; omega
     clear ks hz
     go_wp2_with fail
     refine wp_region_up wr.heap.size 5 [(true, 0), (true, 1), (true, 2), (false, 3), (false, 4)] (by kernel_rfl) (by kernel_rfl) (fun _ _ d _ _ h => by cases d <;> exact h) ?_
     have hb : Below wr.heap.size wr wr.drew := (Below.refl _ _).drew
     iterate 3
      refine wpS_takeL rfl rfl ?_
      go_big_quiet_step (rfl)
      refine wpQuiet_nil ?_
     refine wpS_doL rfl ?_
     intro K hK
     go_wp2_with ((go_at_call 16; (with_reducible refine (rHull_is po N pc X Y _ (HP.out.of (HB.out.trans (hb.mono HB.out.size))) (by omega) H HC.out).mono ?_); rintro e w2 ⟨vh, rfl, hnl, hn⟩; have HNL := Lib.hid hnl; clear hnl))
     replace hb := hb.trans (hn.mono hb.size)
     refine hK.out _ _ (up_iff.2 hb) ?_
     clear hK K
     clear hn
     refine wpS_doL rfl ?_
     intro K hK
     go_wp2_with ((go_at_call 60; (refine (Area_is po N pc X Y H _ vh r _ (HP.out.of (HB.out.trans (hb.mono HB.out.size))) HG.out HNL.out HH.out hr60 HC.out.lt).mono ?_); rintro e w2 ⟨v_, rfl, hbm, hn⟩; have HB9 := Lib.hid hbm; have hvm := hbm.shape; clear hbm; obtain ⟨bn1, ba1, bl1, bc1, rfl⟩ := hvm))
     replace hb := hb.trans (hn.mono hb.size)
     refine hK.out _ _ (up_iff.2 hb) ?_
     clear hK K
     clear hn
     refine wpS_nil ?_
     simp only [List.drop_succ_cons, List.drop_zero]
     clear s0 s1 ls
     go_wp2_with fail
     refine (bigCmp_is0 _ _ (fanS X Y H r) (fanS X Y H r) 12 12 rfl _ (HZ.out.of hb) HB9.out).mono ?_
     rintro e w3 ⟨rfl, hn⟩
     have HBF := Lib.hid (HB.out.trans ((hb.trans (hn.mono hb.size)).mono HB.out.size))
     clear hb hn
     go_wp2
     go_ret
     exact ⟨rfl, HBF.out⟩
end Go.Proofs.Ytdlpfiiakmhnlaa

namespace Go.Proofs.Ytdlpfiiakmhnlaa
open Go.RowKit

/-- a store is a triangulation of its points, with the hull H -/
structure GO (N : Nat) (X Y : Nat → Int) (O : Nat → List (Nat × Nat)) (H : List Nat) : Prop where
  pos : ∀ a b c : Nat, lookH (O a) b = some c → 0 < gT X Y a b c
  emp : ∀ a b c : Nat, lookH (O a) b = some c → ∀ k, k < N → k ≠ a → k ≠ b → k ≠ c → ¬ (0 ≤ gT X Y a b k ∧ 0 ≤ gT X Y b c k ∧ 0 ≤ gT X Y c a k)
  nox : ∀ a b c d e f : Nat, lookH (O a) b = some c → lookH (O d) e = some f → ¬ fcg X Y a b d e
  use : ∀ k, k < N → ∃ b c : Nat, lookH (O k) b = some c
  area : arT X Y (preO O N) = fanS X Y H (H.length - 2)
section
variable {N : Nat} {X Y : Nat → Int}
theorem sgn_pos {x : Int} : 0 < x.sign ↔ 0 < x := by
  rcases Int.lt_trichotomy x 0 with h | h | h
  · rw [Int.sign_eq_neg_one_of_neg h]; omega
  · rw [h]; simp
  · rw [Int.sign_eq_one_of_pos h]; omega
theorem sgn_neg {x : Int} : x.sign < 0 ↔ x < 0 := by
  rcases Int.lt_trichotomy x 0 with h | h | h
  · rw [Int.sign_eq_neg_one_of_neg h]; omega
  · rw [h]; simp
  · rw [Int.sign_eq_one_of_pos h]; omega
theorem sgn_mul_neg {x y : Int} : x.sign * y.sign < 0 ↔ x * y < 0 := by rw [← Int.sign_mul, sgn_neg]
theorem inT_gT (hg : allC N X Y = true) {x : Tri3} (h1 : x.1 < N) (h2 : x.2.1 < N) (h3 : x.2.2 < N) {k : Nat} (hk : k < N) (hp : 0 < gT X Y x.1 x.2.1 x.2.2) (hn : ¬ (0 ≤ gT X Y x.1 x.2.1 k ∧ 0 ≤ gT X Y x.2.1 x.2.2 k ∧ 0 ≤ gT X Y x.2.2 x.1 k)) : inT X Y (X k) (Y k) x < 0 := by
  have hw : 0 < wy X Y x.1 x.2.1 x.2.2 := by rw [wy_sgn hg h1 h2 h3]; exact sgn_pos.2 hp
  rcases Int.lt_or_le (inT X Y (X k) (Y k) x) 0 with h | h
  · exact h
  · exfalso
    obtain ⟨_, h5⟩ := (inT_bey hw).1 h
    rw [bey_none] at h5
    obtain ⟨q1, q2, q3⟩ := h5
    have a1 : ¬ (gT X Y x.1 x.2.1 k).sign < 0 := by rw [← wy_sgn hg h1 h2 hk]; exact Int.not_lt.2 q1
    have a2 : ¬ (gT X Y x.2.1 x.2.2 k).sign < 0 := by rw [← wy_sgn hg h2 h3 hk]; exact Int.not_lt.2 q2
    have a3 : ¬ (gT X Y x.2.2 x.1 k).sign < 0 := by rw [← wy_sgn hg h3 h1 hk]; exact Int.not_lt.2 q3
    rw [sgn_neg] at a1 a2 a3
    exact hn ⟨by omega, by omega, by omega⟩
theorem mq9 (x y : Tri3) (hx : x.1 ≠ x.2.1 ∧ x.2.1 ≠ x.2.2 ∧ x.1 ≠ x.2.2) (hy : y.1 ≠ y.2.1 ∧ y.2.1 ≠ y.2.2 ∧ y.1 ≠ y.2.2) (h : mq x y 9 = 3) :
    (x.1 = y.1 ∨ x.1 = y.2.1 ∨ x.1 = y.2.2) ∧ (x.2.1 = y.1 ∨ x.2.1 = y.2.1 ∨ x.2.1 = y.2.2) ∧ (x.2.2 = y.1 ∨ x.2.2 = y.2.1 ∨ x.2.2 = y.2.2) := by
  obtain ⟨x0, x1, x2⟩ := x
  obtain ⟨y0, y1, y2⟩ := y
  simp only [] at hx hy ⊢
  have e : mq (x0, x1, x2) (y0, y1, y2) 9 = ((if x0 = y0 then 1 else 0) + (if x0 = y1 then 1 else 0) + (if x0 = y2 then 1 else 0)) + ((if x1 = y0 then 1 else 0) + (if x1 = y1 then 1 else 0) + (if x1 = y2 then 1 else 0)) + ((if x2 = y0 then 1 else 0) + (if x2 = y1 then 1 else 0) + (if x2 = y2 then 1 else 0)) := by
    show ((((((((0 + (if x0 = y0 then 1 else 0)) + (if x0 = y1 then 1 else 0)) + (if x0 = y2 then 1 else 0)) + (if x1 = y0 then 1 else 0)) + (if x1 = y1 then 1 else 0)) + (if x1 = y2 then 1 else 0)) + (if x2 = y0 then 1 else 0)) + (if x2 = y1 then 1 else 0)) + (if x2 = y2 then 1 else 0) = _
    omega
  rw [e] at h
  have row : ∀ z : Nat, (if z = y0 then 1 else 0) + (if z = y1 then 1 else 0) + (if z = y2 then 1 else 0) ≤ 1 ∧ ((if z = y0 then 1 else 0) + (if z = y1 then 1 else 0) + (if z = y2 then 1 else 0) = 1 → z = y0 ∨ z = y1 ∨ z = y2) := by
    intro z
    by_cases h0 : z = y0
    · rw [if_pos h0, if_neg (by omega), if_neg (by omega)]; exact ⟨Nat.le_refl _, fun _ => .inl h0⟩
    · rw [if_neg h0]
      by_cases h1 : z = y1
      · rw [if_pos h1, if_neg (by omega)]; exact ⟨Nat.le_refl _, fun _ => .inr (.inl h1)⟩
      · rw [if_neg h1]
        by_cases h2 : z = y2
        · rw [if_pos h2]; exact ⟨Nat.le_refl _, fun _ => .inr (.inr h2)⟩
        · rw [if_neg h2]; exact ⟨by omega, fun h => by omega⟩
  have r0 := row x0
  have r1 := row x1
  have r2 := row x2
  exact ⟨r0.2 (by omega), r1.2 (by omega), r2.2 (by omega)⟩
theorem GO.rt {O : Nat → List (Nat × Nat)} {H : List Nat} {n : Nat} (G : GO N X Y O H) (hg : allC N X Y = true) (hw : WS N O n) : RT N X Y (preO O N) H := by
 have look : ∀ x, x ∈ preO O N → lookH (O x.1) x.2.1 = some x.2.2 ∧ x.1 < x.2.1 ∧ x.1 < x.2.2 := fun x hx => by
  obtain ⟨h1, h2, h3, h4⟩ := mem_preO.1 hx
  exact ⟨(look_mem (hw.cyc.srt _)).1 h2, h3, h4⟩
 have side : ∀ x, x ∈ preO O N → ∀ i, i < 3 → lookH (O (cr x i)) (cr x ((i + 1) % 3) : Nat) = some (cr x ((i + 2) % 3)) := fun x hx i hi => by
  obtain ⟨h1, _, _⟩ := look x hx
  have h2 := hw.cyc.rot _ _ _ h1
  have h3 := hw.cyc.rot _ _ _ h2
  rcases (show i = 0 ∨ i = 1 ∨ i = 2 by omega) with rfl | rfl | rfl
  ·exact h1
  ·exact h2
  ·exact h3
 refine ⟨fun x hx => hw.dom _ _ _ (look x hx).1, fun x hx => ?_, fun x hx k hk n1 n2 n3 => ?_, fun i k x y hki hx hy => ?_, fun k hk => ?_, G.area⟩
 ·obtain ⟨d1, d2, d3⟩ := hw.dom _ _ _ (look x hx).1
  rw [wy_sgn hg d1 d2 d3]
  exact sgn_pos.2 (G.pos _ _ _ (look x hx).1)
 ·obtain ⟨d1, d2, d3⟩ := hw.dom _ _ _ (look x hx).1
  exact inT_gT hg d1 d2 d3 hk (G.pos _ _ _ (look x hx).1) (G.emp _ _ _ (look x hx).1 k hk n1 n2 n3)
 ·have mx := List.mem_iff_getElem?.2 ⟨i, hx⟩
  have my := List.mem_iff_getElem?.2 ⟨k, hy⟩
  have sx := side x mx
  have sy := side y my
  have hne : y ≠ x := preO_ne hw.cyc.srt hy hx hki
  have key : ∀ i k, i < 3 → k < 3 → ¬ (cr x i = cr y k ∧ cr x ((i + 1) % 3) = cr y ((k + 1) % 3)) := by
   rintro i k hi hk ⟨e1, e2⟩
   have a := sx i hi
   have b := sy k hk
   rw [e1, e2, b] at a
   injection a with a
   obtain ⟨_, lx1, lx2⟩ := look x mx
   obtain ⟨_, ly1, ly2⟩ := look y my
   apply hne
   obtain ⟨x0, x1, x2⟩ := x
   obtain ⟨y0, y1, y2⟩ := y
   simp only [] at lx1 lx2 ly1 ly2
   rcases (show i = 0 ∨ i = 1 ∨ i = 2 by omega) with rfl | rfl | rfl <;> rcases (show k = 0 ∨ k = 1 ∨ k = 2 by omega) with rfl | rfl | rfl
   all_goals
    simp [cr] at e1 e2 a
    first | (exfalso; omega) | (rw [Prod.mk.injEq, Prod.mk.injEq]; omega)
  refine ⟨fun i k hi hk => ?_, key, fun h9 => ?_⟩
  ·have a := sx i hi
   have b := sy k hk
   obtain ⟨d1, d2, _⟩ := hw.dom _ _ _ a
   obtain ⟨e1, e2, _⟩ := hw.dom _ _ _ b
   rw [wy_sgn hg d1 d2 e1, wy_sgn hg d1 d2 e2, wy_sgn hg e1 e2 d1, wy_sgn hg e1 e2 d2, sgn_mul_neg, sgn_mul_neg]
   exact G.nox _ _ _ _ _ _ a b
  ·obtain ⟨hx1, lx1, lx2⟩ := look x mx
   obtain ⟨hy1, ly1, ly2⟩ := look y my
   have px := G.pos _ _ _ hx1
   have py := G.pos _ _ _ hy1
   have nx := hw.cyc.ne _ _ _ (hw.cyc.rot _ _ _ hx1)
   have ny := hw.cyc.ne _ _ _ (hw.cyc.rot _ _ _ hy1)
   obtain ⟨c0, c1, c2⟩ := mq9 x y ⟨by omega, nx, by omega⟩ ⟨by omega, ny, by omega⟩ h9
   have k01 := key 0 0 (by omega) (by omega)
   obtain ⟨x0, x1, x2⟩ := x
   obtain ⟨y0, y1, y2⟩ := y
   simp only [] at lx1 lx2 ly1 ly2 px py nx ny c0 c1 c2
   have hxy : x0 = y0 := by omega
   have k00 : ¬ (x0 = y0 ∧ x1 = y1) := k01
   have e1 : x1 = y2 := by omega
   have e2 : x2 = y1 := by omega
   subst hxy e1 e2
   have : gT X Y x0 x2 x1 = -gT X Y x0 x1 x2 := by unfold gT; grind
   omega
 ·obtain ⟨b, c, h1⟩ := G.use k hk
  obtain ⟨x, hx, hr⟩ := (rot_left hw.cyc hw.dom (t0 := k) (t1 := b) (t2 := c)).2 ⟨c, by rw [leftO_of hk]; exact h1, rfl⟩
  refine ⟨x, hx, ?_⟩
  rcases isRot_iff.1 hr with h | h | h <;> omega
theorem told_arI {a b c : Nat} : ∀ (L : List (Nat × Nat)), arT X Y (told a (insH b c L)) = arT X Y (told a L) + if a < b ∧ a < c then gT X Y a b c else 0 := by
  have h1 : ∀ (x : Nat × Nat) L, arT X Y (told a (x :: L)) = (if a < x.1 ∧ a < x.2 then gT X Y a x.1 x.2 else 0) + arT X Y (told a L) := by
    intro x L
    unfold told
    rw [List.filter_cons]
    by_cases e : a < x.1 ∧ a < x.2
    · rw [if_pos e, if_pos (by simpa using e)]; unfold arT; simp
    · rw [if_neg e, if_neg (by simpa using e)]; omega
  intro L
  induction L with
  | nil => show arT X Y (told a [(b, c)]) = _; rw [h1]; show (if a < b ∧ a < c then gT X Y a b c else 0) + arT X Y (told a []) = arT X Y (told a []) + _; omega
  | cons x l ih =>
    show arT X Y (told a (if x.1 < b then x :: insH b c l else (b, c) :: x :: l)) = _
    split
    · rw [h1, h1, ih]; omega
    · rw [h1]; show (if a < b ∧ a < c then gT X Y a b c else 0) + _ = _; omega
theorem pre_arI {O : Nat → List (Nat × Nat)} {a b c : Nat} : ∀ N, arT X Y (preO (put1 O a b c) N) = arT X Y (preO O N) + if a < N ∧ a < b ∧ a < c then gT X Y a b c else 0
  | 0 => by rw [if_neg (by omega)]; show arT X Y [] = arT X Y [] + 0; omega
  | N + 1 => by
    show arT X Y (preO (put1 O a b c) N ++ told N (put1 O a b c N)) = arT X Y (preO O N ++ told N (O N)) + _
    rw [arT_app, arT_app, pre_arI N]
    unfold put1
    by_cases e : N = a
    · subst e
      rw [if_pos rfl, told_arI, if_neg (by omega)]
      by_cases h : N < b ∧ N < c
      · rw [if_pos h, if_pos (by omega)]; omega
      · rw [if_neg h, if_neg (by omega)]; omega
    · rw [if_neg e]
      by_cases h : a < N ∧ a < b ∧ a < c
      · rw [if_pos h, if_pos (by omega)]; omega
      · rw [if_neg h, if_neg (by omega)]; omega
theorem pre_arT {O : Nat → List (Nat × Nat)} {a b c : Nat} (ha : a < N) (hb : b < N) (hc : c < N) (n1 : a ≠ b) (n2 : b ≠ c) (n3 : a ≠ c) : arT X Y (preO (putT O a b c) N) = arT X Y (preO O N) + gT X Y a b c := by
  unfold putT
  rw [pre_arI, pre_arI, pre_arI]
  have e1 : gT X Y b c a = gT X Y a b c := gT_rot a b c
  have e2 : gT X Y c a b = gT X Y a b c := by rw [gT_rot b c a, gT_rot]
  rcases (show (a < b ∧ a < c) ∨ (b < a ∧ b < c) ∨ (c < a ∧ c < b) by omega) with h | h | h
  · rw [if_pos (by omega), if_neg (by omega), if_neg (by omega)]; omega
  · rw [if_neg (by omega), if_pos (by omega), if_neg (by omega)]; omega
  · rw [if_neg (by omega), if_neg (by omega), if_pos (by omega)]; omega
theorem pre_arA : ∀ (l : List Tri3) {O : Nat → List (Nat × Nat)}, PutOk N O l → arT X Y (preO (putAll O l) N) = arT X Y (preO O N) + arT X Y l := by
  intro l
  induction l with
  | nil => intro O _; show _ = _ + arT X Y []; have : arT X Y [] = 0 := by unfold arT; rfl
           rw [this]; show arT X Y (preO O N) = _; omega
  | cons t l ih =>
    intro O hp
    obtain ⟨⟨a1, a2, a3, n1, n2, n3, h1, h2, h3⟩, hp⟩ := hp
    show arT X Y (preO (putAll (putT O t.1 t.2.1 t.2.2) l) N) = _
    rw [ih hp, pre_arT a1 a2 a3 n1 n2 n3]
    have : arT X Y (t :: l) = gT X Y t.1 t.2.1 t.2.2 + arT X Y l := by unfold arT; simp
    omega
end
/-- scaled abscissae change no sign -/
theorem sX_cO (X Y : Nat → Int) (a b : Nat) : cO (sX X Y) Y a b = 4398046511105 * cO X Y a b := by unfold cO sX; grind
theorem sX_fcg {X Y : Nat → Int} {a b c d : Nat} (h : fcg X Y a b c d) : fcg (sX X Y) Y a b c d := by
  have key : ∀ x y : Int, x * y < 0 → (4398046511105 * x) * (4398046511105 * y) < 0 := fun x y h => by
    have e : (4398046511105 * x) * (4398046511105 * y) = 19342813113842862888321025 * (x * y) := by grind
    rw [e]; omega
  refine ⟨?_, ?_⟩
  · rw [sX_T, sX_T]; exact key _ _ h.1
  · rw [sX_T, sX_T]; exact key _ _ h.2
theorem sumN_mul (c : Int) (f : Nat → Int) : ∀ k, sumN (fun i => c * f i) k = c * sumN f k
  | 0 => by show 0 = c * 0; omega
  | k + 1 => by
    show sumN (fun i => c * f i) k + c * f k = c * (sumN f k + f k)
    rw [sumN_mul c f k, Int.mul_add]
theorem sX_shoe (X Y : Nat → Int) (h : List Nat) : shoe (sX X Y) Y h = 4398046511105 * shoe X Y h := by
  unfold shoe
  rw [← sumN_mul]
  exact sumN_congr _ fun i _ => sX_cO _ _ _ _
theorem sX_arT (X Y : Nat → Int) : ∀ T, arT (sX X Y) Y T = 4398046511105 * arT X Y T
  | [] => by unfold arT; simp
  | t :: l => by
    have e1 : arT (sX X Y) Y (t :: l) = gT (sX X Y) Y t.1 t.2.1 t.2.2 + arT (sX X Y) Y l := by unfold arT; simp
    have e2 : arT X Y (t :: l) = gT X Y t.1 t.2.1 t.2.2 + arT X Y l := by unfold arT; simp
    rw [e1, e2, sX_T, sX_arT X Y l, Int.mul_add]
/-- what Build makes is one -/
theorem Tri.go {N q : Nat} {X Y : Nat → Int} {T : List Tri3} {O : Nat → List (Nat × Nat)} (h : Tri N X Y q T O) (hg : allC N X Y = true) (hr : risC N X Y) (hq : q < N) : ∃ H r, GO N X Y O H ∧ RC N X Y H ∧ H.length = r + 2 := by
 obtain ⟨hh, z, eT, eh, HH, HB, _, hz, hz0, _, hrc⟩ := h.some hq
 have hk : q + (N - 1 - q) = N - 1 := by omega
 obtain ⟨G, ha⟩ := bld_geo hg hr h.ln hq (N - 1 - q) (by omega)
 rw [← eT, hk] at G
 rw [← eT, ← eh] at ha
 have h3 := HH.len
 have hl : (rotH hh z).length = hh.length := rotH_len hh z
 have hp : PutOk N (fun _ => []) T := putok_fresh _ rep_none h.fresh
 have har : arT X Y T = shoe X Y hh := by
  rw [sX_arT, sX_shoe] at ha
  exact mul_eq_pos (by decide) ha
 have look : ∀ a b c : Nat, lookH (O a) b = Option.some c → ∃ t, t ∈ T ∧ ((a = t.1 ∧ b = t.2.1 ∧ c = t.2.2) ∨ (a = t.2.1 ∧ b = t.2.2 ∧ c = t.1) ∨ (a = t.2.2 ∧ b = t.1 ∧ c = t.2.1)) := fun a b c hl => by
  rw [h.all] at hl
  rcases look_all T Cyc.nil hp a b c hl with h4 | h4
  ·cases h4
  ·exact h4
 have sgn : ∀ a b c, 0 ≤ gT X Y a b c → 0 ≤ gT (sX X Y) Y a b c := fun a b c h => by rw [sX_T]; omega
 have sd : ∀ a b c : Nat, lookH (O a) b = Option.some c → gSd T a b := fun a b c hl => by
  obtain ⟨t, ht, h4⟩ := look a b c hl
  refine ⟨t, ht, ?_⟩
  rcases h4 with ⟨h1, h2, _⟩ | ⟨h1, h2, _⟩ | ⟨h1, h2, _⟩
  ·exact .inl ⟨h1, h2⟩
  ·exact .inr (.inl ⟨h1, h2⟩)
  ·exact .inr (.inr ⟨h1, h2⟩)
 refine ⟨rotH hh z, hh.length - 2, ⟨fun a b c hl => ?_, fun a b c hl k hk n1 n2 n3 hin => ?_, fun a b c d e f h1 h2 hf => ?_, fun k hk => ?_, ?_⟩, hrc, by rw [hl]; omega⟩
 ·obtain ⟨t, ht, h4⟩ := look a b c hl
  have hp := G.pos t ht
  rw [sX_T] at hp
  have hp2 : 0 < gT X Y t.1 t.2.1 t.2.2 := by omega
  rcases h4 with ⟨rfl, rfl, rfl⟩ | ⟨rfl, rfl, rfl⟩ | ⟨rfl, rfl, rfl⟩
  ·exact hp2
  ·rw [gT_rot]; exact hp2
  ·rw [← gT_rot]; exact hp2
 ·obtain ⟨t, ht, h4⟩ := look a b c hl
  rcases h4 with ⟨rfl, rfl, rfl⟩ | ⟨rfl, rfl, rfl⟩ | ⟨rfl, rfl, rfl⟩
  ·exact G.emp t ht k (by omega) n1 n2 n3 ⟨sgn _ _ _ hin.1, sgn _ _ _ hin.2.1, sgn _ _ _ hin.2.2⟩
  ·exact G.emp t ht k (by omega) n3 n1 n2 ⟨sgn _ _ _ hin.2.2, sgn _ _ _ hin.1, sgn _ _ _ hin.2.1⟩
  ·exact G.emp t ht k (by omega) n2 n3 n1 ⟨sgn _ _ _ hin.2.1, sgn _ _ _ hin.2.2, sgn _ _ _ hin.1⟩
 ·exact G.nox _ _ _ _ (sd _ _ _ h1) (sd _ _ _ h2) (sX_fcg hf)
 ·obtain ⟨t, ht, h4⟩ := G.use k (by omega)
  obtain ⟨c1, c2, c3⟩ := gSd_corner ht
  have key : ∀ a b, gSd T a b → ∃ b c : Nat, lookH (O a) b = Option.some c := fun a b hs => by
   cases e : lookH (O a) (b : Nat) with
   | some c => exact ⟨b, c, e⟩
   | none => exact absurd hs ((h.rep.2 a b).1 e)
  rcases h4 with rfl | rfl | rfl
  ·exact key _ _ c1
  ·exact key _ _ c2
  ·exact key _ _ c3
 ·rw [h.all, pre_arA T hp, pre_nil, har, hl]
  have : arT X Y [] = 0 := by unfold arT; rfl
  rw [this, ← shoe_rot hh z (by omega), shoe_fan (rotH hh z) (hh.length - 2) (by rw [hl]; omega)]
  unfold fanS
  omega
end Go.Proofs.Ytdlpfiiakmhnlaa

namespace Go.Proofs.Ytdlpfiiakmhnlaa
open Go.RowKit

/-- lists that rise and hold the same are the same -/
theorem sorted_ext : ∀ {L M : List (Nat × Nat)}, L.Pairwise (fun x y => x.1 < y.1) → M.Pairwise (fun x y => x.1 < y.1) → (∀ x, x ∈ L ↔ x ∈ M) → L = M
  | [], [], _, _, _ => rfl
  | [], y :: M, _, _, h => by have := (h y).2 (by simp); simp at this
  | x :: L, [], _, _, h => by have := (h x).1 (by simp); simp at this
  | x :: L, y :: M, hL, hM, h => by
    obtain ⟨l1, l2⟩ := List.pairwise_cons.1 hL
    obtain ⟨m1, m2⟩ := List.pairwise_cons.1 hM
    have e : x = y := by
      rcases List.mem_cons.1 ((h x).1 (by simp)) with e | e
      · exact e
      · rcases List.mem_cons.1 ((h y).2 (by simp)) with e' | e'
        · exact e'.symm
        · have := m1 _ e; have := l1 _ e'; omega
    subst e
    have : L = M := by
      refine sorted_ext l2 m2 fun z => ⟨fun hz => ?_, fun hz => ?_⟩
      · rcases List.mem_cons.1 ((h z).1 (List.mem_cons_of_mem _ hz)) with e | e
        · subst e; have := l1 _ hz; omega
        · exact e
      · rcases List.mem_cons.1 ((h z).2 (List.mem_cons_of_mem _ hz)) with e | e
        · subst e; have := m1 _ hz; omega
        · exact e
    rw [this]
theorem O_ext {O O' : Nat → List (Nat × Nat)} (hO : Cyc O) (hO' : Cyc O') (h : ∀ a b : Nat, lookH (O a) b = lookH (O' a) b) : O = O' :=
  funext fun a => sorted_ext (sortH_pair.1 (hO.srt a)) (sortH_pair.1 (hO'.srt a)) fun ⟨x, y⟩ => by rw [look_mem (hO.srt a), look_mem (hO'.srt a), h]
/-- the edge a b, turned over -/
def flO (O : Nat → List (Nat × Nat)) (a b c d : Nat) : Nat → List (Nat × Nat) := putT (putT (delT (delT O a b c) b a d) d c a) c d b
/-- an edge that may be turned over -/
structure FL (O : Nat → List (Nat × Nat)) (a b c d : Nat) : Prop where
  hc : lookH (O a) b = some c
  hd : lookH (O b) a = some d
  ne : c ≠ d
  n1 : lookH (O c) d = none
  n2 : lookH (O d) c = none
section
variable {O : Nat → List (Nat × Nat)} {a b c d : Nat}
theorem FL.apart (F : FL O a b c d) (hO : Cyc O) : a ≠ b ∧ b ≠ c ∧ a ≠ c ∧ d ≠ a ∧ d ≠ b ∧ c ≠ d := by
  have c1 := hO.rot _ _ _ F.hc
  have c2 := hO.rot _ _ _ c1
  have d1 := hO.rot _ _ _ F.hd
  have d2 := hO.rot _ _ _ d1
  exact ⟨hO.ne _ _ _ F.hc, hO.ne _ _ _ c1, fun e => hO.ne _ _ _ c2 e.symm, fun e => hO.ne _ _ _ d1 e.symm, hO.ne _ _ _ d2, F.ne⟩
/-- the steps of it, each as it must be -/
theorem FL.steps (F : FL O a b c d) (hO : Cyc O) : HasT O (a, b, c) ∧ Cyc (delT O a b c) ∧ HasT (delT O a b c) (b, a, d) ∧ Cyc (delT (delT O a b c) b a d) ∧ NewT (delT (delT O a b c) b a d) d c a ∧ Cyc (putT (delT (delT O a b c) b a d) d c a) ∧ NewT (putT (delT (delT O a b c) b a d) d c a) c d b ∧ Cyc (flO O a b c d) := by
  obtain ⟨e1, e2, e3, e4, e5, e6⟩ := F.apart hO
  have c1 := hO.rot _ _ _ F.hc
  have c2 := hO.rot _ _ _ c1
  have d1 := hO.rot _ _ _ F.hd
  have d2 := hO.rot _ _ _ d1
  have C1 := hO.del F.hc
  have k1 : lookH (delT O a b c b) a = some d := by rw [look_delT, if_neg (by omega)]; exact F.hd
  have k2 : lookH (delT O a b c a) d = some b := by rw [look_delT, if_neg (by omega)]; exact d1
  have k3 : lookH (delT O a b c d) b = some a := by rw [look_delT, if_neg (by omega)]; exact d2
  have C2 := C1.del k1
  have N1 : NewT (delT (delT O a b c) b a d) d c a := by
    refine ⟨fun e => e6 e.symm, fun e => e3 e.symm, e4, ?_, ?_, ?_⟩
    · rw [look_delT, if_neg (by omega), look_delT, if_neg (by omega)]; exact F.n2
    · rw [look_delT, if_neg (by omega), look_delT, if_pos (by omega)]
    · rw [look_delT, if_pos (by omega)]
  have C3 := C2.put N1
  have N2 : NewT (putT (delT (delT O a b c) b a d) d c a) c d b := by
    refine ⟨e6, e5, fun e => e2 e.symm, ?_, ?_, ?_⟩
    · rw [look_putT C2.srt N1, if_neg (by omega), if_neg (by omega), if_neg (by omega), look_delT, if_neg (by omega), look_delT, if_neg (by omega)]; exact F.n1
    · rw [look_putT C2.srt N1, if_neg (by omega), if_neg (by omega), if_neg (by omega), look_delT, if_pos (by omega)]
    · rw [look_putT C2.srt N1, if_neg (by omega), if_neg (by omega), if_neg (by omega), look_delT, if_neg (by omega), look_delT, if_pos (by omega)]
  exact ⟨⟨F.hc, c1, c2⟩, C1, ⟨k1, k2, k3⟩, C2, N1, C3, N2, C3.put N2⟩
theorem look_flO (F : FL O a b c d) (hO : Cyc O) (x y : Nat) : lookH (flO O a b c d x) y = if x = c ∧ y = d then some b else if x = d ∧ y = b then some c else if x = b ∧ y = c then some d else if x = d ∧ y = c then some a else if x = c ∧ y = a then some d else if x = a ∧ y = d then some c else if (x = a ∧ y = b) ∨ (x = b ∧ y = a) then none else lookH (O x) y := by
  obtain ⟨_, _, _, C2, N1, C3, N2, _⟩ := F.steps hO
  obtain ⟨e1, e2, e3, e4, e5, e6⟩ := F.apart hO
  unfold flO
  rw [look_putT C3.srt N2, look_putT C2.srt N1, look_delT, look_delT]
  by_cases h1 : x = c ∧ y = d
  · rw [if_pos h1, if_pos h1]
  rw [if_neg h1, if_neg h1]
  by_cases h2 : x = d ∧ y = b
  · rw [if_pos h2, if_pos h2]
  rw [if_neg h2, if_neg h2]
  by_cases h3 : x = b ∧ y = c
  · rw [if_pos h3, if_pos h3]
  rw [if_neg h3, if_neg h3]
  by_cases h4 : x = d ∧ y = c
  · rw [if_pos h4, if_pos h4]
  rw [if_neg h4, if_neg h4]
  by_cases h5 : x = c ∧ y = a
  · rw [if_pos h5, if_pos h5]
  rw [if_neg h5, if_neg h5]
  by_cases h6 : x = a ∧ y = d
  · rw [if_pos h6, if_pos h6]
  rw [if_neg h6, if_neg h6]
  by_cases h7 : x = a ∧ y = b
  · rw [if_neg (by omega), if_pos (.inl h7), if_pos (.inl h7)]
  by_cases h8 : x = b ∧ y = a
  · rw [if_pos (.inl h8), if_pos (.inr h8)]
  rw [if_neg (by omega), if_neg (by omega), if_neg (by omega)]
/-- turned over, it may be turned over -/
theorem FL.next (F : FL O a b c d) (hO : Cyc O) : FL (flO O a b c d) c d b a := by
  obtain ⟨e1, e2, e3, e4, e5, e6⟩ := F.apart hO
  refine ⟨?_, ?_, fun e => e1 e.symm, ?_, ?_⟩
  · rw [look_flO F hO, if_pos (by omega)]
  · rw [look_flO F hO, if_neg (by omega), if_neg (by omega), if_neg (by omega), if_pos (by omega)]
  · rw [look_flO F hO, if_neg (by omega), if_neg (by omega), if_neg (by omega), if_neg (by omega), if_neg (by omega), if_neg (by omega), if_pos (by omega)]
  · rw [look_flO F hO, if_neg (by omega), if_neg (by omega), if_neg (by omega), if_neg (by omega), if_neg (by omega), if_neg (by omega), if_pos (by omega)]
theorem FL.rev (F : FL O a b c d) : FL O b a d c := ⟨F.hd, F.hc, fun e => F.ne e.symm, F.n2, F.n1⟩
/-- turned over twice, it is what it was -/
theorem FL.twice (F : FL O a b c d) (hO : Cyc O) : flO (flO O a b c d) c d b a = O := by
  obtain ⟨e1, e2, e3, e4, e5, e6⟩ := F.apart hO
  obtain ⟨_, _, _, _, _, _, _, C⟩ := F.steps hO
  have F2 := F.next hO
  obtain ⟨_, _, _, _, _, _, _, C2⟩ := F2.steps C
  have c1 := hO.rot _ _ _ F.hc
  have c2 := hO.rot _ _ _ c1
  have d1 := hO.rot _ _ _ F.hd
  have d2 := hO.rot _ _ _ d1
  refine O_ext C2 hO fun x y => ?_
  rw [look_flO F2 C]
  by_cases h1 : x = b ∧ y = a
  · rw [if_pos h1, h1.1, h1.2]; exact F.hd.symm
  rw [if_neg h1]
  by_cases h2 : x = a ∧ y = d
  · rw [if_pos h2, h2.1, h2.2]; exact d1.symm
  rw [if_neg h2]
  by_cases h3 : x = d ∧ y = b
  · rw [if_pos h3, h3.1, h3.2]; exact d2.symm
  rw [if_neg h3]
  by_cases h4 : x = a ∧ y = b
  · rw [if_pos h4, h4.1, h4.2]; exact F.hc.symm
  rw [if_neg h4]
  by_cases h5 : x = b ∧ y = c
  · rw [if_pos h5, h5.1, h5.2]; exact c1.symm
  rw [if_neg h5]
  by_cases h6 : x = c ∧ y = a
  · rw [if_pos h6, h6.1, h6.2]; exact c2.symm
  rw [if_neg h6]
  by_cases h7 : x = c ∧ y = d
  · rw [if_pos (.inl h7), h7.1, h7.2]; exact F.n1.symm
  by_cases h8 : x = d ∧ y = c
  · rw [if_pos (.inr h8), h8.1, h8.2]; exact F.n2.symm
  rw [if_neg (by omega), look_flO F hO, if_neg h7, if_neg h3, if_neg h5, if_neg h8, if_neg h6, if_neg h2, if_neg (by omega)]
theorem FL.same (F : FL O a b c d) (hO : Cyc O) : flO O b a d c = flO O a b c d := by
  obtain ⟨_, _, _, _, _, _, _, C⟩ := F.steps hO
  obtain ⟨_, _, _, _, _, _, _, C2⟩ := F.rev.steps hO
  obtain ⟨e1, e2, e3, e4, e5, e6⟩ := F.apart hO
  refine O_ext C2 C fun x y => ?_
  rw [look_flO F hO, look_flO F.rev hO]
  by_cases h1 : x = c ∧ y = d
  · rw [if_neg (by omega), if_neg (by omega), if_neg (by omega), if_pos h1, if_pos h1]
  rw [if_neg h1]
  by_cases h2 : x = d ∧ y = b
  · rw [if_neg (by omega), if_neg (by omega), if_neg (by omega), if_neg h1, if_pos h2, if_pos h2]
  rw [if_neg h2]
  by_cases h3 : x = b ∧ y = c
  · rw [if_neg (by omega), if_neg (by omega), if_neg (by omega), if_neg h1, if_neg h2, if_pos h3, if_pos h3]
  rw [if_neg h3, if_neg h1, if_neg h2, if_neg h3]
  by_cases h4 : x = d ∧ y = c
  · rw [if_pos h4, if_pos h4]
  rw [if_neg h4, if_neg h4]
  by_cases h5 : x = c ∧ y = a
  · rw [if_pos h5, if_pos h5]
  rw [if_neg h5, if_neg h5]
  by_cases h6 : x = a ∧ y = d
  · rw [if_pos h6, if_pos h6]
  rw [if_neg h6, if_neg h6]
  by_cases h7 : x = a ∧ y = b
  · rw [if_pos (.inr h7), if_pos (.inl h7)]
  by_cases h8 : x = b ∧ y = a
  · rw [if_pos (.inl h8), if_pos (.inr h8)]
  rw [if_neg (by omega), if_neg (by omega)]
theorem FL.ws {N n : Nat} (F : FL O a b c d) (h : WS N O n) : WS N (flO O a b c d) n := by
  obtain ⟨h1, C1, h2, C2, N1, C3, N2, C4⟩ := F.steps h.cyc
  obtain ⟨da, db, dc⟩ := h.dom _ _ _ F.hc
  have dd := (h.dom _ _ _ F.hd).2.2
  obtain ⟨W1, p1⟩ := h.del F.hc
  obtain ⟨W2, p2⟩ := W1.del h2.1
  have W3 := W2.put N1 dd dc da
  have W4 := W3.put N2 dc dd db
  have e : n - 1 - 1 + 1 + 1 = n := by omega
  rw [e] at W4
  exact W4
/-- turned over, it is another one -/
theorem FL.other {N : Nat} (F : FL O a b c d) (hO : Cyc O) (hd : DomO N O) : preO (flO O a b c d) N ≠ preO O N := by
  intro e
  obtain ⟨_, _, _, _, _, _, _, C⟩ := F.steps hO
  obtain ⟨e1, e2, e3, e4, e5, e6⟩ := F.apart hO
  have hc := (hd _ _ _ F.hc).2.2
  have hdd : DomO N (flO O a b c d) := fun x y z h => by
    rw [look_flO F hO] at h
    obtain ⟨da, db, dc⟩ := hd _ _ _ F.hc
    have dd := (hd _ _ _ F.hd).2.2
    repeat' split at h
    all_goals first | (cases h; omega) | (cases h) | exact hd _ _ _ h
  have h1 : lookH (flO O a b c d c) d = some b := by rw [look_flO F hO, if_pos (by omega)]
  obtain ⟨x, hx, hr⟩ := (rot_left (N := N) C hdd (t0 := c) (t1 := d) (t2 := b)).2 ⟨b, by rw [leftO_of hc]; exact h1, rfl⟩
  rw [e] at hx
  obtain ⟨z, hz, _⟩ := (rot_left (N := N) hO hd (t0 := c) (t1 := d) (t2 := b)).1 ⟨x, hx, hr⟩
  rw [leftO_of hc, F.n1] at hz
  cases hz
end
section
variable {X Y : Nat → Int}
theorem gT_aba (a b : Nat) : gT X Y a b a = 0 := by unfold gT; grind
theorem gT_abb (a b : Nat) : gT X Y a b b = 0 := by unfold gT; grind
theorem gT_bar3 (a c d f g k : Nat) : gT X Y c a k * gT X Y f g d + gT X Y a d k * gT X Y f g c + gT X Y d c k * gT X Y f g a = gT X Y f g k * gT X Y d c a := by unfold gT; grind
theorem gT_lin1 (u v w k p q : Nat) : gT X Y v w k * (gT X Y p q u - gT X Y p q v) = gT X Y v w u * (gT X Y p q k - gT X Y p q v) + ((X w - X v) * (Y q - Y p) - (Y w - Y v) * (X q - X p)) * gT X Y u v k := by unfold gT; grind
theorem gT_lin2 (u v w k p q : Nat) : gT X Y w u k * (gT X Y p q u - gT X Y p q v) = gT X Y w u v * (gT X Y p q u - gT X Y p q k) + ((X u - X w) * (Y q - Y p) - (Y u - Y w) * (X q - X p)) * gT X Y u v k := by unfold gT; grind
theorem nn_of_mul {x y : Int} (h : 0 ≤ x * y) (hy : 0 < y) : 0 ≤ x := by
  rcases Int.lt_or_le x 0 with h1 | h1
  · have := Int.mul_neg_of_neg_of_pos h1 hy; omega
  · exact h1
theorem fl_pos {a b c d : Nat} (h1 : 0 < gT X Y a b c) (h2 : 0 < gT X Y b a d) (hf : gT X Y d c a * gT X Y d c b < 0) : 0 < gT X Y d c a ∧ 0 < gT X Y c d b := by
  have e : gT X Y d c a + gT X Y c d b = gT X Y a b c + gT X Y b a d := by unfold gT; grind
  have e2 := gT_neg (X := X) (Y := Y) d c b
  rcases mul_neg_cases hf with ⟨h, h'⟩ | ⟨h, h'⟩ <;> omega
theorem fl_emp {N a b c d : Nat} (p : 0 < gT X Y a b c) (p' : 0 < gT X Y b a d) (q : 0 < gT X Y d c a) (q' : 0 < gT X Y c d b) (E1 : ∀ k, k < N → k ≠ a → k ≠ b → k ≠ c → ¬ (0 ≤ gT X Y a b k ∧ 0 ≤ gT X Y b c k ∧ 0 ≤ gT X Y c a k)) (E2 : ∀ k, k < N → k ≠ b → k ≠ a → k ≠ d → ¬ (0 ≤ gT X Y b a k ∧ 0 ≤ gT X Y a d k ∧ 0 ≤ gT X Y d b k)) :
    ∀ k, k < N → k ≠ d → k ≠ c → k ≠ a → ¬ (0 ≤ gT X Y d c k ∧ 0 ≤ gT X Y c a k ∧ 0 ≤ gT X Y a d k) := by
  rintro k hk nd nc na ⟨i1, i2, i3⟩
  have kb : k ≠ b := by
    intro e
    subst e
    have := gT_neg (X := X) (Y := Y) d c k
    omega
  rcases Int.le_total 0 (gT X Y a b k) with h | h
  · refine E1 k hk na kb nc ⟨h, nn_of_mul (y := gT X Y d c a) ?_ q, i2⟩
    have e := gT_bar3 (X := X) (Y := Y) a c d b c k
    have r1 : gT X Y b c d = gT X Y c d b := (gT_rot b c d).symm
    have r2 : gT X Y b c a = gT X Y a b c := gT_rot a b c
    have m1 := Int.mul_nonneg i2 (Int.le_of_lt q')
    have m2 := Int.mul_nonneg i1 (Int.le_of_lt p)
    rw [gT_abb, Int.mul_zero, r1, r2] at e
    omega
  · have hn := gT_neg (X := X) (Y := Y) a b k
    refine E2 k hk kb na nd ⟨by omega, i3, nn_of_mul (y := gT X Y d c a) ?_ q⟩
    have e := gT_bar3 (X := X) (Y := Y) a c d d b k
    have r1 : gT X Y d b c = gT X Y c d b := gT_rot c d b
    have r2 : gT X Y d b a = gT X Y b a d := (gT_rot d b a).symm
    have m1 := Int.mul_nonneg i3 (Int.le_of_lt q')
    have m2 := Int.mul_nonneg i1 (Int.le_of_lt p')
    rw [gT_aba, Int.mul_zero, r1, r2] at e
    omega
theorem fl_btw {u v w k p q : Nat} (h0 : 0 < gT X Y u v w) (hE : k ≠ w → ¬ (0 ≤ gT X Y u v k ∧ 0 ≤ gT X Y v w k ∧ 0 ≤ gT X Y w u k)) (hl : gT X Y u v k = 0) (h1 : gT X Y p q k < gT X Y p q u) (h2 : gT X Y p q v < gT X Y p q k) : False := by
  have hw : k ≠ w := by intro e; subst e; omega
  have e1 := gT_lin1 (X := X) (Y := Y) u v w k p q
  have e2 := gT_lin2 (X := X) (Y := Y) u v w k p q
  rw [hl, Int.mul_zero, Int.add_zero] at e1 e2
  have r1 : gT X Y v w u = gT X Y u v w := gT_rot u v w
  have r2 : gT X Y w u v = gT X Y u v w := (gT_rot w u v).symm
  rw [r1] at e1
  rw [r2] at e2
  have m1 := Int.mul_pos h0 (show 0 < gT X Y p q k - gT X Y p q v by omega)
  have m2 := Int.mul_pos h0 (show 0 < gT X Y p q u - gT X Y p q k by omega)
  exact hE hw ⟨by omega, nn_of_mul (y := gT X Y p q u - gT X Y p q v) (by omega) (by omega), nn_of_mul (y := gT X Y p q u - gT X Y p q v) (by omega) (by omega)⟩
/-- three numbers that balance -/
theorem bal_a {α β γ D C A : Int} (h : α * D + β * C + γ * A = 0) (hD : D < 0) (hC : 0 < C) (hA : 0 ≤ A) (hβ : 0 ≤ β) (hγ : 0 ≤ γ) : 0 ≤ α := by
  rcases Int.lt_or_le α 0 with h1 | h1
  · have m1 := Int.mul_pos_of_neg_of_neg h1 hD
    have m2 := Int.mul_nonneg hβ (Int.le_of_lt hC)
    have m3 := Int.mul_nonneg hγ hA
    omega
  · exact h1
theorem bal_b {α β γ D C A : Int} (h : α * D + β * C + γ * A = 0) (hD : D < 0) (hC : 0 < C) (hA : 0 < A) (hγ : γ < 0) (hs : 0 < α + β + γ) : 0 < β := by
  rcases Int.lt_or_le 0 β with h1 | h1
  · exact h1
  · have m1 := Int.mul_neg_of_pos_of_neg (show 0 < α by omega) hD
    have m2 := Int.mul_nonneg (show 0 ≤ -β by omega) (Int.le_of_lt hC)
    have m3 := Int.mul_neg_of_neg_of_pos hγ hA
    rw [Int.neg_mul] at m2
    omega
theorem fl_u {a c d u v : Nat} (q : 0 < gT X Y d c a) (hu : gT X Y c d u < 0) (hv : 0 < gT X Y c d v) (hl : gT X Y u v c * gT X Y u v d < 0) (n1 : ¬ fcg X Y a d u v) (n2 : ¬ fcg X Y c a u v)
    (hb : a ≠ u → ¬ (gT X Y u v a = 0 ∧ gT X Y d c a < gT X Y d c u ∧ gT X Y d c v < gT X Y d c a)) (hE : u ≠ a → ¬ (0 ≤ gT X Y d c u ∧ 0 ≤ gT X Y c a u ∧ 0 ≤ gT X Y a d u)) : u = a := by
 rcases Nat.decEq u a with hua | hua
 ·exfalso
  have e0 : gT X Y u v c - gT X Y u v d = gT X Y c d v - gT X Y c d u := by unfold gT; grind
  have du := gT_neg (X := X) (Y := Y) c d u
  have dv := gT_neg (X := X) (Y := Y) c d v
  have lc : 0 < gT X Y u v c ∧ gT X Y u v d < 0 := by
   rcases mul_neg_cases hl with h | h
   ·exact h
   ·omega
  obtain ⟨lc, ld⟩ := lc
  have bu := gT_bar3 (X := X) (Y := Y) a c d u v u
  have bv := gT_bar3 (X := X) (Y := Y) a c d u v v
  rw [gT_aba, Int.zero_mul] at bu
  rw [gT_abb, Int.zero_mul] at bv
  have su := gT_sum (X := X) (Y := Y) d c a u
  have sv := gT_sum (X := X) (Y := Y) d c a v
  have bu' : gT X Y a d u * gT X Y u v c + gT X Y c a u * gT X Y u v d + gT X Y d c u * gT X Y u v a = 0 := by omega
  rcases Int.lt_trichotomy (gT X Y u v a) 0 with hA | hA | hA
  ·rcases Int.lt_or_le (gT X Y c a u) 0 with h1 | h1
   ·have h2 : 0 < gT X Y c a v := by
     rcases Int.lt_or_le 0 (gT X Y c a v) with h3 | h3
     ·exact h3
     ·have m1 := Int.mul_nonneg (show 0 ≤ -gT X Y c a v by omega) (show 0 ≤ -gT X Y u v d by omega)
      have m2 := Int.mul_pos (show 0 < gT X Y a d v by omega) lc
      have m3 := Int.mul_pos_of_neg_of_neg (show gT X Y d c v < 0 by omega) hA
      rw [Int.neg_mul_neg] at m1
      omega
    exact n2 ⟨Int.mul_neg_of_neg_of_pos h1 h2, Int.mul_neg_of_pos_of_neg lc hA⟩
   ·have h2 : 0 ≤ gT X Y a d u := by
     rcases Int.lt_or_le (gT X Y a d u) 0 with h3 | h3
     ·have m1 := Int.mul_nonneg h1 (show 0 ≤ -gT X Y u v d by omega)
      have m2 := Int.mul_neg_of_neg_of_pos h3 lc
      have m3 := Int.mul_neg_of_pos_of_neg (show 0 < gT X Y d c u by omega) hA
      rw [Int.mul_neg] at m1
      omega
     ·exact h3
    exact hE hua ⟨by omega, h1, h2⟩
  ·rw [hA, Int.mul_zero, Int.add_zero] at bu
   rcases Int.lt_or_le (gT X Y c a u) 0 with h1 | h1
   ·have h2 : gT X Y a d u < 0 := by
     rcases Int.lt_or_le (gT X Y a d u) 0 with h3 | h3
     ·exact h3
     ·have m1 := Int.mul_pos_of_neg_of_neg h1 ld
      have m2 := Int.mul_nonneg h3 (Int.le_of_lt lc)
      omega
    exact hb (fun e => hua e.symm) ⟨hA, by omega, by omega⟩
   ·have h2 : 0 ≤ gT X Y a d u := by
     rcases Int.lt_or_le (gT X Y a d u) 0 with h3 | h3
     ·have m1 := Int.mul_nonneg h1 (show 0 ≤ -gT X Y u v d by omega)
      have m2 := Int.mul_neg_of_neg_of_pos h3 lc
      rw [Int.mul_neg] at m1
      omega
     ·exact h3
    exact hE hua ⟨by omega, h1, h2⟩
  ·rcases Int.lt_or_le (gT X Y a d u) 0 with h1 | h1
   ·have h2 : 0 < gT X Y a d v := bal_b bv ld lc hA (by omega) (by omega)
    exact n1 ⟨Int.mul_neg_of_neg_of_pos h1 h2, Int.mul_neg_of_pos_of_neg hA ld⟩
   ·have h2 : 0 ≤ gT X Y c a u := bal_a bu ld lc (Int.le_of_lt hA) h1 (by omega)
    exact hE hua ⟨by omega, h2, h1⟩
 ·exact hua
end
end Go.Proofs.Ytdlpfiiakmhnlaa

namespace Go.Proofs.Ytdlpfiiakmhnlaa
open Go.RowKit

/-- an edge, whichever way -/
def edg (O : Nat → List (Nat × Nat)) (u v : Nat) : Prop := (∃ w : Nat, lookH (O u) v = some w) ∨ (∃ w : Nat, lookH (O v) u = some w)
section
variable {N n : Nat} {X Y : Nat → Int} {O : Nat → List (Nat × Nat)} {H : List Nat} {a b c d : Nat}
theorem edg_lt (hd : DomO N O) {u v : Nat} (e : edg O u v) : u < N ∧ v < N := by
  rcases e with ⟨w, h⟩ | ⟨w, h⟩
  · exact ⟨(hd _ _ _ h).1, (hd _ _ _ h).2.1⟩
  · exact ⟨(hd _ _ _ h).2.1, (hd _ _ _ h).1⟩
theorem GO.noe (G : GO N X Y O H) {p q u v : Nat} (h : edg O p q) (e : edg O u v) : ¬ fcg X Y p q u v := by
  rcases h with ⟨r, h⟩ | ⟨r, h⟩ <;> rcases e with ⟨w, h'⟩ | ⟨w, h'⟩
  · exact G.nox _ _ _ _ _ _ h h'
  · exact fun f => G.nox _ _ _ _ _ _ h h' (fcg_swap2 f)
  · exact fun f => G.nox _ _ _ _ _ _ h h' (fcg_swap f)
  · exact fun f => G.nox _ _ _ _ _ _ h h' (fcg_swap (fcg_swap2 f))
theorem GO.btw (G : GO N X Y O H) {u v k p q : Nat} (e : edg O u v) (hk : k < N) (n1 : k ≠ u) (n2 : k ≠ v) (hl : gT X Y u v k = 0) (h1 : gT X Y p q k < gT X Y p q u) (h2 : gT X Y p q v < gT X Y p q k) : False := by
  rcases e with ⟨w, h⟩ | ⟨w, h⟩
  · exact fl_btw (G.pos _ _ _ h) (fun n3 => G.emp _ _ _ h k hk n1 n2 n3) hl h1 h2
  · have e0 := gT_neg (X := X) (Y := Y) u v k
    have e1 := gT_neg (X := X) (Y := Y) p q k
    have e2 := gT_neg (X := X) (Y := Y) p q u
    have e3 := gT_neg (X := X) (Y := Y) p q v
    exact fl_btw (p := q) (q := p) (G.pos _ _ _ h) (fun n3 => G.emp _ _ _ h k hk n2 n1 n3) (by omega) (by omega) (by omega)
theorem GO.fl (G : GO N X Y O H) (hc : lookH (O a) b = some c) (hd : lookH (O b) a = some d) (hf : gT X Y d c a * gT X Y d c b < 0) : FL O a b c d := by
  have p := G.pos _ _ _ hc
  have p' := G.pos _ _ _ hd
  have e1 := gT_neg (X := X) (Y := Y) a b d
  have e2 := gT_neg (X := X) (Y := Y) d c a
  have e3 := gT_neg (X := X) (Y := Y) d c b
  have hfc : fcg X Y a b c d := ⟨Int.mul_neg_of_pos_of_neg p (by omega), by rw [e2, e3, Int.neg_mul_neg]; exact hf⟩
  refine ⟨hc, hd, fun e => ?_, ?_, ?_⟩
  · subst e; omega
  · cases e : lookH (O c) (d : Nat) with
    | none => rfl
    | some z => exact absurd hfc (G.nox _ _ _ _ _ _ hc e)
  · cases e : lookH (O d) (c : Nat) with
    | none => rfl
    | some z => exact absurd (fcg_swap2 hfc) (G.nox _ _ _ _ _ _ hc e)
theorem GO.cd1 (G : GO N X Y O H) (hO : Cyc O) (hdm : DomO N O) (hc : lookH (O a) b = some c) (hd : lookH (O b) a = some d) (hf : gT X Y d c a * gT X Y d c b < 0) {u v : Nat} (e : edg O u v) (f : fcg X Y c d u v) (hu : gT X Y c d u < 0) (hv : 0 < gT X Y c d v) : u = a ∧ v = b := by
  have p := G.pos _ _ _ hc
  have p' := G.pos _ _ _ hd
  obtain ⟨q, q'⟩ := fl_pos p p' hf
  obtain ⟨lu, lv⟩ := edg_lt hdm e
  have c1 := hO.rot _ _ _ hc
  have c2 := hO.rot _ _ _ c1
  have d1 := hO.rot _ _ _ hd
  have d2 := hO.rot _ _ _ d1
  have la := (hdm _ _ _ hc).1
  have lb := (hdm _ _ _ hc).2.1
  have E1 := fun k hk n1 n2 n3 => G.emp _ _ _ hc k hk n1 n2 n3
  have E2 := fun k hk n1 n2 n3 => G.emp _ _ _ hd k hk n1 n2 n3
  have e' : edg O v u := e.elim .inr .inl
  have s1 : fcg X Y c d v u := fcg_swap2 f
  have zd := gT_abb (X := X) (Y := Y) c d
  have zc := gT_aba (X := X) (Y := Y) c d
  have nud : u ≠ d := by intro e; subst e; omega
  have nuc : u ≠ c := by intro e; subst e; omega
  have nvd : v ≠ d := by intro e; subst e; omega
  have nvc : v ≠ c := by intro e; subst e; omega
  have x1 := gT_neg (X := X) (Y := Y) c d u
  have x2 := gT_neg (X := X) (Y := Y) c d v
  have x3 := gT_neg (X := X) (Y := Y) c d a
  have x4 := gT_neg (X := X) (Y := Y) c d b
  have x5 := gT_neg (X := X) (Y := Y) u v b
  refine ⟨fl_u (c := c) (d := d) (v := v) q hu hv f.2 (G.noe (.inl ⟨_, d1⟩) e) (G.noe (.inl ⟨_, c2⟩) e) ?_ ?_, fl_u (c := d) (d := c) (v := u) q' (by omega) (by omega) ?_ (G.noe (.inl ⟨_, c1⟩) e') (G.noe (.inl ⟨_, d2⟩) e') ?_ ?_⟩
  · rintro hau ⟨h1, h2, h3⟩
    have hav : a ≠ v := by intro e; subst e; omega
    exact G.btw e la hau hav h1 h2 h3
  · exact fun hua => fl_emp p p' q q' E1 E2 u lu nud nuc hua
  · have y1 := gT_neg (X := X) (Y := Y) u v c
    have y2 := gT_neg (X := X) (Y := Y) u v d
    rw [y1, y2, Int.neg_mul_neg, Int.mul_comm]; exact f.2
  · rintro hbv ⟨h1, h2, h3⟩
    have hbu : b ≠ u := by intro e; subst e; omega
    exact G.btw e' lb hbv hbu h1 h2 h3
  · exact fun hvb => fl_emp p' p q' q E2 E1 v lv nvc nvd hvb
theorem GO.cdno (G : GO N X Y O H) (hO : Cyc O) (hdm : DomO N O) (hc : lookH (O a) b = some c) (hd : lookH (O b) a = some d) (hf : gT X Y d c a * gT X Y d c b < 0) {u v : Nat} (e : edg O u v) (f : fcg X Y c d u v) : (u = a ∧ v = b) ∨ (u = b ∧ v = a) := by
  rcases mul_neg_cases f.1 with ⟨h1, h2⟩ | ⟨h1, h2⟩
  · obtain ⟨e1, e2⟩ := G.cd1 hO hdm hc hd hf (e.elim .inr .inl) (fcg_swap2 f) h2 h1
    exact .inr ⟨e2, e1⟩
  · exact .inl (G.cd1 hO hdm hc hd hf e f h1 h2)
theorem FL.cases (F : FL O a b c d) (hO : Cyc O) {x y z : Nat} (h : lookH (flO O a b c d x) y = some z) : (x = c ∧ y = d ∧ z = b) ∨ (x = d ∧ y = b ∧ z = c) ∨ (x = b ∧ y = c ∧ z = d) ∨ (x = d ∧ y = c ∧ z = a) ∨ (x = c ∧ y = a ∧ z = d) ∨ (x = a ∧ y = d ∧ z = c) ∨ (lookH (O x) y = some z ∧ ¬ (x = a ∧ y = b) ∧ ¬ (x = b ∧ y = a)) := by
  rw [look_flO F hO] at h
  by_cases h1 : x = c ∧ y = d
  · rw [if_pos h1] at h; cases h; exact .inl ⟨h1.1, h1.2, rfl⟩
  rw [if_neg h1] at h
  by_cases h2 : x = d ∧ y = b
  · rw [if_pos h2] at h; cases h; exact .inr (.inl ⟨h2.1, h2.2, rfl⟩)
  rw [if_neg h2] at h
  by_cases h3 : x = b ∧ y = c
  · rw [if_pos h3] at h; cases h; exact .inr (.inr (.inl ⟨h3.1, h3.2, rfl⟩))
  rw [if_neg h3] at h
  by_cases h4 : x = d ∧ y = c
  · rw [if_pos h4] at h; cases h; exact .inr (.inr (.inr (.inl ⟨h4.1, h4.2, rfl⟩)))
  rw [if_neg h4] at h
  by_cases h5 : x = c ∧ y = a
  · rw [if_pos h5] at h; cases h; exact .inr (.inr (.inr (.inr (.inl ⟨h5.1, h5.2, rfl⟩))))
  rw [if_neg h5] at h
  by_cases h6 : x = a ∧ y = d
  · rw [if_pos h6] at h; cases h; exact .inr (.inr (.inr (.inr (.inr (.inl ⟨h6.1, h6.2, rfl⟩)))))
  rw [if_neg h6] at h
  by_cases h7 : (x = a ∧ y = b) ∨ (x = b ∧ y = a)
  · rw [if_pos h7] at h; cases h
  · rw [if_neg h7] at h
    exact .inr (.inr (.inr (.inr (.inr (.inr ⟨h, fun e => h7 (.inl e), fun e => h7 (.inr e)⟩)))))
theorem FL.edge (F : FL O a b c d) (hO : Cyc O) {x y z : Nat} (h : lookH (flO O a b c d x) y = some z) : (edg O x y ∧ ¬ (x = a ∧ y = b) ∧ ¬ (x = b ∧ y = a)) ∨ (x = c ∧ y = d) ∨ (x = d ∧ y = c) := by
  obtain ⟨e1, e2, e3, e4, e5, e6⟩ := F.apart hO
  have c1 := hO.rot _ _ _ F.hc
  have c2 := hO.rot _ _ _ c1
  have d1 := hO.rot _ _ _ F.hd
  have d2 := hO.rot _ _ _ d1
  rcases F.cases hO h with h | h | h | h | h | h | h
  · exact .inr (.inl ⟨h.1, h.2.1⟩)
  · exact .inl ⟨by rw [h.1, h.2.1]; exact .inl ⟨_, d2⟩, by omega, by omega⟩
  · exact .inl ⟨by rw [h.1, h.2.1]; exact .inl ⟨_, c1⟩, by omega, by omega⟩
  · exact .inr (.inr ⟨h.1, h.2.1⟩)
  · exact .inl ⟨by rw [h.1, h.2.1]; exact .inl ⟨_, c2⟩, by omega, by omega⟩
  · exact .inl ⟨by rw [h.1, h.2.1]; exact .inl ⟨_, d1⟩, by omega, by omega⟩
  · exact .inl ⟨.inl ⟨_, h.1⟩, h.2.1, h.2.2⟩
theorem FL.area (F : FL O a b c d) (h : WS N O n) : arT X Y (preO (flO O a b c d) N) = arT X Y (preO O N) := by
  obtain ⟨h1, C1, h2, C2, N1, C3, N2, C4⟩ := F.steps h.cyc
  obtain ⟨e1, e2, e3, e4, e5, e6⟩ := F.apart h.cyc
  obtain ⟨da, db, dc⟩ := h.dom _ _ _ F.hc
  have dd := (h.dom _ _ _ F.hd).2.2
  have k1 : arT X Y (preO O N) = arT X Y (preO (delT O a b c) N) + gT X Y a b c := by
    rw [← pre_arT da db dc e1 e2 e3, put_del h.cyc F.hc]
  have k2 : arT X Y (preO (delT O a b c) N) = arT X Y (preO (delT (delT O a b c) b a d) N) + gT X Y b a d := by
    rw [← pre_arT db da dd (fun e => e1 e.symm) (fun e => e4 e.symm) (fun e => e5 e.symm), put_del C1 h2.1]
  have k3 : arT X Y (preO (flO O a b c d) N) = arT X Y (preO (delT (delT O a b c) b a d) N) + gT X Y d c a + gT X Y c d b := by
    unfold flO
    rw [pre_arT dc dd db e6 e5 (fun e => e2 e.symm), pre_arT dd dc da (fun e => e6 e.symm) (fun e => e3 e.symm) e4]
  have e : gT X Y d c a + gT X Y c d b = gT X Y a b c + gT X Y b a d := by unfold gT; grind
  omega
/-- turned over, it is a triangulation -/
theorem GO.flip (G : GO N X Y O H) (hw : WS N O n) (hc : lookH (O a) b = some c) (hd : lookH (O b) a = some d) (hf : gT X Y d c a * gT X Y d c b < 0) : GO N X Y (flO O a b c d) H := by
 have F := G.fl hc hd hf
 have hO := hw.cyc
 have p := G.pos _ _ _ hc
 have p' := G.pos _ _ _ hd
 obtain ⟨q, q'⟩ := fl_pos p p' hf
 have E1 := fun k hk n1 n2 n3 => G.emp _ _ _ hc k hk n1 n2 n3
 have E2 := fun k hk n1 n2 n3 => G.emp _ _ _ hd k hk n1 n2 n3
 have E := fl_emp p p' q q' E1 E2
 have E' := fl_emp p' p q' q E2 E1
 refine ⟨fun x y z h => ?_, fun x y z h k hk n1 n2 n3 => ?_, fun x y z x' y' z' h h' f => ?_, fun k hk => ?_, ?_⟩
 ·rcases F.cases hO h with ⟨rfl, rfl, rfl⟩ | ⟨rfl, rfl, rfl⟩ | ⟨rfl, rfl, rfl⟩ | ⟨rfl, rfl, rfl⟩ | ⟨rfl, rfl, rfl⟩ | ⟨rfl, rfl, rfl⟩ | ⟨h, _⟩
  ·exact q'
  ·rw [gT_rot]; exact q'
  ·rw [← gT_rot]; exact q'
  ·exact q
  ·rw [gT_rot]; exact q
  ·rw [← gT_rot]; exact q
  ·exact G.pos _ _ _ h
 ·rcases F.cases hO h with ⟨rfl, rfl, rfl⟩ | ⟨rfl, rfl, rfl⟩ | ⟨rfl, rfl, rfl⟩ | ⟨rfl, rfl, rfl⟩ | ⟨rfl, rfl, rfl⟩ | ⟨rfl, rfl, rfl⟩ | ⟨h, _⟩
  ·exact E' k hk n1 n2 n3
  ·exact fun hh => E' k hk n3 n1 n2 ⟨hh.2.2, hh.1, hh.2.1⟩
  ·exact fun hh => E' k hk n2 n3 n1 ⟨hh.2.1, hh.2.2, hh.1⟩
  ·exact E k hk n1 n2 n3
  ·exact fun hh => E k hk n3 n1 n2 ⟨hh.2.2, hh.1, hh.2.1⟩
  ·exact fun hh => E k hk n2 n3 n1 ⟨hh.2.1, hh.2.2, hh.1⟩
  ·exact G.emp _ _ _ h k hk n1 n2 n3
 ·have no : ∀ {u v : Nat}, edg O u v → ¬ (u = a ∧ v = b) → ¬ (u = b ∧ v = a) → ¬ fcg X Y c d u v := fun e1 e2 e3 f => by
   rcases G.cdno hO hw.dom hc hd hf e1 f with h | h
   ·exact e2 h
   ·exact e3 h
  rcases F.edge hO h with ⟨e1, e2, e3⟩ | ⟨rfl, rfl⟩ | ⟨rfl, rfl⟩ <;> rcases F.edge hO h' with ⟨f1, f2, f3⟩ | ⟨rfl, rfl⟩ | ⟨rfl, rfl⟩
  ·exact G.noe e1 f1 f
  ·exact no e1 e2 e3 (fcg_sym f)
  ·exact no e1 e2 e3 (fcg_sym (fcg_swap2 f))
  ·exact no f1 f2 f3 f
  ·exact fcg_share (.inl rfl) f
  ·exact fcg_share (.inr (.inl rfl)) f
  ·exact no f1 f2 f3 (fcg_swap f)
  ·exact fcg_share (.inr (.inl rfl)) f
  ·exact fcg_share (.inl rfl) f
 ·obtain ⟨e1, e2, e3, e4, e5, e6⟩ := F.apart hO
  by_cases ha : k = a
  ·exact ⟨d, c, by rw [look_flO F hO, if_neg (by omega), if_neg (by omega), if_neg (by omega), if_neg (by omega), if_neg (by omega), if_pos (by omega)]⟩
  by_cases hb : k = b
  ·exact ⟨c, d, by rw [look_flO F hO, if_neg (by omega), if_neg (by omega), if_pos (by omega)]⟩
  by_cases hkc : k = c
  ·exact ⟨d, b, by rw [look_flO F hO, if_pos (by omega)]⟩
  by_cases hkd : k = d
  ·exact ⟨b, c, by rw [look_flO F hO, if_neg (by omega), if_pos (by omega)]⟩
  obtain ⟨y, z, h⟩ := G.use k hk
  exact ⟨y, z, by rw [look_flO F hO, if_neg (by omega), if_neg (by omega), if_neg (by omega), if_neg (by omega), if_neg (by omega), if_neg (by omega), if_neg (by omega)]; exact h⟩
 ·rw [F.area hw]; exact G.area
end
end Go.Proofs.Ytdlpfiiakmhnlaa

namespace Go.Proofs.Ytdlpfiiakmhnlaa
open Go.RowKit

def DK (O : Nat → List (Nat × Nat)) (a b c : Nat) : Nat → Nat → List (Nat × Nat)
  | 0 => O
  | 1 => del1 O a b
  | 2 => del1 (del1 O a b) b c
  | _ => delT O a b c
set_option maxRecDepth 100000 in
set_option maxHeartbeats 4000000 in
theorem Del_yes (t : Nat) (D : SD) (N : Nat) (X Y : Nat → Int) (O : Nat → List (Nat × Nat)) (n : Int) (a b c : Nat) (w : World) (h : SM w t D N X Y O n) (na : a < N) (nb : b < N) (nc : c < N) (hab : a ≠ b) (hbc : b ≠ c) (hac : a ≠ c)
    (hT : HasT O (a, b, c)) (hn : 0 ≤ n ∧ n < 1000000000) :
    Calls Try.prog 33 #[ptr t 0, tI a b c] w fun e w' => e = .returned (.int .i64 0) ∧ ∃ D', SM w' t D' N X Y (delT O a b c) (n - 1) ∧ Fr w w' (D.has t N) ∧ (∀ g, D'.has t N g → D.has t N g ∨ w.heap.size ≤ g) ∧ D'.po = D.po := by
 have HM := Lib.hid h
 obtain ⟨f1, f2, f3⟩ := hT
 simp only at f1 f2 f3
 have hlf : leftO N O (a : Nat) (b : Nat) = some c := (leftO_of na).trans f1
 have HA0 : Hid (lookH (DK O a b c 0 a) b = some c) := f1
 have HA1 : Hid (lookH (DK O a b c 1 b) c = some a) := by
  refine Lib.hid ?_
  show lookH (del1 O a b b) c = some a
  rw [look_del1, if_neg (by omega)]; exact f2
 have HA2 : Hid (lookH (DK O a b c 2 c) a = some b) := by
  refine Lib.hid ?_
  show lookH (del1 (del1 O a b) b c c) a = some b
  rw [look_del1, if_neg (by omega), look_del1, if_neg (by omega)]; exact f3
 have HLF := Lib.hid hlf
 clear h f1 f2 f3 hlf
 go_enter Try.func33, Try.ntmps33
 go_wp2_with fail
 refine calls_w ?_
 intro V hV
 have hb0 : Below w.heap.size w V := by rw [hV]; exact below_a1 _ _
 have KB : Hid (Blk V w.heap.size #[.int .i64 (a : Nat), .int .i64 (b : Nat), .int .i64 (c : Nat)] 36) := by rw [hV]; exact Lib.hid (Blk.new w _ _)
 clear hV
 refine (Left_is t D N X Y O n a b V (HM.out.of hb0) _ HLF.out).mono ?_
 rintro e V2 ⟨rfl, hb2⟩
 have kb := KB.out.of hb2
 have hb1 := hb0.trans (hb2.mono hb0.size)
 have k0 := kb.cell 0
 have k1 := kb.cell 1
 have k2 := kb.cell 2
 have lk := kb.lt
 have HB1 := Lib.hid hb1
 clear hb0 hb2 hb1 KB kb
 go_wp2_with fail
 refine (sides_is a b c _).mono ?_
 rintro e W1 ⟨rfl, hn1⟩
 have hb1 := HB1.out.trans (hn1.mono HB1.out.size)
 have HM1 := Lib.hid (HM.out.of hb1)
 clear hn1 k0 k1 k2 lk HB1 HLF
 go_wp2_with fail
 go_loopg [30] 3 (fun gk s10 wr => ∃ (k : Nat) (Dk : SD), s10 = .int .i64 k ∧ k ≤ 3 ∧ 3 - k ≤ gk ∧ Hid (SM wr t Dk N X Y (DK O a b c k) n) ∧ Hid (Fr w wr (D.has t N)) ∧ Hid (∀ g, Dk.has t N g → D.has t N g ∨ w.heap.size ≤ g) ∧ Dk.po = D.po)
 case atStart => exact ⟨0, D, rfl, by omega, by omega, HM1, Lib.hid (Fr.ofBelow hb1), Lib.hid fun g hg => .inl hg, rfl⟩
 case round =>
  clear HM1 hb1 HM
  obtain ⟨k, Dk, rfl, hk, hg, HM, HF, HH, hpo⟩ := hrel
  rcases (show k = 0 ∨ k = 1 ∨ k = 2 ∨ k = 3 by omega) with rfl | rfl | rfl | rfl
  ·have hix : ∀ w, Sem.run Try.prog (Instr.index 96 (sI a b c) (.int .i64 0)) w = .ok (tI a b c) w := fun w => side_at a b c 0 (by omega) w
   go_wp2_with fail
   refine name_world ?_
   intro W2 hW2
   have kt : Blk W2 wr.heap.size #[.int .i64 (a : Nat), .int .i64 (b : Nat), .int .i64 (c : Nat)] 36 := by rw [hW2]; exact Blk.new wr _ _
   have hbw : Below wr.heap.size wr W2 := by rw [hW2]; exact below_a1 wr _
   clear hW2
   have HM2 := Lib.hid (HM.out.of hbw)
   have HF2 := Lib.hid (HF.out.trans (Fr.ofBelow (S := fun _ => False) hbw) (fun b hb => hb.elim))
   have KT := Lib.hid kt
   have hsz2 : wr.heap.size ≤ W2.heap.size := hbw.size
   clear hbw kt HM HF
   obtain ⟨c0, c1, c2⟩ := HM2.out.c
   obtain ⟨v, hv⟩ : ∃ v, Dk.V a = v := ⟨_, rfl⟩
   have cr := HM2.out.row na
   have hrow := HM2.out.rows a na
   rw [hv] at cr hrow
   obtain ⟨ob, hob⟩ : ∃ ob, Dk.ob = ob := ⟨_, rfl⟩
   rw [hob] at cr c1
   have HROW := Lib.hid hrow
   have HSR := Lib.hid (HM2.out.sort a na)
   have hln := HM2.out.len a na
   have hsm := HM2.out.small
   have k0 := KT.out.cell 0
   have k1 := KT.out.cell 1
   have k2 := KT.out.cell 2
   have lt := HM2.out.lt (b := t) (.inl rfl)
   have lo : ob < W2.heap.size := by rw [← hob]; exact HM2.out.lt (.inr (.inl rfl))
   have lk := KT.out.lt
   have HV := Lib.hid (And.intro hv hob)
   clear hrow hv hob
   refine wp_region_up W2.heap.size 16 [(true, 0), (true, 1), (true, 2), (true, 3), (true, 4), (true, 5), (true, 6), (true, 7), (true, 8), (true, 9), (true, 10), (false, 11), (true, 12), (true, 13), (true, 14), (true, 15)] (by kernel_rfl) (by kernel_rfl) (fun _ _ d _ _ h => by cases d <;> exact h) ?_
   have hb : Below W2.heap.size W2 W2.drew := (Below.refl _ _).drew
   iterate 11
    first | refine wpS_takeL rfl rfl ?_ | refine wpS_takeN rfl ⟨_, rfl⟩ ?_
    go_big_quiet_step (rfl)
    refine wpQuiet_nil ?_
   refine wpS_doL rfl ?_
   intro K hK
   go_wp2_with ((go_at_call 52; (refine (Find_h 0 v ((DK O a b c 0) a) b 0 _ (HROW.out.of hb) HSR.out hln).mono ?_); rintro e w2 ⟨i, ok, rfl, hn, hi, hj, hok⟩))
   replace hb := hb.trans (hn.mono hb.size)
   refine hK.out _ _ (up_iff.2 hb) ?_
   clear hK K
   clear hn
   iterate 4
    first | refine wpS_takeL rfl rfl ?_ | refine wpS_takeN rfl ⟨_, rfl⟩ ?_
    go_big_quiet_step (rfl)
    refine wpQuiet_nil ?_
   refine wpS_nil ?_
   simp only [List.drop_succ_cons, List.drop_zero]
   have hmem := (look_mem HSR.out).2 HA0.out
   obtain ⟨jj, hjj⟩ := List.mem_iff_getElem?.1 hmem
   have hji : jj = i := by
    rcases Nat.lt_or_ge jj i with h | h
    ·have := (hj jj _ hjj).1 h
     have h2 : (b : Int) < (b : Int) := this
     omega
    ·rcases Nat.lt_or_ge i jj with h2 | h2
     ·have h3 : i < ((DK O a b c 0) a).length := by have := (List.getElem?_eq_some_iff.1 hjj).1; omega
      have h4 := (hj i _ (List.getElem?_eq_getElem h3)).2 (Nat.le_refl _)
      have h5 := HSR.out i jj _ _ h2 (List.getElem?_eq_getElem h3) hjj
      have h6 : ((DK O a b c 0) a)[i].1 < b := h5
      omega
     ·omega
   have hok2 : ok = true := hok.2 ⟨_, by rw [← hji]; exact hjj, rfl⟩
   rw [hji] at hjj
   have hil := (List.getElem?_eq_some_iff.1 hjj).1
   have HJ := Lib.hid hjj
   subst hok2
   clear hmem hji
   have HM4 := Lib.hid (HM2.out.of hb)
   have HF4 := Lib.hid (HF2.out.trans (Fr.ofBelow (S := fun _ => False) hb) (fun b hb => hb.elim))
   have HROW4 := Lib.hid (HROW.out.of hb)
   have KT4 := Lib.hid (KT.out.of hb)
   have hsz4 := Nat.le_trans hsz2 hb.size
   clear hb HM2 HF2 HROW KT c0 c1 c2 cr k0 k1 k2 lt lo lk hsz2 hj hok
   obtain ⟨c0, c1, c2⟩ := HM4.out.c
   have cr := HM4.out.row na
   rw [HV.out.2] at c1 cr
   rw [HV.out.1] at cr
   have k0 := KT4.out.cell 0
   have k1 := KT4.out.cell 1
   have k2 := KT4.out.cell 2
   have lt := HM4.out.lt (b := t) (.inl rfl)
   have lo : ob < w2.heap.size := by rw [← HV.out.2]; exact HM4.out.lt (.inr (.inl rfl))
   have lk := KT4.out.lt
   go_wp2_with fail
   obtain ⟨RL, hRL⟩ : ∃ RL, v.ownBlock.toList = RL := ⟨_, rfl⟩
   have hown : ∀ g, v.ownBlock = some g → g ≠ t ∧ g ≠ ob ∧ g ≠ wr.heap.size ∧ g < w2.heap.size := by
    intro g hgg
    obtain ⟨e1, e2, e3⟩ := HM4.out.rowne na (by rw [HV.out.1]; exact hgg)
    refine ⟨e1, by rw [← HV.out.2]; exact e2, fun e => ?_, e3⟩
    subst e
    exact absurd (HROW4.out.typ hgg KT4.out) (by decide)
   have nt : t ∉ RL := by rw [← hRL]; intro h; exact (hown t (by simpa using h)).1 rfl
   have no : ob ∉ RL := by rw [← hRL]; intro h; exact (hown ob (by simpa using h)).2.1 rfl
   have nk : wr.heap.size ∉ RL := by rw [← hRL]; intro h; exact (hown _ (by simpa using h)).2.2.1 rfl
   have HRL := Lib.hid hRL
   have HOWN := Lib.hid hown
   clear hRL hown
   have hic : (((DK O a b c 0) a).length : Int) ≤ 4096 := by
    have := sort_len HSR.out fun x hx => (HM4.out.dom a na x hx).1
    omega
   have hi1 : (i : Int) ≤ 4096 := by omega
   have hi2 : i ≤ 4096 := by omega
   have HIL := Lib.hid hil
   clear hic hjj hil
   refine wp_region_upl RL 18 [(true, 0), (true, 1), (true, 2), (true, 3), (true, 4), (true, 5), (true, 6), (true, 7), (true, 8), (true, 9), (true, 10), (true, 11), (true, 12), (true, 13), (true, 14), (true, 15), (true, 16), (false, 17)] (by kernel_rfl) (by kernel_rfl) (fun _ _ d _ _ h => by cases d <;> exact h) ?_
   have hb : OutL RL w2 w2.drew := (OutL.refl _ _).drew
   iterate 17
    first | refine wpS_takeL rfl rfl ?_ | refine wpS_takeN rfl ⟨_, rfl⟩ ?_
    go_big_quiet_step (rfl)
    refine wpQuiet_nil ?_
   refine wpS_doL rfl ?_
   intro K hK
   go_wp2_with fail
   refine (Delete_h 0 v ((DK O a b c 0) a) i w2.drew HROW4.out.drew HIL.out hln).mono ?_
   rintro e W5 ⟨v', rfl, hr5, hg5, hl5⟩
   obtain ⟨ao', cap', hv', _, _, _⟩ := hr5.val
   obtain ⟨nn, hnn⟩ : ∃ nn, (List.take i ((DK O a b c 0) a) ++ List.drop (i + 1) ((DK O a b c 0) a)).length = nn := ⟨_, rfl⟩
   rw [hnn] at hv'
   subst hv'
   clear hnn
   have hbo5 : OutL RL w2 W5 := hb.trans ⟨hg5.os, hg5.tape, hg5.output, hg5.size, fun k hk hc => hg5.block k hk fun e => hc (by rw [← HRL.out, ← e]; simp)⟩
   go_wp2_with fail
   refine hK.out _ _ (upl hbo5) ?_
   clear hK K
   have hfc : w2.cell? ⟨ob, a, none⟩ = some v := cr
   have cr5 : W5.cell? ⟨ob, a, none⟩ = some v := (World.cell?_of_block (a := ⟨ob, a, none⟩) (hbo5.block ob lo no)).trans hfc
   have fr5 : W5.frozen? ⟨ob, a, none⟩ = false := (World.frozen?_of_block (a := ⟨ob, a, none⟩) (hbo5.block ob lo no)).trans (by rw [← HV.out.2]; exact HM4.out.outf a)
   have hin := SM.set HM4.out na (v' := .slice ao' nn cap') (L' := delH b ((DK O a b c 0) a)) (w1 := W5) (by rw [← delH_at HSR.out HJ.out]; exact hr5) (by rw [HV.out.1]; exact ⟨hg5.os, hg5.tape, hg5.output, hg5.size, hg5.block⟩) (by rw [HV.out.1]; exact hl5) rfl (fun u hu => HM4.out.dom a na u (delH_sub hu)) (delH_sort HSR.out)
   rw [HV.out.2] at hin
   have HIN := Lib.hid hin
   have HFX := HF4
   clear hin hb hr5 hg5 hl5 hbo5 hfc c0 c1 c2 cr k0 k1 k2 lt lo lk nt no nk HJ HSR HM4 HROW4 HOWN HRL KT4 hi hln HIL hi1 hi2
   refine wpS_nil ?_
   simp only [List.drop_succ_cons, List.drop_zero]
   go_wp2_with fail
   go_roundg (2 - 0)
   case measure => omega
   case rel =>
    obtain ⟨D', h1, h2, h3, h4⟩ := HIN.out
    refine ⟨0 + 1, D', by rfl, by omega, by omega, Lib.hid h1, Lib.hid (HFX.out.trans h2 (fun b hb => ?_)), Lib.hid (fun g hgg => ?_), h4.trans hpo⟩
    ·exact HH.out b hb
    ·rcases h3 g hgg with h5 | h5
     ·exact HH.out g h5
     ·exact .inr (Nat.le_trans HFX.out.size h5)
  ·have hix : ∀ w, Sem.run Try.prog (Instr.index 96 (sI a b c) (.int .i64 1)) w = .ok (tI b c a) w := fun w => side_at a b c 1 (by omega) w
   go_wp2_with fail
   refine name_world ?_
   intro W2 hW2
   have kt : Blk W2 wr.heap.size #[.int .i64 (b : Nat), .int .i64 (c : Nat), .int .i64 (a : Nat)] 36 := by rw [hW2]; exact Blk.new wr _ _
   have hbw : Below wr.heap.size wr W2 := by rw [hW2]; exact below_a1 wr _
   clear hW2
   have HM2 := Lib.hid (HM.out.of hbw)
   have HF2 := Lib.hid (HF.out.trans (Fr.ofBelow (S := fun _ => False) hbw) (fun b hb => hb.elim))
   have KT := Lib.hid kt
   have hsz2 : wr.heap.size ≤ W2.heap.size := hbw.size
   clear hbw kt HM HF
   obtain ⟨c0, c1, c2⟩ := HM2.out.c
   obtain ⟨v, hv⟩ : ∃ v, Dk.V b = v := ⟨_, rfl⟩
   have cr := HM2.out.row nb
   have hrow := HM2.out.rows b nb
   rw [hv] at cr hrow
   obtain ⟨ob, hob⟩ : ∃ ob, Dk.ob = ob := ⟨_, rfl⟩
   rw [hob] at cr c1
   have HROW := Lib.hid hrow
   have HSR := Lib.hid (HM2.out.sort b nb)
   have hln := HM2.out.len b nb
   have hsm := HM2.out.small
   have k0 := KT.out.cell 0
   have k1 := KT.out.cell 1
   have k2 := KT.out.cell 2
   have lt := HM2.out.lt (b := t) (.inl rfl)
   have lo : ob < W2.heap.size := by rw [← hob]; exact HM2.out.lt (.inr (.inl rfl))
   have lk := KT.out.lt
   have HV := Lib.hid (And.intro hv hob)
   clear hrow hv hob
   refine wp_region_up W2.heap.size 16 [(true, 0), (true, 1), (true, 2), (true, 3), (true, 4), (true, 5), (true, 6), (true, 7), (true, 8), (true, 9), (true, 10), (false, 11), (true, 12), (true, 13), (true, 14), (true, 15)] (by kernel_rfl) (by kernel_rfl) (fun _ _ d _ _ h => by cases d <;> exact h) ?_
   have hb : Below W2.heap.size W2 W2.drew := (Below.refl _ _).drew
   iterate 11
    first | refine wpS_takeL rfl rfl ?_ | refine wpS_takeN rfl ⟨_, rfl⟩ ?_
    go_big_quiet_step (rfl)
    refine wpQuiet_nil ?_
   refine wpS_doL rfl ?_
   intro K hK
   go_wp2_with ((go_at_call 52; (refine (Find_h 0 v ((DK O a b c 1) b) c 0 _ (HROW.out.of hb) HSR.out hln).mono ?_); rintro e w2 ⟨i, ok, rfl, hn, hi, hj, hok⟩))
   replace hb := hb.trans (hn.mono hb.size)
   refine hK.out _ _ (up_iff.2 hb) ?_
   clear hK K
   clear hn
   iterate 4
    first | refine wpS_takeL rfl rfl ?_ | refine wpS_takeN rfl ⟨_, rfl⟩ ?_
    go_big_quiet_step (rfl)
    refine wpQuiet_nil ?_
   refine wpS_nil ?_
   simp only [List.drop_succ_cons, List.drop_zero]
   have hmem := (look_mem HSR.out).2 HA1.out
   obtain ⟨jj, hjj⟩ := List.mem_iff_getElem?.1 hmem
   have hji : jj = i := by
    rcases Nat.lt_or_ge jj i with h | h
    ·have := (hj jj _ hjj).1 h
     have h2 : (c : Int) < (c : Int) := this
     omega
    ·rcases Nat.lt_or_ge i jj with h2 | h2
     ·have h3 : i < ((DK O a b c 1) b).length := by have := (List.getElem?_eq_some_iff.1 hjj).1; omega
      have h4 := (hj i _ (List.getElem?_eq_getElem h3)).2 (Nat.le_refl _)
      have h5 := HSR.out i jj _ _ h2 (List.getElem?_eq_getElem h3) hjj
      have h6 : ((DK O a b c 1) b)[i].1 < c := h5
      omega
     ·omega
   have hok2 : ok = true := hok.2 ⟨_, by rw [← hji]; exact hjj, rfl⟩
   rw [hji] at hjj
   have hil := (List.getElem?_eq_some_iff.1 hjj).1
   have HJ := Lib.hid hjj
   subst hok2
   clear hmem hji
   have HM4 := Lib.hid (HM2.out.of hb)
   have HF4 := Lib.hid (HF2.out.trans (Fr.ofBelow (S := fun _ => False) hb) (fun b hb => hb.elim))
   have HROW4 := Lib.hid (HROW.out.of hb)
   have KT4 := Lib.hid (KT.out.of hb)
   have hsz4 := Nat.le_trans hsz2 hb.size
   clear hb HM2 HF2 HROW KT c0 c1 c2 cr k0 k1 k2 lt lo lk hsz2 hj hok
   obtain ⟨c0, c1, c2⟩ := HM4.out.c
   have cr := HM4.out.row nb
   rw [HV.out.2] at c1 cr
   rw [HV.out.1] at cr
   have k0 := KT4.out.cell 0
   have k1 := KT4.out.cell 1
   have k2 := KT4.out.cell 2
   have lt := HM4.out.lt (b := t) (.inl rfl)
   have lo : ob < w2.heap.size := by rw [← HV.out.2]; exact HM4.out.lt (.inr (.inl rfl))
   have lk := KT4.out.lt
   go_wp2_with fail
   obtain ⟨RL, hRL⟩ : ∃ RL, v.ownBlock.toList = RL := ⟨_, rfl⟩
   have hown : ∀ g, v.ownBlock = some g → g ≠ t ∧ g ≠ ob ∧ g ≠ wr.heap.size ∧ g < w2.heap.size := by
    intro g hgg
    obtain ⟨e1, e2, e3⟩ := HM4.out.rowne nb (by rw [HV.out.1]; exact hgg)
    refine ⟨e1, by rw [← HV.out.2]; exact e2, fun e => ?_, e3⟩
    subst e
    exact absurd (HROW4.out.typ hgg KT4.out) (by decide)
   have nt : t ∉ RL := by rw [← hRL]; intro h; exact (hown t (by simpa using h)).1 rfl
   have no : ob ∉ RL := by rw [← hRL]; intro h; exact (hown ob (by simpa using h)).2.1 rfl
   have nk : wr.heap.size ∉ RL := by rw [← hRL]; intro h; exact (hown _ (by simpa using h)).2.2.1 rfl
   have HRL := Lib.hid hRL
   have HOWN := Lib.hid hown
   clear hRL hown
   have hic : (((DK O a b c 1) b).length : Int) ≤ 4096 := by
    have := sort_len HSR.out fun x hx => (HM4.out.dom b nb x hx).1
    omega
   have hi1 : (i : Int) ≤ 4096 := by omega
   have hi2 : i ≤ 4096 := by omega
   have HIL := Lib.hid hil
   clear hic hjj hil
   refine wp_region_upl RL 18 [(true, 0), (true, 1), (true, 2), (true, 3), (true, 4), (true, 5), (true, 6), (true, 7), (true, 8), (true, 9), (true, 10), (true, 11), (true, 12), (true, 13), (true, 14), (true, 15), (true, 16), (false, 17)] (by kernel_rfl) (by kernel_rfl) (fun _ _ d _ _ h => by cases d <;> exact h) ?_
   have hb : OutL RL w2 w2.drew := (OutL.refl _ _).drew
   iterate 17
    first | refine wpS_takeL rfl rfl ?_ | refine wpS_takeN rfl ⟨_, rfl⟩ ?_
    go_big_quiet_step (rfl)
    refine wpQuiet_nil ?_
   refine wpS_doL rfl ?_
   intro K hK
   go_wp2_with fail
   refine (Delete_h 0 v ((DK O a b c 1) b) i w2.drew HROW4.out.drew HIL.out hln).mono ?_
   rintro e W5 ⟨v', rfl, hr5, hg5, hl5⟩
   obtain ⟨ao', cap', hv', _, _, _⟩ := hr5.val
   obtain ⟨nn, hnn⟩ : ∃ nn, (List.take i ((DK O a b c 1) b) ++ List.drop (i + 1) ((DK O a b c 1) b)).length = nn := ⟨_, rfl⟩
   rw [hnn] at hv'
   subst hv'
   clear hnn
   have hbo5 : OutL RL w2 W5 := hb.trans ⟨hg5.os, hg5.tape, hg5.output, hg5.size, fun k hk hc => hg5.block k hk fun e => hc (by rw [← HRL.out, ← e]; simp)⟩
   go_wp2_with fail
   refine hK.out _ _ (upl hbo5) ?_
   clear hK K
   have hfc : w2.cell? ⟨ob, b, none⟩ = some v := cr
   have cr5 : W5.cell? ⟨ob, b, none⟩ = some v := (World.cell?_of_block (a := ⟨ob, b, none⟩) (hbo5.block ob lo no)).trans hfc
   have fr5 : W5.frozen? ⟨ob, b, none⟩ = false := (World.frozen?_of_block (a := ⟨ob, b, none⟩) (hbo5.block ob lo no)).trans (by rw [← HV.out.2]; exact HM4.out.outf b)
   have hin := SM.set HM4.out nb (v' := .slice ao' nn cap') (L' := delH c ((DK O a b c 1) b)) (w1 := W5) (by rw [← delH_at HSR.out HJ.out]; exact hr5) (by rw [HV.out.1]; exact ⟨hg5.os, hg5.tape, hg5.output, hg5.size, hg5.block⟩) (by rw [HV.out.1]; exact hl5) rfl (fun u hu => HM4.out.dom b nb u (delH_sub hu)) (delH_sort HSR.out)
   rw [HV.out.2] at hin
   have HIN := Lib.hid hin
   have HFX := HF4
   clear hin hb hr5 hg5 hl5 hbo5 hfc c0 c1 c2 cr k0 k1 k2 lt lo lk nt no nk HJ HSR HM4 HROW4 HOWN HRL KT4 hi hln HIL hi1 hi2
   refine wpS_nil ?_
   simp only [List.drop_succ_cons, List.drop_zero]
   go_wp2_with fail
   go_roundg (2 - 1)
   case measure => omega
   case rel =>
    obtain ⟨D', h1, h2, h3, h4⟩ := HIN.out
    refine ⟨1 + 1, D', by rfl, by omega, by omega, Lib.hid h1, Lib.hid (HFX.out.trans h2 (fun b hb => ?_)), Lib.hid (fun g hgg => ?_), h4.trans hpo⟩
    ·exact HH.out b hb
    ·rcases h3 g hgg with h5 | h5
     ·exact HH.out g h5
     ·exact .inr (Nat.le_trans HFX.out.size h5)
  ·have hix : ∀ w, Sem.run Try.prog (Instr.index 96 (sI a b c) (.int .i64 2)) w = .ok (tI c a b) w := fun w => side_at a b c 2 (by omega) w
   go_wp2_with fail
   refine name_world ?_
   intro W2 hW2
   have kt : Blk W2 wr.heap.size #[.int .i64 (c : Nat), .int .i64 (a : Nat), .int .i64 (b : Nat)] 36 := by rw [hW2]; exact Blk.new wr _ _
   have hbw : Below wr.heap.size wr W2 := by rw [hW2]; exact below_a1 wr _
   clear hW2
   have HM2 := Lib.hid (HM.out.of hbw)
   have HF2 := Lib.hid (HF.out.trans (Fr.ofBelow (S := fun _ => False) hbw) (fun b hb => hb.elim))
   have KT := Lib.hid kt
   have hsz2 : wr.heap.size ≤ W2.heap.size := hbw.size
   clear hbw kt HM HF
   obtain ⟨c0, c1, c2⟩ := HM2.out.c
   obtain ⟨v, hv⟩ : ∃ v, Dk.V c = v := ⟨_, rfl⟩
   have cr := HM2.out.row nc
   have hrow := HM2.out.rows c nc
   rw [hv] at cr hrow
   obtain ⟨ob, hob⟩ : ∃ ob, Dk.ob = ob := ⟨_, rfl⟩
   rw [hob] at cr c1
   have HROW := Lib.hid hrow
   have HSR := Lib.hid (HM2.out.sort c nc)
   have hln := HM2.out.len c nc
   have hsm := HM2.out.small
   have k0 := KT.out.cell 0
   have k1 := KT.out.cell 1
   have k2 := KT.out.cell 2
   have lt := HM2.out.lt (b := t) (.inl rfl)
   have lo : ob < W2.heap.size := by rw [← hob]; exact HM2.out.lt (.inr (.inl rfl))
   have lk := KT.out.lt
   have HV := Lib.hid (And.intro hv hob)
   clear hrow hv hob
   refine wp_region_up W2.heap.size 16 [(true, 0), (true, 1), (true, 2), (true, 3), (true, 4), (true, 5), (true, 6), (true, 7), (true, 8), (true, 9), (true, 10), (false, 11), (true, 12), (true, 13), (true, 14), (true, 15)] (by kernel_rfl) (by kernel_rfl) (fun _ _ d _ _ h => by cases d <;> exact h) ?_
   have hb : Below W2.heap.size W2 W2.drew := (Below.refl _ _).drew
   iterate 11
    first | refine wpS_takeL rfl rfl ?_ | refine wpS_takeN rfl ⟨_, rfl⟩ ?_
    go_big_quiet_step (rfl)
    refine wpQuiet_nil ?_
   refine wpS_doL rfl ?_
   intro K hK
   go_wp2_with ((go_at_call 52; (refine (Find_h 0 v ((DK O a b c 2) c) a 0 _ (HROW.out.of hb) HSR.out hln).mono ?_); rintro e w2 ⟨i, ok, rfl, hn, hi, hj, hok⟩))
   replace hb := hb.trans (hn.mono hb.size)
   refine hK.out _ _ (up_iff.2 hb) ?_
   clear hK K
   clear hn
   iterate 4
    first | refine wpS_takeL rfl rfl ?_ | refine wpS_takeN rfl ⟨_, rfl⟩ ?_
    go_big_quiet_step (rfl)
    refine wpQuiet_nil ?_
   refine wpS_nil ?_
   simp only [List.drop_succ_cons, List.drop_zero]
   have hmem := (look_mem HSR.out).2 HA2.out
   obtain ⟨jj, hjj⟩ := List.mem_iff_getElem?.1 hmem
   have hji : jj = i := by
    rcases Nat.lt_or_ge jj i with h | h
    ·have := (hj jj _ hjj).1 h
     have h2 : (a : Int) < (a : Int) := this
     omega
    ·rcases Nat.lt_or_ge i jj with h2 | h2
     ·have h3 : i < ((DK O a b c 2) c).length := by have := (List.getElem?_eq_some_iff.1 hjj).1; omega
      have h4 := (hj i _ (List.getElem?_eq_getElem h3)).2 (Nat.le_refl _)
      have h5 := HSR.out i jj _ _ h2 (List.getElem?_eq_getElem h3) hjj
      have h6 : ((DK O a b c 2) c)[i].1 < a := h5
      omega
     ·omega
   have hok2 : ok = true := hok.2 ⟨_, by rw [← hji]; exact hjj, rfl⟩
   rw [hji] at hjj
   have hil := (List.getElem?_eq_some_iff.1 hjj).1
   have HJ := Lib.hid hjj
   subst hok2
   clear hmem hji
   have HM4 := Lib.hid (HM2.out.of hb)
   have HF4 := Lib.hid (HF2.out.trans (Fr.ofBelow (S := fun _ => False) hb) (fun b hb => hb.elim))
   have HROW4 := Lib.hid (HROW.out.of hb)
   have KT4 := Lib.hid (KT.out.of hb)
   have hsz4 := Nat.le_trans hsz2 hb.size
   clear hb HM2 HF2 HROW KT c0 c1 c2 cr k0 k1 k2 lt lo lk hsz2 hj hok
   obtain ⟨c0, c1, c2⟩ := HM4.out.c
   have cr := HM4.out.row nc
   rw [HV.out.2] at c1 cr
   rw [HV.out.1] at cr
   have k0 := KT4.out.cell 0
   have k1 := KT4.out.cell 1
   have k2 := KT4.out.cell 2
   have lt := HM4.out.lt (b := t) (.inl rfl)
   have lo : ob < w2.heap.size := by rw [← HV.out.2]; exact HM4.out.lt (.inr (.inl rfl))
   have lk := KT4.out.lt
   go_wp2_with fail
   obtain ⟨RL, hRL⟩ : ∃ RL, v.ownBlock.toList = RL := ⟨_, rfl⟩
   have hown : ∀ g, v.ownBlock = some g → g ≠ t ∧ g ≠ ob ∧ g ≠ wr.heap.size ∧ g < w2.heap.size := by
    intro g hgg
    obtain ⟨e1, e2, e3⟩ := HM4.out.rowne nc (by rw [HV.out.1]; exact hgg)
    refine ⟨e1, by rw [← HV.out.2]; exact e2, fun e => ?_, e3⟩
    subst e
    exact absurd (HROW4.out.typ hgg KT4.out) (by decide)
   have nt : t ∉ RL := by rw [← hRL]; intro h; exact (hown t (by simpa using h)).1 rfl
   have no : ob ∉ RL := by rw [← hRL]; intro h; exact (hown ob (by simpa using h)).2.1 rfl
   have nk : wr.heap.size ∉ RL := by rw [← hRL]; intro h; exact (hown _ (by simpa using h)).2.2.1 rfl
   have HRL := Lib.hid hRL
   have HOWN := Lib.hid hown
   clear hRL hown
   have hic : (((DK O a b c 2) c).length : Int) ≤ 4096 := by
    have := sort_len HSR.out fun x hx => (HM4.out.dom c nc x hx).1
    omega
   have hi1 : (i : Int) ≤ 4096 := by omega
   have hi2 : i ≤ 4096 := by omega
   have HIL := Lib.hid hil
   clear hic hjj hil
   refine wp_region_upl RL 18 [(true, 0), (true, 1), (true, 2), (true, 3), (true, 4), (true, 5), (true, 6), (true, 7), (true, 8), (true, 9), (true, 10), (true, 11), (true, 12), (true, 13), (true, 14), (true, 15), (true, 16), (false, 17)] (by kernel_rfl) (by kernel_rfl) (fun _ _ d _ _ h => by cases d <;> exact h) ?_
   have hb : OutL RL w2 w2.drew := (OutL.refl _ _).drew
   iterate 17
    first | refine wpS_takeL rfl rfl ?_ | refine wpS_takeN rfl ⟨_, rfl⟩ ?_
    go_big_quiet_step (rfl)
    refine wpQuiet_nil ?_
   refine wpS_doL rfl ?_
   intro K hK
   go_wp2_with fail
   refine (Delete_h 0 v ((DK O a b c 2) c) i w2.drew HROW4.out.drew HIL.out hln).mono ?_
   rintro e W5 ⟨v', rfl, hr5, hg5, hl5⟩
   obtain ⟨ao', cap', hv', _, _, _⟩ := hr5.val
   obtain ⟨nn, hnn⟩ : ∃ nn, (List.take i ((DK O a b c 2) c) ++ List.drop (i + 1) ((DK O a b c 2) c)).length = nn := ⟨_, rfl⟩
   rw [hnn] at hv'
   subst hv'
   clear hnn
   have hbo5 : OutL RL w2 W5 := hb.trans ⟨hg5.os, hg5.tape, hg5.output, hg5.size, fun k hk hc => hg5.block k hk fun e => hc (by rw [← HRL.out, ← e]; simp)⟩
   go_wp2_with fail
   refine hK.out _ _ (upl hbo5) ?_
   clear hK K
   have hfc : w2.cell? ⟨ob, c, none⟩ = some v := cr
   have cr5 : W5.cell? ⟨ob, c, none⟩ = some v := (World.cell?_of_block (a := ⟨ob, c, none⟩) (hbo5.block ob lo no)).trans hfc
   have fr5 : W5.frozen? ⟨ob, c, none⟩ = false := (World.frozen?_of_block (a := ⟨ob, c, none⟩) (hbo5.block ob lo no)).trans (by rw [← HV.out.2]; exact HM4.out.outf c)
   have hin := SM.set HM4.out nc (v' := .slice ao' nn cap') (L' := delH a ((DK O a b c 2) c)) (w1 := W5) (by rw [← delH_at HSR.out HJ.out]; exact hr5) (by rw [HV.out.1]; exact ⟨hg5.os, hg5.tape, hg5.output, hg5.size, hg5.block⟩) (by rw [HV.out.1]; exact hl5) rfl (fun u hu => HM4.out.dom c nc u (delH_sub hu)) (delH_sort HSR.out)
   rw [HV.out.2] at hin
   have HIN := Lib.hid hin
   have HFX := HF4
   clear hin hb hr5 hg5 hl5 hbo5 hfc c0 c1 c2 cr k0 k1 k2 lt lo lk nt no nk HJ HSR HM4 HROW4 HOWN HRL KT4 hi hln HIL hi1 hi2
   refine wpS_nil ?_
   simp only [List.drop_succ_cons, List.drop_zero]
   go_wp2_with fail
   go_roundg (2 - 2)
   case measure => omega
   case rel =>
    obtain ⟨D', h1, h2, h3, h4⟩ := HIN.out
    refine ⟨2 + 1, D', by rfl, by omega, by omega, Lib.hid h1, Lib.hid (HFX.out.trans h2 (fun b hb => ?_)), Lib.hid (fun g hgg => ?_), h4.trans hpo⟩
    ·exact HH.out b hb
    ·rcases h3 g hgg with h5 | h5
     ·exact HH.out g h5
     ·exact .inr (Nat.le_trans HFX.out.size h5)
  ·obtain ⟨c0, c1, c2⟩ := HM.out.c
   have f2 := HM.out.blk.free 2
   have hw : wrap64 (n - 1) = n - 1 := by unfold wrap64; omega
   have HN := Lib.hid (SM.setn HM.out (n - 1))
   go_wp2_with fail
   simp [bodyPost, results, Try.results33, go_sem]
   exact ⟨Dk, HN.out.1, HF.out.trans HN.out.2 (fun b hb => HH.out b (.inl hb)), HH.out, hpo⟩
end Go.Proofs.Ytdlpfiiakmhnlaa

namespace Go.Proofs.Ytdlpfiiakmhnlaa
open Go.RowKit

set_option maxRecDepth 100000 in
set_option maxHeartbeats 4000000 in
theorem Flip_no (t : Nat) (D : SD) (N : Nat) (X Y : Nat → Int) (O : Nat → List (Nat × Nat)) (n a b : Int) (w : World) (h : SM w t D N X Y O n) (hn : leftO N O a b = none ∨ leftO N O b a = none) :
    Calls Try.prog 36 #[ptr t 0, .int .i64 a, .int .i64 b] w fun e w' => e = .returned (.int .i64 14) ∧ Below w.heap.size w w' := by
  have HM := Lib.hid h
  obtain ⟨R1, h1⟩ : ∃ R, leftO N O a b = R := ⟨_, rfl⟩
  obtain ⟨R2, h2⟩ : ∃ R, leftO N O b a = R := ⟨_, rfl⟩
  have HR1 := Lib.hid h1
  have HR2 := Lib.hid h2
  rw [h1, h2] at hn
  clear h h1 h2
  go_enter Try.func36, Try.ntmps36
  go_wp2_with fail
  refine (Left_is t D N X Y O n a b _ HM.out R1 HR1.out).mono ?_
  rintro e W1 ⟨rfl, hb1⟩
  have HM1 := Lib.hid (HM.out.of hb1)
  have B1 := Lib.hid hb1
  clear hb1
  go_wp2_with fail
  refine (Left_is t D N X Y O n b a _ HM1.out R2 HR2.out).mono ?_
  rintro e W2 ⟨rfl, hb2⟩
  have B2 := Lib.hid (B1.out.trans (hb2.mono B1.out.size))
  clear hb2
  cases R1 with
  | none =>
    go_wp2
    go_ret
    exact ⟨rfl, B2.out⟩
  | some c =>
    cases R2 with
    | none =>
      go_wp2
      go_ret
      exact ⟨rfl, B2.out⟩
    | some d => rcases hn with h | h <;> cases h
set_option maxRecDepth 100000 in
set_option maxHeartbeats 4000000 in
theorem Flip_bad (t : Nat) (D : SD) (N : Nat) (X Y : Nat → Int) (O : Nat → List (Nat × Nat)) (n : Int) (a b c d : Nat) (w : World) (h : SM w t D N X Y O n) (hc : lookH (O a) b = some c) (hd : lookH (O b) a = some d) (ha : a < N) (hb : b < N) (hcN : c < N) (hdN : d < N) (hf : ¬ wy X Y d c a * wy X Y d c b < 0) :
    Calls Try.prog 36 #[ptr t 0, .int .i64 a, .int .i64 b] w fun e w' => e = .returned (.int .i64 10) ∧ Below w.heap.size w w' := by
  have HM := Lib.hid h
  have HR1 : Hid (leftO N O (a : Nat) (b : Nat) = some c) := Lib.hid ((leftO_of ha).trans hc)
  have HR2 : Hid (leftO N O (b : Nat) (a : Nat) = some d) := Lib.hid ((leftO_of hb).trans hd)
  obtain ⟨r1, h1⟩ : ∃ R, wy X Y d c a = R := ⟨_, rfl⟩
  obtain ⟨r2, h2⟩ : ∃ R, wy X Y d c b = R := ⟨_, rfl⟩
  have q1 : r1 = -1 ∨ r1 = 0 ∨ r1 = 1 := by rw [← h1]; exact wy_cases _ _ _ _ _
  have q2 : r2 = -1 ∨ r2 = 0 ∨ r2 = 1 := by rw [← h2]; exact wy_cases _ _ _ _ _
  rw [h1, h2] at hf
  have H1 := Lib.hid h1
  have H2 := Lib.hid h2
  have HL := Lib.hid (show a < N ∧ b < N ∧ c < N ∧ d < N from ⟨ha, hb, hcN, hdN⟩)
  clear h h1 h2 hc hd ha hb hcN hdN
  go_enter Try.func36, Try.ntmps36
  go_wp2_with fail
  refine (Left_is t D N X Y O n a b _ HM.out _ HR1.out).mono ?_
  rintro e W1 ⟨rfl, hb1⟩
  have HM1 := Lib.hid (HM.out.of hb1)
  have B1 := Lib.hid hb1
  clear hb1
  go_wp2_with fail
  refine (Left_is t D N X Y O n b a _ HM1.out _ HR2.out).mono ?_
  rintro e W2 ⟨rfl, hb2⟩
  have HM2 := Lib.hid (HM1.out.of hb2)
  have B2 := Lib.hid (B1.out.trans (hb2.mono B1.out.size))
  clear hb2
  go_wp2_with fail
  refine (turn_st t D N X Y O n d c a r1 _ HM2.out HL.out.2.2.2 HL.out.2.2.1 HL.out.1 H1.out).mono ?_
  rintro e W3 ⟨rfl, hb3⟩
  have HM3 := Lib.hid (HM2.out.of hb3)
  have B3 := Lib.hid (B2.out.trans (hb3.mono B2.out.size))
  clear hb3
  go_wp2_with fail
  refine (turn_st t D N X Y O n d c b r2 _ HM3.out HL.out.2.2.2 HL.out.2.2.1 HL.out.2.1 H2.out).mono ?_
  rintro e W4 ⟨rfl, hb4⟩
  have B4 := Lib.hid (B3.out.trans (hb4.mono B3.out.size))
  clear hb4
  rcases q1 with rfl | rfl | rfl <;> rcases q2 with rfl | rfl | rfl
  all_goals first | (exact absurd hf (by decide)) | (go_wp2; go_ret; exact ⟨rfl, B4.out⟩)
set_option maxRecDepth 100000 in
set_option maxHeartbeats 4000000 in
theorem Flip_yes (t : Nat) (D : SD) (N : Nat) (X Y : Nat → Int) (O : Nat → List (Nat × Nat)) (n : Nat) (a b c d : Nat) (w : World) (h : SM w t D N X Y O (n : Nat)) (hF : FL O a b c d) (hw : WS N O n) (hn : n < 100000000) (hf : wy X Y d c a * wy X Y d c b < 0) :
    Calls Try.prog 36 #[ptr t 0, .int .i64 a, .int .i64 b] w fun e w' => e = .returned (.int .i64 0) ∧ ∃ D', SM w' t D' N X Y (flO O a b c d) (n : Nat) ∧ Fr w w' (D.has t N) ∧ (∀ g, D'.has t N g → D.has t N g ∨ w.heap.size ≤ g) ∧ D'.po = D.po := by
 have HM := Lib.hid h
 obtain ⟨ha, hb, hcN⟩ := hw.dom _ _ _ hF.hc
 have hdN := (hw.dom _ _ _ hF.hd).2.2
 have HR1 : Hid (leftO N O (a : Nat) (b : Nat) = some c) := Lib.hid ((leftO_of ha).trans hF.hc)
 have HR2 : Hid (leftO N O (b : Nat) (a : Nat) = some d) := Lib.hid ((leftO_of hb).trans hF.hd)
 obtain ⟨r1, h1⟩ : ∃ R, wy X Y d c a = R := ⟨_, rfl⟩
 obtain ⟨r2, h2⟩ : ∃ R, wy X Y d c b = R := ⟨_, rfl⟩
 have q1 : r1 = -1 ∨ r1 = 0 ∨ r1 = 1 := by rw [← h1]; exact wy_cases _ _ _ _ _
 have q2 : r2 = -1 ∨ r2 = 0 ∨ r2 = 1 := by rw [← h2]; exact wy_cases _ _ _ _ _
 rw [h1, h2] at hf
 have H1 := Lib.hid h1
 have H2 := Lib.hid h2
 have HL := Lib.hid (show a < N ∧ b < N ∧ c < N ∧ d < N from ⟨ha, hb, hcN, hdN⟩)
 have HF := Lib.hid hF
 have HW := Lib.hid hw
 have h2n := (hw.del hF.hc).2
 clear h h1 h2 hF hw ha hb hcN hdN
 go_enter Try.func36, Try.ntmps36
 go_wp2_with fail
 refine (Left_is t D N X Y O n a b _ HM.out _ HR1.out).mono ?_
 rintro e W1 ⟨rfl, hb1⟩
 have HM1 := Lib.hid (HM.out.of hb1)
 have B1 := Lib.hid hb1
 clear hb1
 go_wp2_with fail
 refine (Left_is t D N X Y O n b a _ HM1.out _ HR2.out).mono ?_
 rintro e W2 ⟨rfl, hb2⟩
 have HM2 := Lib.hid (HM1.out.of hb2)
 have B2 := Lib.hid (B1.out.trans (hb2.mono B1.out.size))
 clear hb2
 go_wp2_with fail
 refine (turn_st t D N X Y O n d c a r1 _ HM2.out HL.out.2.2.2 HL.out.2.2.1 HL.out.1 H1.out).mono ?_
 rintro e W3 ⟨rfl, hb3⟩
 have HM3 := Lib.hid (HM2.out.of hb3)
 have B3 := Lib.hid (B2.out.trans (hb3.mono B2.out.size))
 clear hb3
 go_wp2_with fail
 refine (turn_st t D N X Y O n d c b r2 _ HM3.out HL.out.2.2.2 HL.out.2.2.1 HL.out.2.1 H2.out).mono ?_
 rintro e W4 ⟨rfl, hb4⟩
 have HM4 := Lib.hid (HM3.out.of hb4)
 have B4 := Lib.hid (B3.out.trans (hb4.mono B3.out.size))
 clear hb4 HM HM1 HM2 HM3 B1 B2 B3 H1 H2
 have HS := Lib.hid (HF.out.steps HW.out.cyc)
 have HA := Lib.hid (HF.out.apart HW.out.cyc)
 rcases q1 with rfl | rfl | rfl <;> rcases q2 with rfl | rfl | rfl
 all_goals first | (exact absurd hf (by decide)) | skip
 all_goals
  clear hf
  go_wp2_with fail
  refine (Del_yes t D N X Y O n a b c _ HM4.out HL.out.1 HL.out.2.1 HL.out.2.2.1 HA.out.1 HA.out.2.1 HA.out.2.2.1 HS.out.1 (by omega)).mono ?_
  rintro e W5 ⟨rfl, D5, hs, hfr, hh, hp⟩
  have HM5 := Lib.hid hs
  have F5 := Lib.hid ((Fr.ofBelow (S := D.has t N) B4.out).trans hfr (fun b hb => .inl hb))
  have HH5 := Lib.hid (show ∀ g, D5.has t N g → D.has t N g ∨ w.heap.size ≤ g from fun g hg => (hh g hg).imp id fun h => Nat.le_trans B4.out.size h)
  have HP5 := Lib.hid hp
  clear hs hfr hh hp
  go_wp2_with fail
  refine (Del_yes t D5 N X Y _ _ b a d _ HM5.out HL.out.2.1 HL.out.1 HL.out.2.2.2 (fun e => HA.out.1 e.symm) (fun e => HA.out.2.2.2.1 e.symm) (fun e => HA.out.2.2.2.2.1 e.symm) HS.out.2.2.1 (by omega)).mono ?_
  rintro e W6 ⟨rfl, D6, hs, hfr, hh, hp⟩
  have HM6 := Lib.hid hs
  have F6 := Lib.hid (F5.out.trans hfr HH5.out)
  have HH6 := Lib.hid (show ∀ g, D6.has t N g → D.has t N g ∨ w.heap.size ≤ g from fun g hg => (hh g hg).elim (HH5.out g) fun h => .inr (Nat.le_trans F5.out.size h))
  have HP6 := Lib.hid (hp.trans HP5.out)
  clear hs hfr hh hp
  go_wp2_with fail
  refine (put_is t D6 N X Y _ _ d c a _ HM6.out HL.out.2.2.2 HL.out.2.2.1 HL.out.1 HS.out.2.2.2.2.1.1 HS.out.2.2.2.2.1.2.1 HS.out.2.2.2.2.1.2.2.1 HS.out.2.2.2.2.1.2.2.2.1 HS.out.2.2.2.2.1.2.2.2.2.1 HS.out.2.2.2.2.1.2.2.2.2.2 ?_).mono ?_
  ·have hpos := (WS.del (HW.out.del HF.out.hc).1 HS.out.2.2.1.1).2
   omega
  rintro e W7 ⟨rfl, D7, hs, hfr, hh, hp⟩
  have HM7 := Lib.hid hs
  have F7 := Lib.hid (F6.out.trans hfr HH6.out)
  have HH7 := Lib.hid (show ∀ g, D7.has t N g → D.has t N g ∨ w.heap.size ≤ g from fun g hg => (hh g hg).elim (HH6.out g) fun h => .inr (Nat.le_trans F6.out.size h))
  have HP7 := Lib.hid (hp.trans HP6.out)
  clear hs hfr hh hp
  go_wp2_with fail
  refine (put_is t D7 N X Y _ _ c d b _ HM7.out HL.out.2.2.1 HL.out.2.2.2 HL.out.2.1 HS.out.2.2.2.2.2.2.1.1 HS.out.2.2.2.2.2.2.1.2.1 HS.out.2.2.2.2.2.2.1.2.2.1 HS.out.2.2.2.2.2.2.1.2.2.2.1 HS.out.2.2.2.2.2.2.1.2.2.2.2.1 HS.out.2.2.2.2.2.2.1.2.2.2.2.2 ?_).mono ?_
  ·have hpos := (WS.del (HW.out.del HF.out.hc).1 HS.out.2.2.1.1).2
   omega
  rintro e W8 ⟨rfl, D8, hs, hfr, hh, hp⟩
  have en : (n : Int) - 1 - 1 + 1 + 1 = n := by omega
  rw [en] at hs
  have HM8 := Lib.hid hs
  have F8 := Lib.hid (F7.out.trans hfr HH7.out)
  have HH8 := Lib.hid (show ∀ g, D8.has t N g → D.has t N g ∨ w.heap.size ≤ g from fun g hg => (hh g hg).elim (HH7.out g) fun h => .inr (Nat.le_trans F7.out.size h))
  have HP8 := Lib.hid (hp.trans HP7.out)
  clear hs hfr hh hp en
  go_wp2
  go_ret
  exact ⟨rfl, D8, HM8.out, F8.out, HH8.out, HP8.out⟩
end Go.Proofs.Ytdlpfiiakmhnlaa

namespace Go.Proofs.Ytdlpfiiakmhnlaa
open Go.RowKit Go.Shelf
attribute [local go_sem] Oper.semAt_some

/-- a store without points -/
def S0 (w : World) (t : Nat) (po : Option Addr) (pc : Nat) (vo : Value) (n : Int) : Prop := Blk w t #[.slice po (0 : Nat) pc, vo, .int .i64 n] 87
set_option maxRecDepth 100000 in
set_option maxHeartbeats 2000000 in
theorem All10_any (m lid bs t B : Nat) (po : Option Addr) (pc : Nat) (ao : Option Addr) (l c : Nat) (n : Int) (I : (Nat → Prop) → Nat → World → Prop) (Ix : Nat → World → Prop)
    (hm : ∀ G k W, I G k W → Blk W bs #[ptr t 0] 25 ∧ S0 W t po pc (.slice ao l c) n) (hst : ∀ G k W W', I G k W → BelowX B G W W' → I G k W')
    (W : World) (hB : B ≤ W.heap.size) (h0 : I (fun _ => False) 0 W) :
    CallsIn Fence.wide (m + 1) Try.prog 63 #[.func (.yield lid) #[] #[], ptr bs 0] W fun e W' => (∃ v, e = .returned v) ∧ ((∃ G, I G 0 W') ∨ ∃ k, k ≤ 0 ∧ Ix k W') := by
  refine callsIn_wide.2 ((callsIn_wide (n := 3)).1 ?_)
  refine callsIn_of_wp_marks Try.func63 rfl trivial ?_ rfl
  simp only [Try.ntmps63, List.size_toArray, List.length_cons, List.length_nil, Nat.reduceAdd, Nat.reduceSub, Array.replicate_succ, Array.replicate_zero, List.push_toArray, List.append_toArray, List.nil_append, List.cons_append]
  obtain ⟨ks, kt⟩ := hm _ 0 W h0
  unfold S0 at kt
  have lb := ks.lt
  have lt := kt.lt
  have b0 := ks.cell 0
  have c0 := kt.cell 0
  simp only [List.getElem?_toArray, List.getElem?_cons_zero] at b0 c0
  have H0 := Lib.hid h0
  have HH := Lib.hid hst
  have hbs : bs ≠ W.heap.size := by omega
  have htn : t ≠ W.heap.size := by omega
  clear hm hst h0 ks kt
  gi_wp2_with fail
  have hbV := below_a1 W (.cells #[.func (.yield lid) #[] #[]] 117)
  have H1 := Lib.hid (HH.out _ 0 W _ H0.out (.all hbV hB))
  clear hbV b0 c0
  refine wpIn_loop_ghost_k (fun gk act wr => act = _ ∧ wr = _) 0 ⟨rfl, rfl⟩ ?_
  intro gk act wr hinv J K hJ hK
  obtain ⟨rfl, rfl⟩ := hinv
  gi_wp2
  exact ⟨_, results_none rfl _ _ _, ⟨_, rfl⟩, .inl ⟨_, H1.out⟩⟩
theorem All10_tells (bs t : Nat) (po : Option Addr) (pc : Nat) (ao : Option Addr) (l c : Nat) (n : Int) (B : Nat) :
    TellsX Try.prog 63 #[ptr bs 0] 0 (allE []) B (fun W => Blk W bs #[ptr t 0] 25 ∧ S0 W t po pc (.slice ao l c) n) :=
  fun m lid I Ix hK hG hst hxst hY W hB h0 => All10_any m lid bs t B po pc ao l c n I Ix hK hst W hB h0
set_option maxRecDepth 100000 in
set_option maxHeartbeats 2000000 in
theorem all0_is (t : Nat) (po : Option Addr) (pc : Nat) (ao : Option Addr) (l c : Nat) (n : Int) (w : World) (h : S0 w t po pc (.slice ao l c) n) :
    Calls Try.prog 18 #[ptr t 0] w fun e w' => ∃ v, e = .returned v ∧ TL w' w.heap.size v [] ∧ Below w.heap.size w w' := by
 have HS := Lib.hid h
 clear h
 refine (callsIn_wide (n := 3)).1 ?_
 refine callsIn_of_wp_marks Try.func18 rfl trivial ?_ rfl
 simp only [Try.ntmps18, List.size_toArray, List.length_cons, List.length_nil, Nat.reduceAdd, Nat.reduceSub, Array.replicate_succ, Array.replicate_zero, List.push_toArray, List.append_toArray, List.nil_append, List.cons_append]
 gi_wp2_with fail
 refine ⟨trivial, callsIn_wide.2 ?_⟩
 refine calls_w ?_
 intro V hV
 have kO : Blk V w.heap.size #[.slice none 0 0] 38 := by rw [hV]; exact Blk.new w _ _
 have hbV : Below w.heap.size w V := by rw [hV]; exact below_a1 _ _
 clear hV
 refine (All_is t V).mono ?_
 rintro e V2 ⟨rfl, kS, hb2⟩
 have kO2 := kO.of hb2
 have S2 := Lib.hid ((show Blk w t _ _ from HS.out).of (hbV.trans (hb2.mono hbV.size)))
 have hbw2 := hbV.trans (hb2.mono hbV.size)
 have z1 := kO.lt
 have z2 := kS.lt
 have zt := (show Blk w t _ _ from HS.out).lt
 obtain ⟨ob, eob⟩ : ∃ b, w.heap.size = b := ⟨_, rfl⟩
 obtain ⟨bs, ebs⟩ : ∃ b, V.heap.size = b := ⟨_, rfl⟩
 have o1 : ob < bs := by omega
 have o2 : w.heap.size ≤ ob := by omega
 rw [ebs] at kS z2 ⊢
 rw [eob] at kO2
 rw [show w.heap.size = ob from eob]
 clear kO ebs eob hb2 hbV z1
 gi_wp2_with fail
 have hwV := hbw2.size
 have zt2 : t < w.heap.size := (show Blk w t _ _ from HS.out).lt
 refine wpIn_rangeX (m := 1) (gf := 63) (lb := #[ptr bs 0]) (N := 0) (encs := allE []) (Kp := fun W => Blk W bs #[ptr t 0] 25 ∧ S0 W t po pc (.slice ao l c) n) rfl (fun args w => by go_simp) (All10_tells bs t po pc ao l c n _) (fun _ => rfl)
  (fun G k W => ∃ v, Blk W ob #[v] 38 ∧ TL W (V2.heap.size + 2) v [] ∧ Blk W bs #[ptr t 0] 25 ∧ Below w.heap.size w W ∧ ∀ g, G g ↔ v.ownBlock = some g)
  (fun _ _ _ => False) ?hg ?stable (fun _ _ _ _ h _ => h.elim) ?keeps ?start ?round ?done (fun _ _ _ _ _ h _ => h.elim)
 case hg =>
  rintro G k W ⟨v, j1, j2, j3, j4, j5⟩ g hg
  exact j2.lt ((j5 g).1 hg)
 case stable =>
  rintro G k W W' ⟨v, j1, j2, j3, j4, j5⟩ ⟨hbl, hbg⟩
  exact ⟨v, j1.below hbl (by omega), j2.of fun g hg => hbg g ((j5 g).2 hg) (j2.lt hg).2, j3.below hbl (by omega), j4.trans (hbl.mono (by omega)), j5⟩
 case keeps =>
  rintro G k W ⟨v, j1, j2, j3, j4, j5⟩
  exact ⟨j3, (show Blk w t _ _ from HS.out).of j4⟩
 case start => exact ⟨_, kO2, TL.none, kS, hbw2, fun g => ⟨fun h => h.elim, fun h => by cases h⟩⟩
 case round =>
  rintro l2 D2 k G W2 hk
  omega
 case done =>
  rintro Dd G V5 g1 ⟨v, j1, j2, j3, j4, j5⟩ hD
  have c0 := j1.cell 0
  simp only [List.getElem?_toArray, List.getElem?_cons_zero] at c0
  have l0 := j1.lt
  have JJ := Lib.hid (And.intro j2 j4)
  clear j1 j2 j3 j4 j5
  gi_wp2
  refine ⟨by simp, .inl ⟨_, _, rfl, run_takeDeferred hD, ?_⟩⟩
  simp only [LeavesInM, LeavesIn]
  refine ⟨v, by simp [results, Try.results18, go_sem], v, rfl, ?_, ?_⟩
  ·have h1 : TL (V5.putObj Dd (.deferred none)) (V2.heap.size + 2) v [] := JJ.out.1.of fun g hg => World.putObj_heap_other (by have := (JJ.out.1.lt hg).1; omega)
   rcases h1.2 with h2 | ⟨g, cap, cur, e1, e2, e3, e4⟩
   ·exact ⟨h1.1, .inl h2⟩
   ·exact ⟨h1.1, .inr ⟨g, cap, cur, e1, by omega, e3, e4⟩⟩
  ·exact JJ.out.2.trans ((putObj_out V5 Dd _).below (by have := JJ.out.2.size; omega) (by simp; omega))
end Go.Proofs.Ytdlpfiiakmhnlaa

namespace Go.Proofs.Ytdlpfiiakmhnlaa
open Go.RowKit

set_option maxRecDepth 100000 in
set_option maxHeartbeats 1000000 in
theorem CloneH_is (v : Value) (base : Nat) (L : List (Nat × Nat)) (w : World) (h : HRow w base v L) (hn : L.length ≤ 1000000) :
    Calls Try.prog 68 #[v] w fun e w' => ∃ v', e = .returned v' ∧ HRow w' w.heap.size v' L ∧ Below w.heap.size w w' := by
 obtain ⟨i0, hi, hz0, hz1, hz2⟩ := info_parts info_half
 rcases h.2 with ⟨rfl, hn0⟩ | ⟨g, cap, cur, rfl, hbg, hg, hnc, hcap, hcs, htk⟩
 ·have heq : ∀ n w, Sem.run Try.prog (binOp BinOp.eql 103 (.slice none n 0) (.slice none 0 0)) w = .ok (.bool true) w := fun n w => by kernel_rfl
  have hL : L = [] := List.eq_nil_of_length_eq_zero hn0
  subst hL
  clear h
  go_enter Try.func68, Try.ntmps68
  go_wp2
  go_ret
  exact ⟨_, rfl, ⟨rfl, .inl ⟨rfl, rfl⟩⟩, Below.refl _ _⟩
 ·have heq : ∀ w, Sem.run Try.prog (binOp BinOp.eql 103 (.slice (some ⟨g, 0, none⟩) L.length cap) (.slice none 0 0)) w = .ok (.bool false) w := fun w => by kernel_rfl
  have hgl := (Array.getElem?_eq_some_iff.1 hg).1
  have hsrc : ∀ c j u, (hC L)[j]? = some u → (w.alloc (.cells c 102)).cell? ((⟨g, 0, none⟩ : Addr).add j) = some u := fun c j u hj => by
   have hjl : j < L.length * 2 := by rw [← hC_len]; exact (List.getElem?_eq_some_iff.1 hj).1
   have e : (⟨g, 0, none⟩ : Addr).add j = ⟨g, j, none⟩ := by rw [add_pl, Nat.zero_add]
   rw [e, (below_a1 w _).cell (p := ⟨g, j, none⟩) hgl, cell_row hg, ← Array.getElem?_toList]
   rw [← htk, List.getElem?_take_of_lt (by omega)] at hj
   exact hj
  have hc63 : cap ≤ 9223372036854775807 := by unfold maxLen at hcap; omega
  have HS := Lib.hid hsrc
  clear hsrc h htk hg hcs
  go_enter Try.func68, Try.ntmps68
  go_wp2_with (at_builtin; go_loud (refine wpList_append_lies _ rfl _ _ 103 rfl w.heap.size 102 i0 (.agg #[.int .i64 0, .int .i64 0]) 2 16 Try.underlying103 hi hz0 hz1 hz2 rfl (by decide) (.slice (some ⟨w.heap.size, 0, none⟩) 0 0) 0 [] rfl ⟨rfl, .inr ⟨w.heap.size, 0, #[], rfl, Nat.le_refl _, heap_alloc_new w _, Nat.le_refl _, by decide, rfl, rfl⟩⟩ ⟨g, 0, none⟩ L.length cap (hC L) rfl (by rw [hC_len]) (HS.out _) (hC_one L) (by unfold maxLen; omega) (by omega) (by simp) ?_))
  intro v' w' own gr _
  have HO : Hid (HRow w' w.heap.size v' L) := Lib.hid (by unfold HRow; exact own)
  have hb : Below w.heap.size w w' := (below_a1 w _).trans ((Below.refl _ _).grown gr (by simp) (fun k hk => by cases hk; exact Nat.le_refl _))
  clear own gr
  go_wp2
  go_ret
  exact ⟨_, rfl, HO.out, hb⟩
end Go.Proofs.Ytdlpfiiakmhnlaa

namespace Go.Proofs.Ytdlpfiiakmhnlaa
open Go.RowKit

/-- a store half copied: k rows -/
structure CP (B : Nat) (w : World) (cb : Nat) (po : Option Addr) (pc : Nat) (vo : Value) (VS : Nat → Value) (N k : Nat) (X Y : Nat → Int) (O : Nat → List (Nat × Nat)) (n : Int) : Prop where
  blk : Blk w cb #[.slice po N pc, vo, .int .i64 n] 87
  pts : PO w B (.slice po N pc) N X Y
  out : w.ownsRow B 103 1 vo k ((List.range k).map VS)
  rows : ∀ a, a < k → HRow w B (VS a) (O a)
  apart : ∀ a b g, a < k → b < k → a ≠ b → (VS a).ownBlock = some g → (VS b).ownBlock ≠ some g
  lo : B ≤ cb
theorem own_keep {w w' : World} {base : Nat} {ty : TypeId} {s : Nat} {v : Value} {k : Nat} {L : List Value} (h : w.ownsRow base ty s v k L) (hk : ∀ g, v.ownBlock = some g → w'.heap[g]? = w.heap[g]?) : w'.ownsRow base ty s v k L := by
  refine ⟨h.1, h.2.imp id ?_⟩
  rintro ⟨g, cap, cur, rfl, hb, hg, r⟩
  exact ⟨g, cap, cur, rfl, hb, (hk g rfl).trans hg, r⟩
theorem own_low {w : World} {base base' : Nat} {ty : TypeId} {s : Nat} {v : Value} {k : Nat} {L : List Value} (h : w.ownsRow base ty s v k L) (hb : base' ≤ base) : w.ownsRow base' ty s v k L := by
  refine ⟨h.1, h.2.imp id ?_⟩
  rintro ⟨g, cap, cur, rfl, hg, r⟩
  exact ⟨g, cap, cur, rfl, Nat.le_trans hb hg, r⟩
theorem own_typ {w : World} {base : Nat} {ty : TypeId} {s : Nat} {v : Value} {k : Nat} {L : List Value} (h : w.ownsRow base ty s v k L) {g : Nat} (hg : v.ownBlock = some g) : ∃ cur, w.heap[g]? = some (.cells cur ty (0, 0)) := by
  rcases h.2 with ⟨rfl, _⟩ | ⟨g', cap, cur, rfl, _, h1, _⟩
  · cases hg
  · cases hg; exact ⟨cur, h1⟩
theorem typ_ne {w : World} {g g' : Nat} {c c' : Array Value} {t t' : TypeId} (h : w.heap[g]? = some (.cells c t (0, 0))) (h' : w.heap[g']? = some (.cells c' t' (0, 0))) (hne : t ≠ t') : g ≠ g' := by
  rintro rfl
  rw [h] at h'; injection h' with h'; injection h' with _ e; exact hne e
theorem CP.of {B : Nat} {w w' : World} {cb : Nat} {po : Option Addr} {pc : Nat} {vo : Value} {VS : Nat → Value} {N k : Nat} {X Y : Nat → Int} {O : Nat → List (Nat × Nat)} {n : Int} (h : CP B w cb po pc vo VS N k X Y O n) (hb : Below w.heap.size w w') : CP B w' cb po pc vo VS N k X Y O n :=
  ⟨h.blk.of hb, own_keep h.pts fun g hg => hb.block g (World.ownsRow.lt h.pts g hg).2, own_keep h.out fun g hg => hb.block g (World.ownsRow.lt h.out g hg).2, fun a ha => (h.rows a ha).of hb, h.apart, h.lo⟩
/-- one row more -/
theorem CP.add {B : Nat} {w1 w2 : World} {cb : Nat} {po : Option Addr} {pc : Nat} {vo : Value} {VS : Nat → Value} {N k : Nat} {X Y : Nat → Int} {O : Nat → List (Nat × Nat)} {n : Int} {M : Nat} {v' vo' : Value} (h : CP B w1 cb po pc vo VS N k X Y O n) (hM : ∀ a g, a < k → (VS a).ownBlock = some g → g < M) (hBM : B ≤ M)
    (hr : HRow w1 M v' (O k)) (ho : w2.ownsRow B 103 1 vo' (k + 1) ((List.range k).map VS ++ [v'])) (hg : w1.grownBy w2 vo.ownBlock) (w3 : World) (h3 : w3 = w2.setCell ⟨cb, 1, none⟩ vo') (hov : ∀ g, vo'.ownBlock = some g → g ≠ cb) :
    CP B w3 cb po pc vo' (fun a => if a = k then v' else VS a) N (k + 1) X Y O n ∧ (∀ g, g < w1.heap.size → g ≠ cb → vo.ownBlock ≠ some g → w3.heap[g]? = w1.heap[g]?) ∧ w1.heap.size ≤ w3.heap.size := by
 subst h3
 have cbt : ∃ c, w1.heap[cb]? = some (.cells c 87 (0, 0)) := ⟨_, h.blk⟩
 obtain ⟨cc, hcb⟩ := cbt
 have key : ∀ g, g < w1.heap.size → g ≠ cb → vo.ownBlock ≠ some g → (w2.setCell ⟨cb, 1, none⟩ vo').heap[g]? = w1.heap[g]? := fun g h1 h2 h3 => (Below.heap_setCell w2 ⟨cb, 1, none⟩ vo' g h2).trans (hg.block g h1 fun e => h3 e.symm)
 have keyT : ∀ (g : Nat) (ty : TypeId) (c : Array Value), w1.heap[g]? = some (Obj.cells c ty (0, 0)) → ty ≠ 87 → ty ≠ 103 → (w2.setCell ⟨cb, 1, none⟩ vo').heap[g]? = w1.heap[g]? := fun g ty c h1 h2 h3 => key g (Array.getElem?_eq_some_iff.1 h1).1 (typ_ne h1 hcb h2) fun e => by
  obtain ⟨c', hc'⟩ := own_typ h.out e
  exact typ_ne h1 hc' h3 rfl
 have ncb : vo.ownBlock ≠ some cb := fun e => by
  obtain ⟨c', hc'⟩ := own_typ h.out e
  exact typ_ne hcb hc' (by decide) rfl
 have hrk : ∀ v L B', HRow w1 B' v L → HRow (w2.setCell ⟨cb, 1, none⟩ vo') B' v L := fun v L B' hv => own_keep hv fun g hg => by
  obtain ⟨c, hc⟩ := own_typ hv hg
  exact keyT g _ c hc (by decide) (by decide)
 refine ⟨⟨?_, ?_, ?_, ?_, ?_, h.lo⟩, key, by simp [World.setCell]; exact hg.size⟩
 ·have h1 : Blk w2 cb #[.slice po N pc, vo, .int .i64 n] 87 := (hg.block cb (Array.getElem?_eq_some_iff.1 hcb).1 fun e => ncb e.symm).trans h.blk
  exact h1.put 1 vo'
 ·exact own_keep h.pts fun g hgg => by
   obtain ⟨c, hc⟩ := own_typ h.pts hgg
   exact keyT g _ c hc (by decide) (by decide)
 ·have e : (List.range (k + 1)).map (fun a => if a = k then v' else VS a) = (List.range k).map VS ++ [v'] := by
   rw [List.range_succ, List.map_append]
   congr 1
   ·refine List.map_congr_left fun a ha => ?_
    rw [if_neg (by have := List.mem_range.1 ha; omega)]
   ·simp
  rw [e]
  exact own_keep ho fun g hgg => Below.heap_setCell w2 ⟨cb, 1, none⟩ vo' g (hov g hgg)
 ·intro a ha
  by_cases e : a = k
  ·subst e
   simp only [if_true]
   exact own_low (hrk _ _ _ hr) hBM
  ·simp only [if_neg e]
   exact hrk _ _ _ (h.rows a (by omega))
 ·intro a b g ha hb hne h1 h2
  have hlo : ∀ g, v'.ownBlock = some g → M ≤ g := fun g hg => (World.ownsRow.lt hr g hg).1
  by_cases ea : a = k
  ·have eb : b ≠ k := by omega
   rw [if_pos ea] at h1
   rw [if_neg eb] at h2
   have := hlo g h1
   have := hM b g (by omega) h2
   omega
  ·rw [if_neg ea] at h1
   by_cases eb : b = k
   ·rw [if_pos eb] at h2
    have := hlo g h2
    have := hM a g (by omega) h1
    omega
   ·rw [if_neg eb] at h2
    exact h.apart a b g (by omega) (by omega) hne h1 h2
/-- a store that is copied whole -/
theorem CP.sm {B : Nat} {w w0 : World} {cb t : Nat} {D : SD} {po : Option Addr} {pc : Nat} {vo : Value} {VS : Nat → Value} {N : Nat} {X Y : Nat → Int} {O : Nat → List (Nat × Nat)} {n : Int} (h : CP B w cb po pc vo VS N N X Y O n) (hN : 0 < N) (h0 : SM w0 t D N X Y O n) : ∃ D' : SD, SM w cb D' N X Y O n ∧ ∀ g, D'.has cb N g → B ≤ g := by
  obtain ⟨ao, cap, e, hp, hty⟩ := PO.pts h.pts
  injection e with e1 e2 e3
  subst e1; subst e3
  rcases h.out.2 with ⟨_, h1⟩ | ⟨ob, oc, cur, rfl, hlo, hob, hc1, hc2, hcs, htk⟩
  · omega
  · refine ⟨⟨po, pc, ob, oc, VS⟩, ⟨h.blk, hp, fun h1 => ?_, ⟨cur, hob, fun a ha => ?_⟩, hc1, by unfold maxLen at hc2; show oc ≤ _; omega, fun a ha => own_low (h.rows a ha) (Nat.zero_le _), h.apart, h0.small, h0.dom, h0.sort⟩, ?_⟩
    · obtain ⟨a, cur, q1, _, q2⟩ := hty h1
      exact ⟨a, cur, q1, q2⟩
    · have : ((List.range N).map VS)[a]? = some (VS a) := by rw [List.getElem?_map, List.getElem?_range ha]; rfl
      rw [← htk, List.getElem?_take_of_lt (by omega), Array.getElem?_toList] at this
      exact this
    · rintro g (rfl | rfl | ⟨a, ha, hg⟩)
      · exact h.lo
      · exact hlo
      · exact (World.ownsRow.lt (h.rows a ha) g hg).1
end Go.Proofs.Ytdlpfiiakmhnlaa

namespace Go.Proofs.Ytdlpfiiakmhnlaa
open Go.RowKit

theorem own_val {w : World} {base : Nat} {ty : TypeId} {s : Nat} {v : Value} {k : Nat} {L : List Value} (h : w.ownsRow base ty s v k L) : ∃ ao cc, v = .slice ao k cc := by
  rcases h.2 with ⟨rfl, rfl⟩ | ⟨g, cap, cur, rfl, _⟩
  · exact ⟨_, _, rfl⟩
  · exact ⟨_, _, rfl⟩
set_option maxRecDepth 100000 in
set_option maxHeartbeats 2000000 in
theorem Copy_is (t : Nat) (D : SD) (N : Nat) (X Y : Nat → Int) (O : Nat → List (Nat × Nat)) (n : Int) (w : World) (h : SM w t D N X Y O n) :
    Calls Try.prog 31 #[ptr t 0] w fun e w' => ∃ (cb : Nat) (po : Option Addr) (pc : Nat) (vo : Value) (VS : Nat → Value), e = .returned (ptr cb 0) ∧ CP w.heap.size w' cb po pc vo VS N N X Y O n ∧ Below w.heap.size w w' := by
 have HM := Lib.hid h
 obtain ⟨c0, c1, c2⟩ := h.c
 have hsm := h.small
 have lt := h.blk.lt
 have hcl := h.pts.capl
 have hcb := h.pts.capb
 clear h
 go_enter Try.func31, Try.ntmps31
 go_wp2_with fail
 refine wp_region_up w.heap.size 9 [(true, 0), (true, 1), (true, 2), (true, 3), (true, 5), (true, 6), (true, 7), (true, 8), (false, 4)] (by kernel_rfl) (by kernel_rfl) (fun _ _ d _ _ h => by cases d <;> exact h) ?_
 have hb : Below w.heap.size w w.drew := (Below.refl _ _).drew
 iterate 8
  first | refine wpS_takeL rfl rfl ?_ | refine wpS_takeN rfl ⟨_, rfl⟩ ?_
  go_big_quiet_step (rfl)
  refine wpQuiet_nil ?_
 refine wpS_doL rfl ?_
 intro K hK
 go_wp2_with ((go_at_call 42; (refine (ClonePt_is D.po N D.pc X Y _ (HM.out.pts.of hb) hsm).mono ?_); rintro e w2 ⟨v, rfl, hpo, hn⟩))
 replace hb := hb.trans (hn.mono hb.size)
 refine hK.out _ _ (up_iff.2 hb) ?_
 clear hK K
 clear hn
 refine wpS_nil ?_
 simp only [List.drop_succ_cons, List.drop_zero]
 obtain ⟨po, pc, rfl, hp1, _⟩ := PO.pts hpo
 have HPO := Lib.hid hpo
 have HB := Lib.hid hb
 obtain ⟨i0, hi, hz0, hz1, hz2⟩ := info_parts info_row
 clear hpo hp1 c0 c1 c2 lt
 obtain ⟨c0, c1, c2⟩ := (HM.out.of hb).c
 have lt := (HM.out.of hb).blk.lt
 clear hb
 go_wp2_with fail
 have hb3 := below_a1 w2 (.cells #[.slice po N pc, .slice none 0 0, .int .i64 n] 87)
 have hcp : CP w.heap.size (w2.alloc (.cells #[.slice po N pc, .slice none 0 0, .int .i64 n] 87)) w2.heap.size po pc (.slice none 0 0) (fun _ => .slice none 0 0) N 0 X Y O n := by
  refine ⟨Blk.new w2 _ _, own_low (own_keep HPO.out fun g hg => hb3.block g (World.ownsRow.lt HPO.out g hg).2) (Nat.le_refl _), ⟨rfl, .inl ⟨rfl, rfl⟩⟩, fun a ha => by omega, fun a b g ha => by omega, HB.out.size⟩
 have HCP := Lib.hid hcp
 have HB3 := Lib.hid (HB.out.trans (hb3.mono HB.out.size))
 obtain ⟨cb, hcbe⟩ : ∃ b, w2.heap.size = b := ⟨_, rfl⟩
 refine name_world ?_
 intro W4 hW4
 rw [← hW4] at HCP HB3
 rw [hcbe] at HCP ⊢
 have HBT := Lib.hid (show w.heap.size ≤ cb by rw [← hcbe]; exact HB.out.size)
 clear hb3 hcp hW4 hcbe HPO HB c0 c1 c2 lt
 go_loopg [22] N (fun gk s22 wr => ∃ (k : Nat) (vo : Value) (VS : Nat → Value), s22 = .int .i64 k ∧ k ≤ N ∧ N - k ≤ gk ∧ Hid (CP w.heap.size wr cb po pc vo VS N k X Y O n) ∧ Hid (Below w.heap.size w wr))
 case atStart => exact ⟨0, _, _, rfl, Nat.zero_le _, Nat.le_refl _, HCP, HB3⟩
 case round =>
  clear HCP HB3
  obtain ⟨k, vo, VS, rfl, hk, hgk, HC, HW⟩ := hrel
  by_cases hkN : k < N
  ·have HMr := Lib.hid (HM.out.of HW.out)
   have cr := HMr.out.row hkN
   obtain ⟨v, hv⟩ : ∃ v, D.V k = v := ⟨_, rfl⟩
   have hrow := HMr.out.rows k hkN
   rw [hv] at cr hrow
   have HROW := Lib.hid hrow
   have hln := HMr.out.len k hkN
   obtain ⟨ao, cc, hvo⟩ := own_val HC.out.out
   subst hvo
   have kb := HC.out.blk
   have k1 := kb.cell 1
   have lk := kb.lt
   simp only [List.getElem?_toArray, List.getElem?_cons_zero, List.getElem?_cons_succ] at k1
   have hwr := HW.out.size
   clear hv hrow kb
   go_wp2_with fail
   obtain ⟨RL, hRL⟩ : ∃ RL, (Value.slice ao k cc).ownBlock.toList = RL := ⟨_, rfl⟩
   have ncb : cb ∉ RL := by
    rw [← hRL]; intro h
    obtain ⟨c, hc⟩ := own_typ HC.out.out (Option.mem_toList.1 h)
    exact typ_ne hc HC.out.blk (by decide) rfl
   have HRL := Lib.hid hRL
   clear hRL
   refine wp_region_upl RL 9 [(true, 0), (true, 1), (true, 2), (true, 3), (true, 4), (true, 5), (false, 6), (false, 7), (false, 8)] (by kernel_rfl) (by kernel_rfl) (fun _ _ d _ _ h => by cases d <;> exact h) ?_
   have hb : OutL RL wr wr.drew := (OutL.refl _ _).drew
   iterate 6
    first | refine wpS_takeL rfl rfl ?_ | refine wpS_takeN rfl ⟨_, rfl⟩ ?_
    go_big_quiet_step (rfl)
    refine wpQuiet_nil ?_
   refine wpS_doL rfl ?_
   intro K hK
   go_wp2_with fail
   refine (CloneH_is v 0 (O k) _ HROW.out.drew (by omega)).mono ?_
   rintro e w3 ⟨v', rfl, hr3, hn3⟩
   have hb3 : Below wr.heap.size wr w3 := ⟨hn3.os, hn3.tape, hn3.output, hn3.size, hn3.block⟩
   obtain ⟨va, vc, hv', _⟩ := hr3.val
   obtain ⟨ln, hln2⟩ : ∃ l, (O k).length = l := ⟨_, rfl⟩
   rw [hln2] at hv'
   subst hv'
   clear hln2
   go_wp2_with fail
   refine hK.out _ _ (upl (OutL.ofBelow hb3)) ?_
   clear hK K hn3
   refine wpS_doL rfl ?_
   intro K hK
   go_wp2_with fail
   refine name_Kw ?_
   intro Wx hWx
   have kx : Blk Wx w3.heap.size #[.slice va ln vc] 103 := by rw [hWx]; exact Blk.new w3 _ _
   have hb4 : Below w3.heap.size w3 Wx := by rw [hWx]; exact below_a1 _ _
   have hb5 := hb3.trans (hb4.mono hb3.size)
   refine hK.out _ _ (upl (OutL.ofBelow hb5)) ?_
   clear hK K hWx
   have HR5 := Lib.hid (hr3.of hb4)
   have HC5 := Lib.hid (HC.out.of hb5)
   have HB5 := Lib.hid hb5
   have s3 := hb3.size
   have s4 := hb4.size
   have s5 := kx.lt
   obtain ⟨xb, hxb⟩ : ∃ b, w3.heap.size = b := ⟨_, rfl⟩
   rw [hxb] at kx s3 s4 s5 ⊢
   have hsrc : ∀ j u, [Value.slice va ln vc][j]? = some u → Wx.cell? ((⟨xb, 0, none⟩ : Addr).add j) = some u := by
    intro j u hj
    match j, hj with
    | 0, hj => simp at hj; subst hj; exact kx.cell 0
    | j + 1, hj => simp at hj
   have hone : ∀ u ∈ [Value.slice va ln vc], u.oneCell' = true := by intro u hu; simp at hu; subst hu; rfl
   have hown := HC5.out.out
   have hb63 : k + 1 ≤ maxLen := by unfold maxLen; omega
   have hb64 : (k + 1) * 24 ≤ 140737488355328 := by omega
   have hbs : w.heap.size ≤ Wx.heap.size := by omega
   clear hb3 hb4 hb5 hr3 hxb kx
   refine wpS_doL rfl ?_
   intro K hK
   refine wpList_append_own_at _ rfl _ _ 85 rfl w.heap.size 103 i0 (.slice none 0 0) 1 24 Try.underlying85 hi hz0 hz1 hz2 rfl (by decide) (.slice ao k cc) k ((List.range k).map VS) rfl hown ⟨xb, 0, none⟩ 1 1 [.slice va ln vc] rfl rfl hsrc hone hb63 hb64 hbs ?_
   intro v1 w1 own1 gr1 _ hat
   obtain ⟨ao1, cc1, hv1⟩ := own_val own1
   subst hv1
   have hbo5 : OutL RL wr w1 := (OutL.ofBelow HB5.out).trans ⟨gr1.os, gr1.tape, gr1.output, gr1.size, fun g hg hc => gr1.block g hg fun e => hc (by rw [← HRL.out, ← e]; simp)⟩
   have hov : ∀ g, (Value.slice ao1 (k + 1) cc1).ownBlock = some g → g ≠ cb := fun g hg e => by
    rcases hat with h | h
    ·rw [hg, e] at h
     exact ncb (by rw [← HRL.out, ← h]; simp)
    ·rw [hg] at h; injection h with h; omega
   have hadd := CP.add HC5.out (M := wr.heap.size) (fun a g ha hg => (World.ownsRow.lt (HC.out.rows a ha) g hg).2) hwr HR5.out own1 gr1 _ rfl hov
   have HADD := Lib.hid hadd
   have HBO := Lib.hid hbo5
   have k4 : Blk w1 cb #[.slice po N pc, .slice ao k cc, .int .i64 n] 87 := (hbo5.block cb lk ncb).trans HC.out.blk
   have f1 := k4.free 1
   have x1 := k4.cell 1
   simp only [List.getElem?_toArray, List.getElem?_cons_zero, List.getElem?_cons_succ] at x1
   have l1 := k4.lt
   go_wp2_with fail
   refine hK.out _ _ (upl hbo5) ?_
   clear hK K own1 gr1 hat hbo5 hadd hsrc hone hown hov k4
   refine wpS_nil ?_
   simp only [List.drop_succ_cons, List.drop_zero]
   have hbw : Hid (Below w.heap.size wr (w1.setCell ⟨cb, 1, none⟩ (.slice ao1 (k + 1) cc1))) := Lib.hid ⟨HBO.out.os, HBO.out.tape, HBO.out.output, by have := HBO.out.size; simpa [World.setCell] using this, fun g hg => (Below.heap_setCell w1 ⟨cb, 1, none⟩ _ g (by show g ≠ cb; have := HBT.out; omega)).trans (HBO.out.block g (by omega) fun e => by
    rw [← HRL.out] at e
    have := (World.ownsRow.lt HC.out.out g (Option.mem_toList.1 e)).1
    omega)⟩
   go_wp2_with fail
   go_roundg (N - (k + 1))
   case measure => omega
   case rel => exact ⟨k + 1, _, _, by norm_cast, by omega, Nat.le_refl _, Lib.hid HADD.out.1, Lib.hid (HW.out.trans hbw.out)⟩
  ·have hkN2 : k = N := by omega
   subst hkN2
   go_wp2_with fail
   simp [bodyPost, results, Try.results31, go_sem]
   exact ⟨⟨po, pc, vo, VS, HC.out⟩, HW.out⟩
end Go.Proofs.Ytdlpfiiakmhnlaa

namespace Go.Proofs.Ytdlpfiiakmhnlaa
open Go.RowKit

/-- a store above a base, be it without points and rows -/
def ST (B : Nat) (w : World) (t N : Nat) (X Y : Nat → Int) (O : Nat → List (Nat × Nat)) (n : Int) : Prop :=
  (∃ D : SD, SM w t D N X Y O n ∧ ∀ g, D.has t N g → B ≤ g) ∨ (N = 0 ∧ B ≤ t ∧ ∃ po pc ao l c, S0 w t po pc (.slice ao l c) n)
theorem ST.of {B : Nat} {w w' : World} {t N : Nat} {X Y : Nat → Int} {O : Nat → List (Nat × Nat)} {n : Int} (h : ST B w t N X Y O n) (hb : Below w.heap.size w w') : ST B w' t N X Y O n := by
  rcases h with ⟨D, h1, h2⟩ | ⟨h1, h2, po, pc, ao, l, c, h3⟩
  · exact .inl ⟨D, h1.of hb, h2⟩
  · exact .inr ⟨h1, h2, po, pc, ao, l, c, Blk.of h3 hb⟩
theorem CP.st {B : Nat} {w w0 : World} {cb t : Nat} {D : SD} {po : Option Addr} {pc : Nat} {vo : Value} {VS : Nat → Value} {N : Nat} {X Y : Nat → Int} {O : Nat → List (Nat × Nat)} {n : Int} (h : CP B w cb po pc vo VS N N X Y O n) (h0 : SM w0 t D N X Y O n) : ST B w cb N X Y O n := by
  rcases Nat.eq_zero_or_pos N with h1 | h1
  · subst h1
    obtain ⟨ao, cc, rfl⟩ := own_val h.out
    exact .inr ⟨rfl, h.lo, po, pc, ao, 0, cc, h.blk⟩
  · exact .inl (h.sm h1 h0)
theorem allST (B t N : Nat) (X Y : Nat → Int) (O : Nat → List (Nat × Nat)) (n : Int) (L : List Tri3) (hL : preO O N = L) (hlen : L.length < 100000000) (w : World) (h : ST B w t N X Y O n) :
    Calls Try.prog 18 #[ptr t 0] w fun e w' => ∃ v, e = .returned v ∧ TL w' w.heap.size v L ∧ Below w.heap.size w w' := by
  rcases h with ⟨D, h1, h2⟩ | ⟨h1, h2, po, pc, ao, l, c, h3⟩
  · exact all_is t D N X Y O n L hL hlen w h1
  · subst h1
    have e : L = [] := hL.symm
    subst e
    exact all0_is t po pc ao l c n w h3
theorem eqT_self (a b c : Int) : eqT a b c a b c = true := by unfold eqT; simp
end Go.Proofs.Ytdlpfiiakmhnlaa

namespace Go.Proofs.Ytdlpfiiakmhnlaa
open Go.RowKit

set_option maxRecDepth 100000 in
set_option maxHeartbeats 2000000 in
theorem same_eq (B B2 c t N : Nat) (X Y : Nat → Int) (O : Nat → List (Nat × Nat)) (n : Int) (L : List Tri3) (hL : preO O N = L) (hlen : L.length < 100000000) (w : World) (h1 : ST B w c N X Y O n) (h2 : ST B2 w t N X Y O n) :
    Calls Try.prog 32 #[ptr c 0, ptr t 0] w fun e w' => e = .returned (.bool true) ∧ Below w.heap.size w w' := by
 have H1 := Lib.hid h1
 have H2 := Lib.hid h2
 have HL := Lib.hid hL
 clear h1 h2 hL
 go_enter Try.func32, Try.ntmps32
 go_wp2_with fail
 refine (allST B c N X Y O n L HL.out hlen _ H1.out).mono ?_
 rintro e w1 ⟨v1, rfl, tl1, hb1⟩
 obtain ⟨ao1, cap1, rfl, P1⟩ := Trs.ofRow tl1
 have HP1 := Lib.hid P1
 have HB1 := Lib.hid hb1
 clear tl1 P1 hb1
 go_wp2_with fail
 refine (allST B2 t N X Y O n L HL.out hlen _ (H2.out.of HB1.out)).mono ?_
 rintro e w2 ⟨v2, rfl, tl2, hb2⟩
 obtain ⟨ao2, cap2, rfl, P2⟩ := Trs.ofRow tl2
 have HP2 := Lib.hid P2
 have HP1b := Lib.hid (HP1.out.of hb2)
 have HB2 := Lib.hid (HB1.out.trans (hb2.mono HB1.out.size))
 have q1 := P2.capl
 have q2 := P2.capb
 have q3 := HP1.out.capl
 have q4 := HP1.out.capb
 obtain ⟨M, hM⟩ : ∃ m, L.length = m := ⟨_, rfl⟩
 have HM := Lib.hid hM
 rw [hM] at q1 q3 hlen ⊢
 clear tl2 P2 hb2 hM HP1 HB1
 go_wp2_with fail
 go_loopg [19] M (fun gk s19 wr => ∃ k : Nat, s19 = .int .i64 k ∧ k ≤ M ∧ M - k ≤ gk ∧ Hid (Below w.heap.size w wr) ∧ Hid (Below w2.heap.size w2 wr))
 case atStart => exact ⟨0, rfl, Nat.zero_le _, Nat.le_refl _, HB2, Lib.hid (Below.refl _ _)⟩
 case round =>
  clear HB2
  obtain ⟨k, rfl, hk, hgk, HW, HW2⟩ := hrel
  by_cases hkM : k < M
  ·obtain ⟨⟨a, b, d⟩, hx⟩ : ∃ x, L[k]? = some x := ⟨_, List.getElem?_eq_getElem (show k < L.length by rw [HM.out]; exact hkM)⟩
   obtain ⟨g1, e1, l1, f1⟩ := (HP1b.out.of HW2.out).ptr (by have := HM.out; omega)
   obtain ⟨g2, e2, l2, f2⟩ := (HP2.out.of HW2.out).ptr (by have := HM.out; omega)
   subst e1
   subst e2
   obtain ⟨x0, x1, x2⟩ := f1 k _ hx
   obtain ⟨y0, y1, y2⟩ := f2 k _ hx
   simp only at x0 x1 x2 y0 y1 y2
   have he := eqT_self (a : Nat) (b : Nat) (d : Nat)
   clear f1 f2 hx
   go_wp2_with fail
   refine wp_region_up wr.heap.size 8 [(true, 0), (true, 1), (true, 2), (true, 3), (true, 4), (true, 5), (true, 6), (true, 7)] (by kernel_rfl) (by kernel_rfl) (fun _ _ d _ _ h => by cases d <;> exact h) ?_
   have hb : Below wr.heap.size wr wr.drew := (Below.refl _ _).drew
   iterate 8
    refine wpS_takeL rfl rfl ?_
    go_big_quiet_step (rfl)
    refine wpQuiet_nil ?_
   refine wpS_nil ?_
   simp only [List.drop_succ_cons, List.drop_zero]
   have hA := Lib.hid (HW.out.drew)
   have hB := Lib.hid (HW2.out.drew)
   clear x0 x1 x2 y0 y1 y2
   go_wp2_with fail
   go_roundg (M - (k + 1))
   case measure => omega
   case rel => exact ⟨k + 1, by norm_cast, by omega, Nat.le_refl _, hA, hB⟩
  ·have hkM2 : k = M := by omega
   go_wp2
   go_ret
   exact ⟨rfl, HW.out⟩
set_option maxRecDepth 100000 in
set_option maxHeartbeats 2000000 in
theorem same_ne (B B2 c t N : Nat) (X Y : Nat → Int) (O O2 : Nat → List (Nat × Nat)) (n n2 : Int) (L L2 : List Tri3) (M : Nat) (hL : preO O N = L) (hL2 : preO O2 N = L2) (hM : L.length = M) (hM2 : L2.length = M) (hlen : M < 100000000) (hne : L ≠ L2) (w : World) (h1 : ST B w c N X Y O n) (h2 : ST B2 w t N X Y O2 n2) :
    Calls Try.prog 32 #[ptr c 0, ptr t 0] w fun e w' => e = .returned (.bool false) ∧ Below w.heap.size w w' := by
 have H1 := Lib.hid h1
 have H2 := Lib.hid h2
 have HL := Lib.hid hL
 have HL2 := Lib.hid hL2
 have HM := Lib.hid hM
 have HM2 := Lib.hid hM2
 have HNE := Lib.hid hne
 have hl1 : L.length < 100000000 := by omega
 have hl2 : L2.length < 100000000 := by omega
 clear h1 h2 hL hL2 hM hM2 hne
 go_enter Try.func32, Try.ntmps32
 go_wp2_with fail
 refine (allST B c N X Y O n L HL.out hl1 _ H1.out).mono ?_
 rintro e w1 ⟨v1, rfl, tl1, hb1⟩
 obtain ⟨ao1, cap1, rfl, P1⟩ := Trs.ofRow tl1
 have HP1 := Lib.hid P1
 have HB1 := Lib.hid hb1
 clear tl1 P1 hb1
 go_wp2_with fail
 refine (allST B2 t N X Y O2 n2 L2 HL2.out hl2 _ (H2.out.of HB1.out)).mono ?_
 rintro e w2 ⟨v2, rfl, tl2, hb2⟩
 obtain ⟨ao2, cap2, rfl, P2⟩ := Trs.ofRow tl2
 have HP2 := Lib.hid P2
 have HP1b := Lib.hid (HP1.out.of hb2)
 have HB2 := Lib.hid (HB1.out.trans (hb2.mono HB1.out.size))
 have q1 := P2.capl
 have q2 := P2.capb
 have q3 := HP1.out.capl
 have q4 := HP1.out.capb
 rw [HM.out] at q3 ⊢
 rw [HM2.out] at q1 ⊢
 clear tl2 P2 hb2 HP1 HB1 hl1 hl2
 go_wp2_with fail
 go_loopg [19] M (fun gk s19 wr => ∃ k : Nat, s19 = .int .i64 k ∧ k ≤ M ∧ M - k ≤ gk ∧ Hid (Below w.heap.size w wr) ∧ Hid (Below w2.heap.size w2 wr) ∧ Hid (∀ j, j < k → L[j]? = L2[j]?))
 case atStart => exact ⟨0, rfl, Nat.zero_le _, Nat.le_refl _, HB2, Lib.hid (Below.refl _ _), Lib.hid fun j hj => by omega⟩
 case round =>
  clear HB2
  obtain ⟨k, rfl, hk, hgk, HW, HW2, HE⟩ := hrel
  by_cases hkM : k < M
  ·obtain ⟨⟨a, b, d⟩, hx⟩ : ∃ x, L[k]? = some x := ⟨_, List.getElem?_eq_getElem (show k < L.length by rw [HM.out]; exact hkM)⟩
   obtain ⟨⟨a', b', d'⟩, hx2⟩ : ∃ x, L2[k]? = some x := ⟨_, List.getElem?_eq_getElem (show k < L2.length by rw [HM2.out]; exact hkM)⟩
   obtain ⟨g1, e1, l1, f1⟩ := (HP1b.out.of HW2.out).ptr (by have := HM.out; omega)
   obtain ⟨g2, e2, l2, f2⟩ := (HP2.out.of HW2.out).ptr (by have := HM2.out; omega)
   subst e1
   subst e2
   obtain ⟨x0, x1, x2⟩ := f1 k _ hx
   obtain ⟨y0, y1, y2⟩ := f2 k _ hx2
   simp only at x0 x1 x2 y0 y1 y2
   obtain ⟨r, he⟩ : ∃ r, eqT (a : Nat) (b : Nat) (d : Nat) (a' : Nat) (b' : Nat) (d' : Nat) = r := ⟨_, rfl⟩
   have HR := Lib.hid he
   have HX := Lib.hid (And.intro hx hx2)
   clear f1 f2 hx hx2
   cases r with
   | true =>
    go_wp2_with fail
    refine wp_region_up wr.heap.size 8 [(true, 0), (true, 1), (true, 2), (true, 3), (true, 4), (true, 5), (true, 6), (true, 7)] (by kernel_rfl) (by kernel_rfl) (fun _ _ d _ _ h => by cases d <;> exact h) ?_
    have hb : Below wr.heap.size wr wr.drew := (Below.refl _ _).drew
    iterate 8
     refine wpS_takeL rfl rfl ?_
     go_big_quiet_step (rfl)
     refine wpQuiet_nil ?_
    refine wpS_nil ?_
    simp only [List.drop_succ_cons, List.drop_zero]
    have hA := Lib.hid (HW.out.drew)
    have hB := Lib.hid (HW2.out.drew)
    clear x0 x1 x2 y0 y1 y2
    have hE := Lib.hid (show ∀ j, j < k + 1 → L[j]? = L2[j]? from fun j hj => by
     rcases Nat.lt_or_ge j k with h | h
     ·exact HE.out j h
     ·have e : j = k := by omega
      subst e
      rw [HX.out.1, HX.out.2]
      have := HR.out
      unfold eqT at this
      simp at this
      obtain ⟨⟨e1, e2⟩, e3⟩ := this
      rw [show a = a' by omega, show b = b' by omega, show d = d' by omega])
    go_wp2_with fail
    go_roundg (M - (k + 1))
    case measure => omega
    case rel => exact ⟨k + 1, by norm_cast, by omega, Nat.le_refl _, hA, hB, hE⟩
   | false =>
    go_wp2_with fail
    refine wp_region_up wr.heap.size 8 [(true, 0), (true, 1), (true, 2), (true, 3), (true, 4), (true, 5), (true, 6), (true, 7)] (by kernel_rfl) (by kernel_rfl) (fun _ _ d _ _ h => by cases d <;> exact h) ?_
    have hb : Below wr.heap.size wr wr.drew := (Below.refl _ _).drew
    iterate 8
     refine wpS_takeL rfl rfl ?_
     go_big_quiet_step (rfl)
     refine wpQuiet_nil ?_
    refine wpS_nil ?_
    simp only [List.drop_succ_cons, List.drop_zero]
    have hA := Lib.hid (HW.out.drew)
    clear x0 x1 x2 y0 y1 y2
    go_wp2
    go_ret
    exact ⟨rfl, hA.out⟩
  ·exfalso
   have hkM2 : k = M := by omega
   apply HNE.out
   apply List.ext_getElem?
   intro j
   rcases Nat.lt_or_ge j k with h | h
   ·exact HE.out j h
   ·rw [List.getElem?_eq_none (by rw [HM.out]; omega), List.getElem?_eq_none (by rw [HM2.out]; omega)]
end Go.Proofs.Ytdlpfiiakmhnlaa

namespace Go.Proofs.Ytdlpfiiakmhnlaa
open Go.RowKit
attribute [local go_sem] undef

set_option maxRecDepth 100000 in
set_option maxHeartbeats 2000000 in
theorem awake_is (w : World) : Calls Try.prog 11 #[] w fun e w' => e = .returned (.bool true) ∧ Below w.heap.size w w' := by
 go_enter Try.func11, Try.ntmps11
 go_wp2_with fail
 refine calls_w ?_
 intro V hV
 have bV : Below w.heap.size w V := by rw [hV]; exact below_a1 _ _
 have P1 : Pts V (some ⟨w.heap.size, 0, none⟩) 4 4 (lX [0, 0, 2, 2]) (lX [0, 2, 0, 2]) := by
  rw [hV]
  refine Pts.ofBlk (Blk.new w _ _) (by omega) fun i hi => ?_
  rcases (show i = 0 ∨ i = 1 ∨ i = 2 ∨ i = 3 by omega) with rfl | rfl | rfl | rfl <;> exact ⟨rfl, rfl⟩
 clear hV
 refine (Build_tri _ 4 4 _ _ V P1 (by omega) aw_1.1 aw_1.2).mono ?_
 rintro e V2 ⟨t, D, q, T, O, rfl, hT, hS, _, hb⟩
 obtain rfl := aw_q hT.ln
 obtain ⟨h, z, e1, e2, _, _, _, _, _, hH, _⟩ := hT.some (by omega)
 have hl : T.length = 2 := by
  rw [e1]; exact aw_len.1
 have hl2 : (rotH h z).length = 4 := by rw [rotH_len, e2]; exact aw_len.2
 rw [hl] at hS
 have HS := Lib.hid hS
 have HH := Lib.hid hH
 have HL := Lib.hid hl2
 have B2 := Lib.hid (bV.trans (hb.mono bV.size))
 clear P1 hT hS hH hl hl2 e1 e2 hb bV
 go_wp2_with fail
 refine (Len_is t D 4 _ _ O _ V2 HS.out).mono ?_
 rintro e V3 ⟨rfl, hb⟩
 have HS3 := Lib.hid (HS.out.of hb)
 have B3 := Lib.hid (B2.out.trans (hb.mono B2.out.size))
 clear hb HS B2
 go_wp2_with fail
 refine calls_w ?_
 intro V hV
 have bV : Below V3.heap.size V3 V := by rw [hV]; exact below_a1 _ _
 have P1 : Pts V (some ⟨V3.heap.size, 0, none⟩) 3 3 (lX [0, 1, 2]) (lX [0, 0, 0]) := by
  rw [hV]
  refine Pts.ofBlk (Blk.new V3 _ _) (by omega) fun i hi => ?_
  rcases (show i = 0 ∨ i = 1 ∨ i = 2 by omega) with rfl | rfl | rfl <;> exact ⟨rfl, rfl⟩
 clear hV
 refine (Build_tri _ 3 3 _ _ V P1 (by omega) aw_2.1 aw_2.2).mono ?_
 rintro e V4 ⟨t2, D2, q2, T2, O2, rfl, hT, hS, _, hb⟩
 obtain rfl := hT.none (aw_q2 hT.ln)
 have HA := Lib.hid hS
 have BB := bV.trans (hb.mono bV.size)
 have HS4 := Lib.hid (HS3.out.of BB)
 have B4 := Lib.hid (B3.out.trans (BB.mono B3.out.size))
 clear P1 hT hS hb BB bV HS3 B3
 go_wp2_with fail
 refine calls_w ?_
 intro V hV
 have bV : Below V4.heap.size V4 V := by rw [hV]; exact below_a1 _ _
 have P1 : Pts V (some ⟨V4.heap.size, 0, none⟩) 2 2 (lX [1, 0]) (lX [0, 0]) := by
  rw [hV]
  refine Pts.ofBlk (Blk.new V4 _ _) (by omega) fun i hi => ?_
  rcases (show i = 0 ∨ i = 1 by omega) with rfl | rfl <;> exact ⟨rfl, rfl⟩
 clear hV
 refine (Build_fall _ 2 2 _ _ V P1 (by omega) aw_3.1 aw_3.2).mono ?_
 rintro e V5 ⟨rfl, hb⟩
 have BB := bV.trans (hb.mono bV.size)
 have HS5 := Lib.hid (HS4.out.of BB)
 have HA5 := Lib.hid (HA.out.of BB)
 have B5 := Lib.hid (B4.out.trans (BB.mono B4.out.size))
 clear P1 hb BB bV HS4 B4 HA
 go_wp2_with fail
 refine (Len_is t2 D2 3 _ _ O2 _ V5 HA5.out).mono ?_
 rintro e V6 ⟨rfl, hb⟩
 have HS6 := Lib.hid (HS5.out.of hb)
 have B6 := Lib.hid (B5.out.trans (hb.mono B5.out.size))
 clear hb HS5 B5 HA5
 go_wp2_with fail
 refine (Hull_is t D 4 _ _ O _ _ HH.out (by decide) V6 HS6.out).mono ?_
 rintro e V7 ⟨v, rfl, hv, hb⟩
 obtain ⟨ao, cap, rfl, _⟩ := hv.val
 rw [HL.out]
 have B7 := Lib.hid (B6.out.trans (hb.mono B6.out.size))
 clear hb hv HS6 B6
 go_wp2
 go_ret
 exact ⟨rfl, B7.out⟩
end Go.Proofs.Ytdlpfiiakmhnlaa

