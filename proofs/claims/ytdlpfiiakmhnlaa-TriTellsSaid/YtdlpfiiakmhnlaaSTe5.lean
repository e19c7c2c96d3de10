/- The statement TriTellsSaid: for every input the law returns true, and its arguments read as before. Conditions: none. -/
import Derived.Test.YtdlpfiiakmhnlaaSTe4
import Derived.KernelRfl
import Derived.StillTail
import Derived.OrdersHeld
import Derived.Deep.Quiet
import Derived.Below
import Derived.WalkKit
import Derived.Test.YtdlpfiiakmhnlaaProg
import Derived.WalkSpells
import Derived.StillTactics
import Derived.Laws.Pointers
import Derived.Deep.RegionHeld3
import Derived.RowKit3
import Derived.Deep.QuietTactic
import Derived.BigQuiet
import Derived.BigRegion
import Derived.Lib.Hide
import Derived.WalkSmall
import Derived.Laws.BitsAllLaws
import Derived.IntWalk
import Derived.Deep.OwnRows
import Derived.Deep.LoopGhost
import Derived.Shelf.Bits.Mul64
import Derived.Test.YtdlpfiiakmhnlaaRows
import Derived.ProofKit
import Derived.OpenShut
import Derived.ShutString
import Derived.ChangeOld
import Derived.Lib.SmallJoins
import Derived.Laws.IdiomArrays
import Derived.Laws.CopyOwn
import Derived.Laws.AppendOwn
import Derived.Deep.DeepAppendRoom
import Derived.Lib.AppendZerosOnto
import Derived.Lib.Overlaps
import Derived.Deep.RegionLaw
import Derived.Shelf.RegionOpenPlain
import Derived.Deep.RegionWith
import Derived.Sort.LoopGhostIn
import Derived.RangeFuncNested
import Derived.RangeFuncBound
import Derived.RangeFuncCalls
import Derived.RangeFuncLeaves
import Derived.OwnWalk
import Derived.OwnWalkIn
import Derived.TacticsInMore
import Derived.LoopNIn
import Derived.LoopIn
import Derived.Deep.DeepFit
import Derived.Deep.DeepCutAuto
import Derived.Shelf.Abstract
import Derived.Shelf.RegionOpen
import Derived.Maps.OwnIn
import Derived.WalkMore
import Derived.Deep.SlicePairs
namespace Go.Proofs.Ytdlpfiiakmhnlaa
open Go.RowKit Go.Shelf
attribute [local go_sem] Oper.semAt_some undef

theorem hasT_told {O : Nat → List (Nat × Nat)} (hO : Cyc O) {x : Tri3} (h : (x.2.1, x.2.2) ∈ O x.1) : HasT O x := by
  have h1 := (look_mem (hO.srt x.1)).1 h
  exact ⟨h1, hO.rot _ _ _ h1, hO.rot _ _ _ (hO.rot _ _ _ h1)⟩
set_option maxRecDepth 100000 in
set_option maxHeartbeats 8000000 in
theorem TriTells_any (ao : Option Addr) (N cap : Nat) (X Y : Nat → Int) (a st : Int) (w : World) (h : Pts w ao N cap X Y) :
    Calls Try.prog 7 #[.slice ao N cap, .int .i64 a, .int .i64 st] w fun e w' => e = .returned (.bool true) ∧ Below w.heap.size w w' := by
  have HO := Lib.hid h
  have hcl := h.capl
  have hcb := h.capb
  clear h
  refine (callsIn_wide (n := 3)).1 ?_
  refine callsIn_of_wp_marks Try.func7 rfl trivial ?_ rfl
  refine wpIn_wide.2 ?_
  simp only [Try.ntmps7, List.size_toArray, List.length_cons, List.length_nil, Nat.reduceAdd, Nat.reduceSub, Array.replicate_succ, Array.replicate_zero, List.push_toArray, List.append_toArray, List.nil_append, List.cons_append]
  have bA := below_a1 w (.cells #[.int .i64 st] 3)
  by_cases h24 : 24 < N
  · have h24' : (24 : Int) < (N : Int) := by omega
    go_wp2_with fail
    refine (awake_is _).mono ?_
    rintro e V ⟨rfl, hb⟩
    have b2 := bA.trans (hb.mono bA.size)
    clear hb
    go_wp2
    exact ⟨_, by simp [results, Try.results7, go_sem], rfl, b2⟩
  · have h24' : ¬ (24 : Int) < (N : Int) := by omega
    go_wp2_with fail
    refine calls_w ?_
    intro V hV
    have kP : Hid (Blk V w.heap.size #[.int .i64 st] 3) := by rw [hV]; exact Lib.hid (Blk.new w _ _)
    have bV : Hid (Below w.heap.size w V) := by rw [hV]; exact Lib.hid (below_a1 _ _)
    obtain ⟨sb, esb⟩ : ∃ b, w.heap.size = b := ⟨_, rfl⟩
    rw [esb] at kP ⊢
    have hws : w.heap.size ≤ sb := by omega
    clear hV bA
    refine (rising_is ao N cap X Y V (HO.out.of bV.out) (by omega)).mono ?_
    rintro e V2 ⟨b, rfl, hr, hb⟩
    rw [rsP_ris] at hr
    have HR := Lib.hid hr
    have kP2 := kP.out.of hb
    have B2 := Lib.hid (bV.out.trans (hb.mono bV.out.size))
    have s0 := kP2.cell 0
    have ls := kP2.lt
    have KP2 := Lib.hid kP2
    simp only [List.getElem?_toArray, List.getElem?_cons_zero] at s0
    have hws2 : w.heap.size < V2.heap.size := by omega
    clear hr hb kP bV kP2
    have AW : ∀ (ac : Act) (V : World), Below w.heap.size w V → True := fun _ _ _ => trivial
    cases b with
    | false =>
      go_wp2_with fail
      refine (awake_is V2).mono ?_
      rintro e V3 ⟨rfl, hb⟩
      have B3 := B2.out.trans (hb.mono B2.out.size)
      clear hb
      go_wp2
      exact ⟨_, by simp [results, Try.results7, go_sem], rfl, B3⟩
    | true =>
      obtain ⟨hg, hri⟩ := HR.out.1 rfl
      have HG := Lib.hid hg
      have HRI := Lib.hid hri
      clear hg hri
      by_cases hs1 : st < 1
      · go_wp2_with fail
        refine (awake_is V2).mono ?_
        rintro e V3 ⟨rfl, hb⟩
        have B3 := B2.out.trans (hb.mono B2.out.size)
        clear hb
        go_wp2
        exact ⟨_, by simp [results, Try.results7, go_sem], rfl, B3⟩
      · by_cases hs2 : 100 < st
        · go_wp2_with fail
          refine (awake_is V2).mono ?_
          rintro e V3 ⟨rfl, hb⟩
          have B3 := B2.out.trans (hb.mono B2.out.size)
          clear hb
          go_wp2
          exact ⟨_, by simp [results, Try.results7, go_sem], rfl, B3⟩
        · go_wp2_with fail
          refine (Build_tri ao N cap X Y V2 (HO.out.of B2.out) (by omega) HG.out HRI.out).mono ?_
          rintro e V3 ⟨t, D, q, T, O, rfl, hT, hS, hDl, hb⟩
          obtain ⟨hcy, hdm, hcn⟩ := hT.cyc
          have CY := Lib.hid hcy
          have DM := Lib.hid hdm
          have HS := Lib.hid hS
          have kP3 := Lib.hid (KP2.out.of hb)
          have B3 := Lib.hid (B2.out.trans (hb.mono B2.out.size))
          obtain ⟨L, hL⟩ : ∃ L, preO O N = L := ⟨_, rfl⟩
          have HLL := Lib.hid hL
          have hlen : L.length < 100000000 := by rw [← hL]; exact hS.preL
          rw [hL] at hcn
          rw [← hcn] at HS
          have w3 := hb.size
          clear hT hS hb KP2 B2 hL hcy hdm hcn s0 ls hDl
          go_wp2_with fail
          refine calls_w ?_
          intro V4 hV4
          have hb4 : Below V3.heap.size V3 V4 := by rw [hV4]; exact ((below_a1 V3 _).trans ((below_a1 _ _).mono (by simp))).trans ((below_a1 _ _).mono (by simp; omega))
          have kn : Blk V4 V3.heap.size #[.int .i64 0] 3 := by rw [hV4]; exact ((Blk.new V3 _ _).of (below_a1 _ _)).of (below_a1 _ _)
          have km : Blk V4 (V3.heap.size + 1) #[.int .i64 0] 3 := by rw [hV4]; have := (Blk.new (V3.alloc (.cells #[.int .i64 0] 3)) #[.int .i64 0] 3).of (below_a1 _ (.cells #[.int .i64 0] 3)); simpa using this
          have kk : Blk V4 (V3.heap.size + 1 + 1) #[.int .i64 0] 3 := by rw [hV4]; have := Blk.new ((V3.alloc (.cells #[.int .i64 0] 3)).alloc (.cells #[.int .i64 0] 3)) #[.int .i64 0] 3; simpa using this
          obtain ⟨nb, enb⟩ : ∃ b, V3.heap.size = b := ⟨_, rfl⟩
          obtain ⟨mb, emb⟩ : ∃ b, V3.heap.size + 1 = b := ⟨_, rfl⟩
          obtain ⟨kb, ekb⟩ : ∃ b, V3.heap.size + 1 + 1 = b := ⟨_, rfl⟩
          rw [enb] at kn
          rw [emb] at km
          rw [ekb] at kk
          rw [ekb, emb, enb]
          have HS4 := Lib.hid (HS.out.of hb4)
          have KS4 := Lib.hid (kP3.out.of hb4)
          have B4 := Lib.hid (B3.out.trans (hb4.mono B3.out.size))
          have KN4 := Lib.hid kn
          have KM4 := Lib.hid km
          have KK4 := Lib.hid kk
          have o1 : nb < mb := by omega
          have o2 : mb < kb := by omega
          have o3 : kb < V4.heap.size := kk.lt
          have o4 : sb < nb := by have := kP3.out.lt; omega
          have ot : t < nb := by have := HS.out.blk.lt; omega
          have hs0 : 0 < st := by omega
          have HDT := Lib.hid (show ∀ b, D.has t N b → b < nb by intro b hb; have := HS.out.lt hb; omega)
          have HPT := Lib.hid (show ∀ a, D.po = some a → 0 < N → a.block < nb by intro a h1 h2; obtain ⟨a', q1, q2, _⟩ := HS.out.pts.ptr h2; rw [h1] at q1; injection q1 with q1; subst q1; omega)
          have MK4 : Hid (Marks kb V4 []) := Lib.hid trivial
          have ML4 : Hid (∀ d, d ∈ ([] : List Deferred) → ∀ r, d.target = .collected r → r < V4.heap.size) := Lib.hid fun d hd => by cases hd
          obtain ⟨n4, en4⟩ : ∃ x : Int, x = 0 := ⟨_, rfl⟩
          clear hV4 hb4 kn km kk ekb emb enb kP3 B3 w3 HS
          refine (All_is t V4).mono ?_
          rintro e V5 ⟨rfl, kq, hb⟩
          have KN5 := Lib.hid (KN4.out.of hb)
          have KM5 := Lib.hid (KM4.out.of hb)
          have KK5 := Lib.hid (KK4.out.of hb)
          have KS5 := Lib.hid (KS4.out.of hb)
          have HS5 := Lib.hid (HS4.out.of hb)
          have B5 := Lib.hid (B4.out.trans (hb.mono B4.out.size))
          have MK5 := Lib.hid (MK4.out.keep fun r _ h2 => hb.block r h2)
          have ML5 := Lib.hid fun d hd r hr => Nat.lt_of_lt_of_le (ML4.out d hd r hr) hb.size
          have KQ := Lib.hid kq
          have o5 := kq.lt
          have o3 : kb < V4.heap.size := KK4.out.lt
          obtain ⟨qb5, eqb⟩ : ∃ b, V4.heap.size = b := ⟨_, rfl⟩
          rw [eqb] at KQ ⊢
          have o6 : kb < qb5 := by omega
          rw [eqb] at o5
          clear kq hb eqb KN4 KM4 KK4 KS4 HS4 B4 MK4 ML4 o3
          go_wp2_with fail
          refine wp_rangeXP (gf := 63) (lb := #[ptr qb5 0]) (N := L.length) (encs := allE L) (Kp := fun W => Blk W qb5 #[ptr t 0] 25 ∧ SM W t D N X Y O (L.length : Nat)) rfl (fun args w => by go_simp) (All1_tells qb5 t D N X Y O _ L HLL.out _) (fun _ => rfl) 0
            (fun k W => Blk W nb #[.int .i64 (k : Nat)] 3 ∧ Fr V5 W (fun b => b = nb) ∧ (k : Int) < st)
            (fun W => ∃ v : Int, Blk W nb #[.int .i64 v] 3 ∧ Fr V5 W (fun b => b = nb) ∧ v = min st (L.length : Nat)) ?stable5 ?pstable5 ?keeps5 ?start5 ?round5 ?done5 ?hex5 ?post5
          case stable5 =>
            rintro k W W' ⟨j1, j2, j3⟩ hbl
            exact ⟨j1.below hbl (by omega), j2.trans (S' := fun b => V5.heap.size ≤ b) ⟨hbl.os, hbl.tape, hbl.output, hbl.size, fun k _ hk => hbl.block k (by omega)⟩ (fun _ h => .inr h), j3⟩
          case pstable5 =>
            rintro W W' ⟨v, j1, j2, j3⟩ hbl
            exact ⟨v, j1.below hbl (by omega), j2.trans (S' := fun b => V5.heap.size ≤ b) ⟨hbl.os, hbl.tape, hbl.output, hbl.size, fun k _ hk => hbl.block k (by omega)⟩ (fun _ h => .inr h), j3⟩
          case keeps5 =>
            rintro k W ⟨j1, j2, j3⟩
            exact ⟨j2.blk KQ.out (by omega), HS5.out.fr j2 (fun b hb => by have := HDT.out b hb; omega) fun a h1 h2 => by have := HPT.out a h1 h2; omega⟩
          case start5 => exact ⟨KN5.out, ⟨rfl, rfl, rfl, Nat.le_refl _, fun _ _ _ => rfl⟩, by omega⟩
          case done5 =>
            rintro W ⟨j1, j2, j3⟩
            exact ⟨_, j1, j2, by omega⟩
          case hex5 =>
            intro a W h
            refine wp_exit ?_
            exact h
          case round5 =>
            rintro l2 D2 k G W2 hk hG ⟨j1, j2, j3⟩ g1 g2 g3 g4
            have JJ := Lib.hid (And.intro j1 j2)
            obtain ⟨⟨xa, xb, xc⟩, hx⟩ : ∃ x, L[k]? = some x := ⟨_, List.getElem?_eq_getElem hk⟩
            have hE : allE L k = #[tI xa xb xc] := by unfold allE; rw [List.getD_eq_getElem?_getD, hx]; rfl
            clear hx
            rw [hE]
            clear j1 j2 hE
            gi_wp2_with fail
            refine ⟨⟨Fix2.of (OutL.refl [] _) g3 g4 (by simp) (by simp), AboveX.refl _ _ _⟩, ?_⟩
            intro W3 hW3
            obtain ⟨j1, j2⟩ := JJ.out
            have hs3 := hW3.size
            have z2 := j2.size
            have c1 := j1.outl hW3 (by simp; omega)
            have c2 := (j2.blk KS5.out (by omega)).outl hW3 (by simp; omega)
            have F3 : Fr V5 W3 (fun b => b = nb) := j2.trans (S' := fun b => V5.heap.size ≤ b) ⟨hW3.os, hW3.tape, hW3.output, hW3.size, fun g hg hn => hW3.block g hg (by simp; omega)⟩ (fun _ h => .inr h)
            have n0 := c1.cell 0
            have nf := c1.free 0
            have s0 := c2.cell 0
            have ln := c1.lt
            have lsb := c2.lt
            simp only [List.getElem?_toArray, List.getElem?_cons_zero] at n0 s0
            have hkk : (k : Int) < 100 := by omega
            obtain ⟨W4, hW4⟩ : ∃ W, W = W3.setCell ⟨nb, 0, none⟩ (.int .i64 ((k : Int) + 1)) := ⟨_, rfl⟩
            have hwf : ∀ g, g ≠ nb → W4.heap[g]? = W3.heap[g]? := fun g h => by rw [hW4]; exact Below.heap_setCell W3 ⟨nb, 0, none⟩ _ g h
            have kn4 : Blk W4 nb #[.int .i64 ((k : Int) + 1)] 3 := by rw [hW4]; exact c1.put 0 _
            have F4 : Fr V5 W4 (fun b => b = nb) := F3.trans (S' := fun b => b = nb) (by rw [hW4]; exact ⟨rfl, rfl, rfl, by simp [World.setCell], fun g _ hn => Below.heap_setCell W3 ⟨nb, 0, none⟩ _ g hn⟩) (fun _ h => .inl h)
            have FX : Fix2 l2 D2 W3 W4 := ⟨hwf l2 (by omega), hwf D2 (by omega)⟩
            have AX : AboveX (V5.heap.size + 2) G W3 W4 := ⟨by rw [hW4]; simp [World.setCell], fun g h1 _ _ => hwf g (by omega)⟩
            have GG := Lib.hid (And.intro kn4 (And.intro F4 (And.intro FX AX)))
            have HW4 := Lib.hid hW4
            clear JJ j1 j2 hW3 c1 c2 F3 hW4 hwf kn4 F4 FX AX
            by_cases hks : (k : Int) + 1 = st
            · subst hks
              gi_wp2
              rw [← HW4.out]
              exact ⟨⟨GG.out.2.2.1, rfl, _, GG.out.1, GG.out.2.1, by omega⟩, GG.out.2.2.2⟩
            · gi_wp2
              rw [← HW4.out]
              exact ⟨⟨GG.out.2.2.1, G, fun g h => .inl h, hG, GG.out.1, GG.out.2.1, by omega⟩, GG.out.2.2.2⟩
          rintro V6 ⟨n6, j1, j2, en6⟩ hD
          have vs := j2.size
          have hDl := (Array.getElem?_eq_some_iff.1 hD).1
          have KN6 := Lib.hid j1
          have KM6 := Lib.hid (j2.blk KM5.out (by omega))
          have KK6 := Lib.hid (j2.blk KK5.out (by omega))
          have KS6 := Lib.hid (j2.blk KS5.out (by omega))
          have HS6 := Lib.hid (HS5.out.fr j2 (fun b hb => by have := HDT.out b hb; omega) fun a h1 h2 => by have := HPT.out a h1 h2; omega)
          have B6 := Lib.hid (B5.out.trans (j2.below (B := w.heap.size) B5.out.size (fun k h => by omega)))
          have MK6 : Hid (Marks kb V6 ({ target := .collected V5.heap.size, args := #[] } :: [])) := Lib.hid ⟨⟨V5.heap.size, rfl, KK5.out.lt, hD, fun d hd r hr => ML5.out d hd r hr⟩, MK5.out.keepD fun d hd r hr h1 h2 => j2.block r h2 (by omega)⟩
          have ML6 : Hid (∀ d, d ∈ ({ target := .collected V5.heap.size, args := #[] } :: [] : List Deferred) → ∀ r, d.target = .collected r → r < V6.heap.size) := Lib.hid fun d hd r hr => by
            rcases List.mem_cons.1 hd with rfl | hd
            · injection hr with hr; omega
            · have := ML5.out d hd r hr; omega
          clear j1 j2 hD vs hDl KQ o5 o6 KN5 KM5 KK5 KS5 HS5 B5 MK5 ML5
          go_wp2_with fail
          obtain ⟨LE, hLE⟩ : ∃ l, preE N O N = l := ⟨_, rfl⟩
          have HLE := Lib.hid hLE
          clear hLE
          refine (Edges_is t V6).mono ?_
          rintro e V7 ⟨rfl, kq, hb⟩
          have KN7 := Lib.hid (KN6.out.of hb)
          have KM7 := Lib.hid (KM6.out.of hb)
          have KK7 := Lib.hid (KK6.out.of hb)
          have KS7 := Lib.hid (KS6.out.of hb)
          have HS7 := Lib.hid (HS6.out.of hb)
          have B7 := Lib.hid (B6.out.trans (hb.mono B6.out.size))
          have MK7 := Lib.hid (MK6.out.keep fun r _ h2 => hb.block r h2)
          have ML7 := Lib.hid fun d hd r hr => Nat.lt_of_lt_of_le (ML6.out d hd r hr) hb.size
          have KQ := Lib.hid kq
          have o5 := kq.lt
          have o3 : kb < V6.heap.size := KK6.out.lt
          obtain ⟨qb7, eqb⟩ : ∃ b, V6.heap.size = b := ⟨_, rfl⟩
          rw [eqb] at KQ ⊢
          have o6 : kb < qb7 := by omega
          rw [eqb] at o5
          clear kq hb eqb KN6 KM6 KK6 KS6 HS6 B6 MK6 ML6 o3
          go_wp2_with fail
          refine wp_rangeXP (gf := 64) (lb := #[ptr qb7 0]) (N := LE.length) (encs := edE LE) (Kp := fun W => Blk W qb7 #[ptr t 0] 25 ∧ SM W t D N X Y O (L.length : Nat)) rfl (fun args w => by go_simp) (Edges1_tells qb7 t D N X Y O _ LE HLE.out _) (fun _ => rfl) 2
            (fun k W => Blk W mb #[.int .i64 (k : Nat)] 3 ∧ Fr V7 W (fun b => b = mb) ∧ (k : Int) < st)
            (fun W => ∃ v : Int, Blk W mb #[.int .i64 v] 3 ∧ Fr V7 W (fun b => b = mb) ∧ v = min st (LE.length : Nat)) ?stable7 ?pstable7 ?keeps7 ?start7 ?round7 ?done7 ?hex7 ?post7
          case stable7 =>
            rintro k W W' ⟨j1, j2, j3⟩ hbl
            exact ⟨j1.below hbl (by omega), j2.trans (S' := fun b => V7.heap.size ≤ b) ⟨hbl.os, hbl.tape, hbl.output, hbl.size, fun k _ hk => hbl.block k (by omega)⟩ (fun _ h => .inr h), j3⟩
          case pstable7 =>
            rintro W W' ⟨v, j1, j2, j3⟩ hbl
            exact ⟨v, j1.below hbl (by omega), j2.trans (S' := fun b => V7.heap.size ≤ b) ⟨hbl.os, hbl.tape, hbl.output, hbl.size, fun k _ hk => hbl.block k (by omega)⟩ (fun _ h => .inr h), j3⟩
          case keeps7 =>
            rintro k W ⟨j1, j2, j3⟩
            exact ⟨j2.blk KQ.out (by omega), HS7.out.fr j2 (fun b hb => by have := HDT.out b hb; omega) fun a h1 h2 => by have := HPT.out a h1 h2; omega⟩
          case start7 => exact ⟨KM7.out, ⟨rfl, rfl, rfl, Nat.le_refl _, fun _ _ _ => rfl⟩, by omega⟩
          case done7 =>
            rintro W ⟨j1, j2, j3⟩
            exact ⟨_, j1, j2, by omega⟩
          case hex7 =>
            intro a W h
            refine wp_exit ?_
            exact h
          case round7 =>
            rintro l2 D2 k G W2 hk hG ⟨j1, j2, j3⟩ g1 g2 g3 g4
            have JJ := Lib.hid (And.intro j1 j2)
            obtain ⟨⟨xa, xb⟩, hx⟩ : ∃ x, LE[k]? = some x := ⟨_, List.getElem?_eq_getElem hk⟩
            have hE : edE LE k = #[.int .i64 (xa : Nat), .int .i64 (xb : Nat)] := by unfold edE; rw [List.getD_eq_getElem?_getD, hx]; rfl
            clear hx
            rw [hE]
            clear j1 j2 hE
            gi_wp2_with fail
            refine ⟨⟨Fix2.of (OutL.refl [] _) g3 g4 (by simp) (by simp), AboveX.refl _ _ _⟩, ?_⟩
            intro W3 hW3
            obtain ⟨j1, j2⟩ := JJ.out
            have hs3 := hW3.size
            have z2 := j2.size
            have c1 := j1.outl hW3 (by simp; omega)
            have c2 := (j2.blk KS7.out (by omega)).outl hW3 (by simp; omega)
            have F3 : Fr V7 W3 (fun b => b = mb) := j2.trans (S' := fun b => V7.heap.size ≤ b) ⟨hW3.os, hW3.tape, hW3.output, hW3.size, fun g hg hn => hW3.block g hg (by simp; omega)⟩ (fun _ h => .inr h)
            have n0 := c1.cell 0
            have nf := c1.free 0
            have s0 := c2.cell 0
            have ln := c1.lt
            have lsb := c2.lt
            simp only [List.getElem?_toArray, List.getElem?_cons_zero] at n0 s0
            have hkk : (k : Int) < 100 := by omega
            obtain ⟨W4, hW4⟩ : ∃ W, W = W3.setCell ⟨mb, 0, none⟩ (.int .i64 ((k : Int) + 1)) := ⟨_, rfl⟩
            have hwf : ∀ g, g ≠ mb → W4.heap[g]? = W3.heap[g]? := fun g h => by rw [hW4]; exact Below.heap_setCell W3 ⟨mb, 0, none⟩ _ g h
            have kn4 : Blk W4 mb #[.int .i64 ((k : Int) + 1)] 3 := by rw [hW4]; exact c1.put 0 _
            have F4 : Fr V7 W4 (fun b => b = mb) := F3.trans (S' := fun b => b = mb) (by rw [hW4]; exact ⟨rfl, rfl, rfl, by simp [World.setCell], fun g _ hn => Below.heap_setCell W3 ⟨mb, 0, none⟩ _ g hn⟩) (fun _ h => .inl h)
            have FX : Fix2 l2 D2 W3 W4 := ⟨hwf l2 (by omega), hwf D2 (by omega)⟩
            have AX : AboveX (V7.heap.size + 2) G W3 W4 := ⟨by rw [hW4]; simp [World.setCell], fun g h1 _ _ => hwf g (by omega)⟩
            have GG := Lib.hid (And.intro kn4 (And.intro F4 (And.intro FX AX)))
            have HW4 := Lib.hid hW4
            clear JJ j1 j2 hW3 c1 c2 F3 hW4 hwf kn4 F4 FX AX
            by_cases hks : (k : Int) + 1 = st
            · subst hks
              gi_wp2
              rw [← HW4.out]
              exact ⟨⟨GG.out.2.2.1, rfl, _, GG.out.1, GG.out.2.1, by omega⟩, GG.out.2.2.2⟩
            · gi_wp2
              rw [← HW4.out]
              exact ⟨⟨GG.out.2.2.1, G, fun g h => .inl h, hG, GG.out.1, GG.out.2.1, by omega⟩, GG.out.2.2.2⟩
          rintro V8 ⟨n8, j1, j2, en8⟩ hD
          have vs := j2.size
          have hDl := (Array.getElem?_eq_some_iff.1 hD).1
          have KM8 := Lib.hid j1
          have KN8 := Lib.hid (j2.blk KN7.out (by omega))
          have KK8 := Lib.hid (j2.blk KK7.out (by omega))
          have KS8 := Lib.hid (j2.blk KS7.out (by omega))
          have HS8 := Lib.hid (HS7.out.fr j2 (fun b hb => by have := HDT.out b hb; omega) fun a h1 h2 => by have := HPT.out a h1 h2; omega)
          have B8 := Lib.hid (B7.out.trans (j2.below (B := w.heap.size) B7.out.size (fun k h => by omega)))
          have MK8 : Hid (Marks kb V8 ({ target := .collected V7.heap.size, args := #[] } :: [{ target := .collected V5.heap.size, args := #[] }])) := Lib.hid ⟨⟨V7.heap.size, rfl, KK7.out.lt, hD, fun d hd r hr => ML7.out d hd r hr⟩, MK7.out.keepD fun d hd r hr h1 h2 => j2.block r h2 (by omega)⟩
          have ML8 : Hid (∀ d, d ∈ ({ target := .collected V7.heap.size, args := #[] } :: [{ target := .collected V5.heap.size, args := #[] }] : List Deferred) → ∀ r, d.target = .collected r → r < V8.heap.size) := Lib.hid fun d hd r hr => by
            rcases List.mem_cons.1 hd with rfl | hd
            · injection hr with hr; omega
            · have := ML7.out d hd r hr; omega
          clear j1 j2 hD vs hDl KQ o5 o6 KN7 KM7 KK7 KS7 HS7 B7 MK7 ML7
          go_wp2_with fail
          obtain ⟨LA, hLA⟩ : ∃ l, rowO N O a = l := ⟨_, rfl⟩
          have HLA := Lib.hid hLA
          clear hLA
          refine (Around_is t a V8).mono ?_
          rintro e V9 ⟨rfl, kq, kr, hb⟩
          have KN9 := Lib.hid (KN8.out.of hb)
          have KM9 := Lib.hid (KM8.out.of hb)
          have KK9 := Lib.hid (KK8.out.of hb)
          have KS9 := Lib.hid (KS8.out.of hb)
          have HS9 := Lib.hid (HS8.out.of hb)
          have B9 := Lib.hid (B8.out.trans (hb.mono B8.out.size))
          have MK9 := Lib.hid (MK8.out.keep fun r _ h2 => hb.block r h2)
          have ML9 := Lib.hid fun d hd r hr => Nat.lt_of_lt_of_le (ML8.out d hd r hr) hb.size
          have KQ := Lib.hid kq
          have KR := Lib.hid kr
          have o5 := kr.lt
          have o3 : kb < V8.heap.size := KK8.out.lt
          obtain ⟨qb9, eqb⟩ : ∃ b, V8.heap.size = b := ⟨_, rfl⟩
          rw [show V8.heap.size + 1 = qb9 + 1 by rw [eqb]] at KR ⊢
          rw [eqb] at KQ ⊢
          have o6 : kb < qb9 := by omega
          rw [eqb] at o5
          clear kq kr hb eqb KN8 KM8 KK8 KS8 HS8 B8 MK8 ML8 o3
          go_wp2_with fail
          refine wp_rangeXP (gf := 67) (lb := #[ptr qb9 0, ptr (qb9 + 1) 0]) (N := LA.length) (encs := arE LA) (Kp := fun W => Blk W qb9 #[ptr t 0] 25 ∧ Blk W (qb9 + 1) #[.int .i64 a] 3 ∧ SM W t D N X Y O (L.length : Nat)) rfl (fun args w => by go_simp) (Around1_tells qb9 (qb9 + 1) t D N X Y O _ a LA HLA.out _) (fun _ => rfl) 4
            (fun k W => Blk W kb #[.int .i64 (k : Nat)] 3 ∧ Fr V9 W (fun b => b = kb) ∧ (k : Int) < st)
            (fun W => ∃ v : Int, Blk W kb #[.int .i64 v] 3 ∧ Fr V9 W (fun b => b = kb) ∧ v = min st (LA.length : Nat)) ?stable9 ?pstable9 ?keeps9 ?start9 ?round9 ?done9 ?hex9 ?post9
          case stable9 =>
            rintro k W W' ⟨j1, j2, j3⟩ hbl
            exact ⟨j1.below hbl (by omega), j2.trans (S' := fun b => V9.heap.size ≤ b) ⟨hbl.os, hbl.tape, hbl.output, hbl.size, fun k _ hk => hbl.block k (by omega)⟩ (fun _ h => .inr h), j3⟩
          case pstable9 =>
            rintro W W' ⟨v, j1, j2, j3⟩ hbl
            exact ⟨v, j1.below hbl (by omega), j2.trans (S' := fun b => V9.heap.size ≤ b) ⟨hbl.os, hbl.tape, hbl.output, hbl.size, fun k _ hk => hbl.block k (by omega)⟩ (fun _ h => .inr h), j3⟩
          case keeps9 =>
            rintro k W ⟨j1, j2, j3⟩
            exact ⟨j2.blk KQ.out (by omega), j2.blk KR.out (by omega), HS9.out.fr j2 (fun b hb => by have := HDT.out b hb; omega) fun a h1 h2 => by have := HPT.out a h1 h2; omega⟩
          case start9 => exact ⟨KK9.out, ⟨rfl, rfl, rfl, Nat.le_refl _, fun _ _ _ => rfl⟩, by omega⟩
          case done9 =>
            rintro W ⟨j1, j2, j3⟩
            exact ⟨_, j1, j2, by omega⟩
          case hex9 =>
            intro a W h
            refine wp_exit ?_
            exact h
          case round9 =>
            rintro l2 D2 k G W2 hk hG ⟨j1, j2, j3⟩ g1 g2 g3 g4
            have JJ := Lib.hid (And.intro j1 j2)
            obtain ⟨⟨xa, xb⟩, hx⟩ : ∃ x, LA[k]? = some x := ⟨_, List.getElem?_eq_getElem hk⟩
            have hE : arE LA k = #[.int .i64 (xa : Nat), .int .i64 (xb : Nat)] := by unfold arE; rw [List.getD_eq_getElem?_getD, hx]; rfl
            clear hx
            rw [hE]
            clear j1 j2 hE
            gi_wp2_with fail
            refine ⟨⟨Fix2.of (OutL.refl [] _) g3 g4 (by simp) (by simp), AboveX.refl _ _ _⟩, ?_⟩
            intro W3 hW3
            obtain ⟨j1, j2⟩ := JJ.out
            have hs3 := hW3.size
            have z2 := j2.size
            have c1 := j1.outl hW3 (by simp; omega)
            have c2 := (j2.blk KS9.out (by omega)).outl hW3 (by simp; omega)
            have F3 : Fr V9 W3 (fun b => b = kb) := j2.trans (S' := fun b => V9.heap.size ≤ b) ⟨hW3.os, hW3.tape, hW3.output, hW3.size, fun g hg hn => hW3.block g hg (by simp; omega)⟩ (fun _ h => .inr h)
            have n0 := c1.cell 0
            have nf := c1.free 0
            have s0 := c2.cell 0
            have ln := c1.lt
            have lsb := c2.lt
            simp only [List.getElem?_toArray, List.getElem?_cons_zero] at n0 s0
            have hkk : (k : Int) < 100 := by omega
            obtain ⟨W4, hW4⟩ : ∃ W, W = W3.setCell ⟨kb, 0, none⟩ (.int .i64 ((k : Int) + 1)) := ⟨_, rfl⟩
            have hwf : ∀ g, g ≠ kb → W4.heap[g]? = W3.heap[g]? := fun g h => by rw [hW4]; exact Below.heap_setCell W3 ⟨kb, 0, none⟩ _ g h
            have kn4 : Blk W4 kb #[.int .i64 ((k : Int) + 1)] 3 := by rw [hW4]; exact c1.put 0 _
            have F4 : Fr V9 W4 (fun b => b = kb) := F3.trans (S' := fun b => b = kb) (by rw [hW4]; exact ⟨rfl, rfl, rfl, by simp [World.setCell], fun g _ hn => Below.heap_setCell W3 ⟨kb, 0, none⟩ _ g hn⟩) (fun _ h => .inl h)
            have FX : Fix2 l2 D2 W3 W4 := ⟨hwf l2 (by omega), hwf D2 (by omega)⟩
            have AX : AboveX (V9.heap.size + 2) G W3 W4 := ⟨by rw [hW4]; simp [World.setCell], fun g h1 _ _ => hwf g (by omega)⟩
            have GG := Lib.hid (And.intro kn4 (And.intro F4 (And.intro FX AX)))
            have HW4 := Lib.hid hW4
            clear JJ j1 j2 hW3 c1 c2 F3 hW4 hwf kn4 F4 FX AX
            by_cases hks : (k : Int) + 1 = st
            · subst hks
              gi_wp2
              rw [← HW4.out]
              exact ⟨⟨GG.out.2.2.1, rfl, _, GG.out.1, GG.out.2.1, by omega⟩, GG.out.2.2.2⟩
            · gi_wp2
              rw [← HW4.out]
              exact ⟨⟨GG.out.2.2.1, G, fun g h => .inl h, hG, GG.out.1, GG.out.2.1, by omega⟩, GG.out.2.2.2⟩
          rintro V10 ⟨n10, j1, j2, en10⟩ hD
          have vs := j2.size
          have hDl := (Array.getElem?_eq_some_iff.1 hD).1
          have KK10 := Lib.hid j1
          have KN10 := Lib.hid (j2.blk KN9.out (by omega))
          have KM10 := Lib.hid (j2.blk KM9.out (by omega))
          have KS10 := Lib.hid (j2.blk KS9.out (by omega))
          have HS10 := Lib.hid (HS9.out.fr j2 (fun b hb => by have := HDT.out b hb; omega) fun a h1 h2 => by have := HPT.out a h1 h2; omega)
          have B10 := Lib.hid (B9.out.trans (j2.below (B := w.heap.size) B9.out.size (fun k h => by omega)))
          have MK10 : Hid (Marks kb V10 ({ target := .collected V9.heap.size, args := #[] } :: [{ target := .collected V7.heap.size, args := #[] }, { target := .collected V5.heap.size, args := #[] }])) := Lib.hid ⟨⟨V9.heap.size, rfl, KK9.out.lt, hD, fun d hd r hr => ML9.out d hd r hr⟩, MK9.out.keepD fun d hd r hr h1 h2 => j2.block r h2 (by omega)⟩
          have ML10 : Hid (∀ d, d ∈ ({ target := .collected V9.heap.size, args := #[] } :: [{ target := .collected V7.heap.size, args := #[] }, { target := .collected V5.heap.size, args := #[] }] : List Deferred) → ∀ r, d.target = .collected r → r < V10.heap.size) := Lib.hid fun d hd r hr => by
            rcases List.mem_cons.1 hd with rfl | hd
            · injection hr with hr; omega
            · have := ML9.out d hd r hr; omega
          clear j1 j2 hD vs hDl KQ KR o5 o6 KN9 KM9 KK9 KS9 HS9 B9 MK9 ML9
          go_wp2_with fail
          have n0 := KN10.out.cell 0
          have m0 := KM10.out.cell 0
          have k0 := KK10.out.cell 0
          have s0 := KS10.out.cell 0
          have l1 := KN10.out.lt
          have l2 := KM10.out.lt
          have l3 := KK10.out.lt
          have l4 := KS10.out.lt
          simp only [List.getElem?_toArray, List.getElem?_cons_zero] at n0 m0 k0 s0
          have hm8 : ¬ st < n8 := by omega
          have hdm : decide (st < n8) = false := by simp; omega
          have hle : (((L.length : Nat) : Int) < st ∧ n6 = ((L.length : Nat) : Int)) ∨ (¬ ((L.length : Nat) : Int) < st ∧ n6 = st) := by omega
          clear en6 en8
          have REST : ∀ (V : World), True → True := fun _ _ => trivial
          rcases hle with ⟨hml, hle⟩ | ⟨hml, hle⟩ <;> subst hle
          · by_cases hc1 : a < 0
            · have hk0 : n10 = 0 := by
                have : LA = [] := by rw [← HLA.out]; unfold rowO; rw [if_neg (by omega)]
                rw [this] at en10; simp at en10; omega
              subst hk0
              clear en10
              have hda : decide (a < 0) = true := by simp; omega
              skip
              refine wp_noP ?_
              refine wp_region_up V10.heap.size 18 [(true, 0), (true, 1), (true, 2), (false, 3), (true, 4), (true, 5), (true, 6), (true, 7), (true, 8), (true, 9), (true, 10), (true, 11), (true, 12), (true, 13), (true, 14), (true, 15), (true, 16), (true, 17)] (by kernel_rfl) (by kernel_rfl) (fun _ _ d _ _ h => by cases d <;> exact h) ?_
              have hb : Below V10.heap.size V10 V10.drew := (Below.refl _ _).drew
              iterate 3
                first | refine wpS_takeL rfl rfl ?_ | refine wpS_takeB rfl rfl rfl ?_ | refine wpS_takeMin rfl rfl rfl ?_
                first | go_big_quiet_step (rfl) | (go_big_quiet_want; go_big_quiet_op; refine ⟨_, fun _ => rfl, ?_⟩; go_big_quiet_on)
                refine wpQuiet_nil ?_
              refine wpS_doL rfl ?_
              intro K hK
              go_wp2_with ((go_at_call 30; (with_reducible refine (Len_is t D N X Y O (L.length : Nat) _ (HS10.out.of hb)).mono ?_); rintro e w2 ⟨rfl, hn⟩))
              replace hb := hb.trans (hn.mono hb.size)
              refine hK.out _ _ (up_iff.2 hb) ?_
              clear hK K
              clear hn
              iterate 14
                first | refine wpS_takeL rfl rfl ?_ | refine wpS_takeB rfl rfl rfl ?_ | refine wpS_takeMin rfl rfl rfl ?_
                first | go_big_quiet_step (rfl) | (go_big_quiet_want; go_big_quiet_op; refine ⟨_, fun _ => rfl, ?_⟩; go_big_quiet_on)
                refine wpQuiet_nil ?_
              refine wpS_nil ?_
              simp only [List.drop_succ_cons, List.drop_zero]
              clear hda
              have HS11 := Lib.hid (HS10.out.of hb)
              have B11 := Lib.hid (B10.out.trans (hb.mono B10.out.size))
              have MK11 := Lib.hid (MK10.out.keep fun r _ h2 => hb.block r h2)
              have k1 := (KK10.out.of hb).cell 0
              simp only [List.getElem?_toArray, List.getElem?_cons_zero] at k1
              have l5 := (KK10.out.of hb).lt
              go_wp2_with fail
              first | (rw [noP_normal]; go_wp2_with fail) | skip
              clear hb n0 m0 k0 s0 k1 l1 l2 l3 l4 l5 KN10 KM10 KK10 KS10 B10 MK10 ML10 HS10 hm8 hdm hml
              refine (Copy_is t D N X Y O _ w2 HS11.out).mono ?_
              rintro e V12 ⟨cb, po, pc, vo, VS, rfl, hcp, hb⟩
              have HC12 := Lib.hid (hcp.st HS11.out)
              have hw12 := hb.size
              have HS12 := Lib.hid (HS11.out.of hb)
              have B12 := Lib.hid (B11.out.trans (hb.mono B11.out.size))
              have MK12 := Lib.hid (MK11.out.keep fun r _ h2 => hb.block r h2)
              have HDW := Lib.hid (show ∀ b, D.has t N b → b < w2.heap.size from fun b hb => HS11.out.lt hb)
              have HPW := Lib.hid (show ∀ a, D.po = some a → 0 < N → a.block < w2.heap.size by intro a h1 h2; obtain ⟨a', q1, q2, _⟩ := HS11.out.pts.ptr h2; rw [h1] at q1; injection q1 with q1; subst q1; exact q2)
              have HML := Lib.hid MK11.out.lt
              have hww := B11.out.size
              clear hcp hb HS11 B11 MK11
              go_wp2_with fail
              refine (same_is _ cb t D N X Y O _ L HLL.out hlen _ HC12.out HS12.out).mono ?_
              rintro e V13 ⟨rfl, hb⟩
              have HC13 := Lib.hid (HC12.out.of hb)
              have hw13 : w2.heap.size ≤ V13.heap.size := Nat.le_trans hw12 hb.size
              have HS13 := Lib.hid (HS12.out.of hb)
              have B13 := Lib.hid (B12.out.trans (hb.mono B12.out.size))
              have MK13 := Lib.hid (MK12.out.keep fun r _ h2 => hb.block r h2)
              clear hb HS12 B12 MK12 HC12
              go_wp2_with fail
              refine (allST _ cb N X Y O _ L HLL.out hlen _ HC13.out).mono ?_
              rintro e V14 ⟨v, rfl, tl, hb⟩
              obtain ⟨ao4, cap4, rfl, P4⟩ := Trs.ofRow tl
              have HT14 := Lib.hid tl
              have HP14 := Lib.hid P4
              have q1 := P4.capl
              have q2 := P4.capb
              have HC14 := Lib.hid (HC13.out.of hb)
              have HC13b : w2.heap.size ≤ V13.heap.size := hw13
              have HS14 := Lib.hid (HS13.out.of hb)
              have B14 := Lib.hid (B13.out.trans (hb.mono B13.out.size))
              have MK14 := Lib.hid (MK13.out.keep fun r _ h2 => hb.block r h2)
              obtain ⟨M, hM⟩ : ∃ m, L.length = m := ⟨_, rfl⟩
              have HM := Lib.hid hM
              rw [hM] at q1 ⊢
              have HB14 := Lib.hid hb
              clear tl P4 hb HS13 B13 MK13 hM
              go_wp2_with fail
              go_loopg [108] M (fun gk s108 wr => ∃ (k : Nat) (Ok : Nat → List (Nat × Nat)), s108 = .int .i64 (k : Nat) ∧ k ≤ M ∧ M - k ≤ gk ∧ Hid ((∃ Dk : SD, SM wr cb Dk N X Y Ok ((M : Int) - k) ∧ ∀ g, Dk.has cb N g → w2.heap.size ≤ g ∧ (g < V13.heap.size ∨ V14.heap.size ≤ g)) ∨ (N = 0 ∧ ST w2.heap.size wr cb N X Y Ok ((M : Int) - k))) ∧ Hid (∀ j x, k ≤ j → L[j]? = some x → HasT Ok x) ∧ Hid (Fr V14 wr (fun b => w2.heap.size ≤ b ∧ b < V13.heap.size)))
              case atStart =>
                refine ⟨0, O, rfl, Nat.zero_le _, Nat.le_refl _, Lib.hid ?_, Lib.hid fun j x _ hx => ?_, Lib.hid ⟨rfl, rfl, rfl, Nat.le_refl _, fun _ _ _ => rfl⟩⟩
                · have e0 : ((M : Int) - ((0 : Nat) : Int)) = ((L.length : Nat) : Int) := by rw [HM.out]; omega
                  rw [e0]
                  rcases HC13.out with ⟨D1, s1, s2⟩ | h0
                  · exact .inl ⟨D1, s1.of HB14.out, fun g hg => ⟨s2 g hg, .inl (s1.lt hg)⟩⟩
                  · exact .inr ⟨h0.1, HC14.out⟩
                · exact hasT_told CY.out (mem_preO.1 (show x ∈ preO O N by rw [HLL.out]; exact List.mem_iff_getElem?.2 ⟨j, hx⟩)).2.1
              case round =>
                obtain ⟨k, Ok, rfl, hk, hgk, HK, HT, HF⟩ := hrel
                by_cases hkM : k < M
                · obtain ⟨⟨xa, xb, xc⟩, hx⟩ : ∃ x, L[k]? = some x := ⟨_, List.getElem?_eq_getElem (show k < L.length by rw [HM.out]; exact hkM)⟩
                  have hmem := mem_preO.1 (show (xa, xb, xc) ∈ preO O N by rw [HLL.out]; exact List.mem_iff_getElem?.2 ⟨k, hx⟩)
                  have hla := (look_mem (CY.out.srt xa)).1 hmem.2.1
                  obtain ⟨haN, hbN, hcN⟩ := DM.out _ _ _ hla
                  have hab := CY.out.ne _ _ _ hla
                  have hbc := CY.out.ne _ _ _ (CY.out.rot _ _ _ hla)
                  have hca := CY.out.ne _ _ _ (CY.out.rot _ _ _ (CY.out.rot _ _ _ hla))
                  obtain ⟨g0, e0, hg0, hcell⟩ := HP14.out.ptr (by rw [HM.out]; omega)
                  subst e0
                  have hg1 := (HT14.out.lt (g := g0) rfl).1
                  obtain ⟨y0, y1, y2⟩ := hcell k _ hx
                  have x0 := (HF.out.cell (p := ⟨g0, k * 3, none⟩) hg0 (by show ¬ (_ ≤ g0 ∧ g0 < _); omega)).trans y0
                  have x1 := (HF.out.cell (p := ⟨g0, k * 3 + 1, none⟩) hg0 (by show ¬ (_ ≤ g0 ∧ g0 < _); omega)).trans y1
                  have x2 := (HF.out.cell (p := ⟨g0, k * 3 + 2, none⟩) hg0 (by show ¬ (_ ≤ g0 ∧ g0 < _); omega)).trans y2
                  have lg := Nat.lt_of_lt_of_le hg0 HF.out.size
                  simp only [] at x0 x1 x2
                  have HX := Lib.hid hx
                  have HMEM := Lib.hid hmem
                  clear hcell hx hmem hla y0 y1 y2
                  rcases HK.out with ⟨Dk, sk, hdk⟩ | ⟨hN0, _⟩
                  · have SK := Lib.hid sk
                    have HDK := Lib.hid hdk
                    clear sk hdk HK
                    go_wp2_with fail
                    refine calls_w ?_
                    intro W hW
                    have hbW : Below wr.heap.size wr W := by rw [hW]; exact below_a1 _ _
                    clear hW x0 x1 x2
                    refine (Del_yes cb Dk N X Y Ok _ xa xb xc W (SK.out.of hbW) haN hbN hcN hab hbc (fun e => hca e.symm) (HT.out k _ (Nat.le_refl _) HX.out) (by have := HM.out; omega)).mono ?_
                    rintro e W2 ⟨rfl, D', hd1, hd2, hd3, _⟩
                    have hsW := hbW.size
                    have hFV := HF.out.size
                    have HK2 : Hid ((∃ Dk : SD, SM W2 cb Dk N X Y (delT Ok xa xb xc) ((M : Int) - ((k + 1 : Nat) : Int)) ∧ ∀ g, Dk.has cb N g → w2.heap.size ≤ g ∧ (g < V13.heap.size ∨ V14.heap.size ≤ g)) ∨ (N = 0 ∧ ST w2.heap.size W2 cb N X Y (delT Ok xa xb xc) ((M : Int) - ((k + 1 : Nat) : Int)))) := by
                      refine Lib.hid (.inl ⟨D', ?_, fun g hg => ?_⟩)
                      · rw [show ((M : Int) - ((k + 1 : Nat) : Int)) = (M : Int) - (k : Int) - 1 by omega]; exact hd1
                      · rcases hd3 g hg with h | h
                        · exact HDK.out g h
                        · have := HB14.out.size
                          have := HC13b
                          omega
                    have HT2 : Hid (∀ j x, k + 1 ≤ j → L[j]? = some x → HasT (delT Ok xa xb xc) x) := Lib.hid fun j x hj hx => by
                      have hm2 := mem_preO.1 (show x ∈ preO O N by rw [HLL.out]; exact List.mem_iff_getElem?.2 ⟨j, hx⟩)
                      exact told_apart (t := (xa, xb, xc)) (HT.out k _ (Nat.le_refl _) HX.out) (HT.out j x (by omega) hx) HMEM.out.2.2 hm2.2.2 (preO_ne CY.out.srt (by rw [HLL.out]; exact HX.out) (by rw [HLL.out]; exact hx) (by omega))
                    have HF2 : Hid (Fr V14 W2 (fun b => w2.heap.size ≤ b ∧ b < V13.heap.size)) := Lib.hid ((HF.out.trans (Fr.ofBelow (S := fun _ => False) hbW) (fun b hb => hb.elim)).trans hd2 (fun b hb => by have := HDK.out b hb; omega))
                    clear hd1 hd2 hd3 hbW HT HF
                    go_wp2_with fail
                    go_roundg (M - (k + 1))
                    case measure => omega
                    case rel => exact ⟨k + 1, _, by norm_cast, by omega, Nat.le_refl _, HK2, HT2, HF2⟩
                  · exfalso
                    omega
                · have hkM2 : k = M := by omega
                  have HSTk : Hid (ST w2.heap.size wr cb N X Y Ok 0) := by
                    have e0 : ((M : Int) - (k : Int)) = 0 := by omega
                    have h := HK.out
                    rw [e0] at h
                    rcases h with ⟨Dk, sk, hdk⟩ | h
                    · exact Lib.hid (.inl ⟨Dk, sk, fun g hg => (hdk g hg).1⟩)
                    · exact Lib.hid h.2
                  have HSr := Lib.hid (HS14.out.fr HF.out (fun b hb h => by have := HDW.out b hb; omega) (fun a h1 h2 h => by have := HPW.out a h1 h2; omega))
                  have Br := Lib.hid (B14.out.trans (HF.out.below (B := w.heap.size) B14.out.size (fun k h => by omega)))
                  have MKr := Lib.hid (MK14.out.keepD fun d hd r hr h1 h2 => HF.out.block r h2 (fun h => by have := HML.out d hd r hr; omega))
                  clear HK HT HF
                  go_wp2_with fail
                  refine (LenST _ cb N X Y Ok _ wr HSTk.out).mono ?_
                  rintro e W1 ⟨rfl, hb⟩
                  have HS1 := Lib.hid (HSr.out.of hb)
                  have B1 := Lib.hid (Br.out.trans (hb.mono Br.out.size))
                  have MK1 := Lib.hid (MKr.out.keep fun r _ h2 => hb.block r h2)
                  clear hb HSr Br MKr HSTk
                  go_wp2_with fail
                  refine (Len_is t D N X Y O _ W1 HS1.out).mono ?_
                  rintro e W2 ⟨rfl, hb⟩
                  have HS2 := Lib.hid (HS1.out.of hb)
                  have B2 := Lib.hid (B1.out.trans (hb.mono B1.out.size))
                  have MK2 := Lib.hid (MK1.out.keep fun r _ h2 => hb.block r h2)
                  clear hb HS1 B1 MK1
                  go_wp2_with fail
                  refine (all_is t D N X Y O _ L HLL.out hlen W2 HS2.out).mono ?_
                  rintro e W3 ⟨v3, rfl, tl3, hb⟩
                  obtain ⟨ao5, cap5, rfl, _⟩ := Trs.ofRow tl3
                  have B3 := Lib.hid (B2.out.trans (hb.mono B2.out.size))
                  have MK3 := Lib.hid (MK2.out.keep fun r _ h2 => hb.block r h2)
                  clear hb tl3 HS2 B2 MK2
                  go_wp2_with fail
                  refine (awake_is W3).mono ?_
                  rintro e W4 ⟨rfl, hb⟩
                  have B4 := Lib.hid (B3.out.trans (hb.mono B3.out.size))
                  have MK4 := Lib.hid (MK3.out.keep fun r _ h2 => hb.block r h2)
                  clear hb B3 MK3
                  go_wp2
                  refine leaves_marks (B := w.heap.size) (y := kb) (by omega) (fun _ => False) _ W4 B4.out.size MK4.out (fun _ _ _ _ h => h) fun w' hb => ?_
                  exact ⟨_, by simp [results, Try.results7, go_sem], rfl, B4.out.trans hb.1⟩
            · by_cases hc2 : ((N : Nat) : Int) ≤ a
              · have hk0 : n10 = 0 := by
                  have : LA = [] := by rw [← HLA.out]; unfold rowO; rw [if_neg (by omega)]
                  rw [this] at en10; simp at en10; omega
                subst hk0
                clear en10
                have hda : decide (a < 0) = false := by simp; omega
                have hdb : decide (((N : Nat) : Int) ≤ a) = true := by simp; omega
                skip
                refine wp_noP ?_
                refine wp_region_up V10.heap.size 18 [(true, 0), (true, 1), (true, 2), (false, 3), (true, 4), (true, 5), (true, 6), (true, 7), (true, 8), (true, 9), (true, 10), (true, 11), (true, 12), (true, 13), (true, 14), (true, 15), (true, 16), (true, 17)] (by kernel_rfl) (by kernel_rfl) (fun _ _ d _ _ h => by cases d <;> exact h) ?_
                have hb : Below V10.heap.size V10 V10.drew := (Below.refl _ _).drew
                iterate 3
                  first | refine wpS_takeL rfl rfl ?_ | refine wpS_takeB rfl rfl rfl ?_ | refine wpS_takeMin rfl rfl rfl ?_
                  first | go_big_quiet_step (rfl) | (go_big_quiet_want; go_big_quiet_op; refine ⟨_, fun _ => rfl, ?_⟩; go_big_quiet_on)
                  refine wpQuiet_nil ?_
                refine wpS_doL rfl ?_
                intro K hK
                go_wp2_with ((go_at_call 30; (with_reducible refine (Len_is t D N X Y O (L.length : Nat) _ (HS10.out.of hb)).mono ?_); rintro e w2 ⟨rfl, hn⟩))
                replace hb := hb.trans (hn.mono hb.size)
                refine hK.out _ _ (up_iff.2 hb) ?_
                clear hK K
                clear hn
                iterate 14
                  first | refine wpS_takeL rfl rfl ?_ | refine wpS_takeB rfl rfl rfl ?_ | refine wpS_takeMin rfl rfl rfl ?_
                  first | go_big_quiet_step (rfl) | (go_big_quiet_want; go_big_quiet_op; refine ⟨_, fun _ => rfl, ?_⟩; go_big_quiet_on)
                  refine wpQuiet_nil ?_
                refine wpS_nil ?_
                simp only [List.drop_succ_cons, List.drop_zero]
                clear hda hdb
                have HS11 := Lib.hid (HS10.out.of hb)
                have B11 := Lib.hid (B10.out.trans (hb.mono B10.out.size))
                have MK11 := Lib.hid (MK10.out.keep fun r _ h2 => hb.block r h2)
                have k1 := (KK10.out.of hb).cell 0
                simp only [List.getElem?_toArray, List.getElem?_cons_zero] at k1
                have l5 := (KK10.out.of hb).lt
                go_wp2_with fail
                first | (rw [noP_normal]; go_wp2_with fail) | skip
                clear hb n0 m0 k0 s0 k1 l1 l2 l3 l4 l5 KN10 KM10 KK10 KS10 B10 MK10 ML10 HS10 hm8 hdm hml
                refine (Copy_is t D N X Y O _ w2 HS11.out).mono ?_
                rintro e V12 ⟨cb, po, pc, vo, VS, rfl, hcp, hb⟩
                have HC12 := Lib.hid (hcp.st HS11.out)
                have hw12 := hb.size
                have HS12 := Lib.hid (HS11.out.of hb)
                have B12 := Lib.hid (B11.out.trans (hb.mono B11.out.size))
                have MK12 := Lib.hid (MK11.out.keep fun r _ h2 => hb.block r h2)
                have HDW := Lib.hid (show ∀ b, D.has t N b → b < w2.heap.size from fun b hb => HS11.out.lt hb)
                have HPW := Lib.hid (show ∀ a, D.po = some a → 0 < N → a.block < w2.heap.size by intro a h1 h2; obtain ⟨a', q1, q2, _⟩ := HS11.out.pts.ptr h2; rw [h1] at q1; injection q1 with q1; subst q1; exact q2)
                have HML := Lib.hid MK11.out.lt
                have hww := B11.out.size
                clear hcp hb HS11 B11 MK11
                go_wp2_with fail
                refine (same_is _ cb t D N X Y O _ L HLL.out hlen _ HC12.out HS12.out).mono ?_
                rintro e V13 ⟨rfl, hb⟩
                have HC13 := Lib.hid (HC12.out.of hb)
                have hw13 : w2.heap.size ≤ V13.heap.size := Nat.le_trans hw12 hb.size
                have HS13 := Lib.hid (HS12.out.of hb)
                have B13 := Lib.hid (B12.out.trans (hb.mono B12.out.size))
                have MK13 := Lib.hid (MK12.out.keep fun r _ h2 => hb.block r h2)
                clear hb HS12 B12 MK12 HC12
                go_wp2_with fail
                refine (allST _ cb N X Y O _ L HLL.out hlen _ HC13.out).mono ?_
                rintro e V14 ⟨v, rfl, tl, hb⟩
                obtain ⟨ao4, cap4, rfl, P4⟩ := Trs.ofRow tl
                have HT14 := Lib.hid tl
                have HP14 := Lib.hid P4
                have q1 := P4.capl
                have q2 := P4.capb
                have HC14 := Lib.hid (HC13.out.of hb)
                have HC13b : w2.heap.size ≤ V13.heap.size := hw13
                have HS14 := Lib.hid (HS13.out.of hb)
                have B14 := Lib.hid (B13.out.trans (hb.mono B13.out.size))
                have MK14 := Lib.hid (MK13.out.keep fun r _ h2 => hb.block r h2)
                obtain ⟨M, hM⟩ : ∃ m, L.length = m := ⟨_, rfl⟩
                have HM := Lib.hid hM
                rw [hM] at q1 ⊢
                have HB14 := Lib.hid hb
                clear tl P4 hb HS13 B13 MK13 hM
                go_wp2_with fail
                go_loopg [108] M (fun gk s108 wr => ∃ (k : Nat) (Ok : Nat → List (Nat × Nat)), s108 = .int .i64 (k : Nat) ∧ k ≤ M ∧ M - k ≤ gk ∧ Hid ((∃ Dk : SD, SM wr cb Dk N X Y Ok ((M : Int) - k) ∧ ∀ g, Dk.has cb N g → w2.heap.size ≤ g ∧ (g < V13.heap.size ∨ V14.heap.size ≤ g)) ∨ (N = 0 ∧ ST w2.heap.size wr cb N X Y Ok ((M : Int) - k))) ∧ Hid (∀ j x, k ≤ j → L[j]? = some x → HasT Ok x) ∧ Hid (Fr V14 wr (fun b => w2.heap.size ≤ b ∧ b < V13.heap.size)))
                case atStart =>
                  refine ⟨0, O, rfl, Nat.zero_le _, Nat.le_refl _, Lib.hid ?_, Lib.hid fun j x _ hx => ?_, Lib.hid ⟨rfl, rfl, rfl, Nat.le_refl _, fun _ _ _ => rfl⟩⟩
                  · have e0 : ((M : Int) - ((0 : Nat) : Int)) = ((L.length : Nat) : Int) := by rw [HM.out]; omega
                    rw [e0]
                    rcases HC13.out with ⟨D1, s1, s2⟩ | h0
                    · exact .inl ⟨D1, s1.of HB14.out, fun g hg => ⟨s2 g hg, .inl (s1.lt hg)⟩⟩
                    · exact .inr ⟨h0.1, HC14.out⟩
                  · exact hasT_told CY.out (mem_preO.1 (show x ∈ preO O N by rw [HLL.out]; exact List.mem_iff_getElem?.2 ⟨j, hx⟩)).2.1
                case round =>
                  obtain ⟨k, Ok, rfl, hk, hgk, HK, HT, HF⟩ := hrel
                  by_cases hkM : k < M
                  · obtain ⟨⟨xa, xb, xc⟩, hx⟩ : ∃ x, L[k]? = some x := ⟨_, List.getElem?_eq_getElem (show k < L.length by rw [HM.out]; exact hkM)⟩
                    have hmem := mem_preO.1 (show (xa, xb, xc) ∈ preO O N by rw [HLL.out]; exact List.mem_iff_getElem?.2 ⟨k, hx⟩)
                    have hla := (look_mem (CY.out.srt xa)).1 hmem.2.1
                    obtain ⟨haN, hbN, hcN⟩ := DM.out _ _ _ hla
                    have hab := CY.out.ne _ _ _ hla
                    have hbc := CY.out.ne _ _ _ (CY.out.rot _ _ _ hla)
                    have hca := CY.out.ne _ _ _ (CY.out.rot _ _ _ (CY.out.rot _ _ _ hla))
                    obtain ⟨g0, e0, hg0, hcell⟩ := HP14.out.ptr (by rw [HM.out]; omega)
                    subst e0
                    have hg1 := (HT14.out.lt (g := g0) rfl).1
                    obtain ⟨y0, y1, y2⟩ := hcell k _ hx
                    have x0 := (HF.out.cell (p := ⟨g0, k * 3, none⟩) hg0 (by show ¬ (_ ≤ g0 ∧ g0 < _); omega)).trans y0
                    have x1 := (HF.out.cell (p := ⟨g0, k * 3 + 1, none⟩) hg0 (by show ¬ (_ ≤ g0 ∧ g0 < _); omega)).trans y1
                    have x2 := (HF.out.cell (p := ⟨g0, k * 3 + 2, none⟩) hg0 (by show ¬ (_ ≤ g0 ∧ g0 < _); omega)).trans y2
                    have lg := Nat.lt_of_lt_of_le hg0 HF.out.size
                    simp only [] at x0 x1 x2
                    have HX := Lib.hid hx
                    have HMEM := Lib.hid hmem
                    clear hcell hx hmem hla y0 y1 y2
                    rcases HK.out with ⟨Dk, sk, hdk⟩ | ⟨hN0, _⟩
                    · have SK := Lib.hid sk
                      have HDK := Lib.hid hdk
                      clear sk hdk HK
                      go_wp2_with fail
                      refine calls_w ?_
                      intro W hW
                      have hbW : Below wr.heap.size wr W := by rw [hW]; exact below_a1 _ _
                      clear hW x0 x1 x2
                      refine (Del_yes cb Dk N X Y Ok _ xa xb xc W (SK.out.of hbW) haN hbN hcN hab hbc (fun e => hca e.symm) (HT.out k _ (Nat.le_refl _) HX.out) (by have := HM.out; omega)).mono ?_
                      rintro e W2 ⟨rfl, D', hd1, hd2, hd3, _⟩
                      have hsW := hbW.size
                      have hFV := HF.out.size
                      have HK2 : Hid ((∃ Dk : SD, SM W2 cb Dk N X Y (delT Ok xa xb xc) ((M : Int) - ((k + 1 : Nat) : Int)) ∧ ∀ g, Dk.has cb N g → w2.heap.size ≤ g ∧ (g < V13.heap.size ∨ V14.heap.size ≤ g)) ∨ (N = 0 ∧ ST w2.heap.size W2 cb N X Y (delT Ok xa xb xc) ((M : Int) - ((k + 1 : Nat) : Int)))) := by
                        refine Lib.hid (.inl ⟨D', ?_, fun g hg => ?_⟩)
                        · rw [show ((M : Int) - ((k + 1 : Nat) : Int)) = (M : Int) - (k : Int) - 1 by omega]; exact hd1
                        · rcases hd3 g hg with h | h
                          · exact HDK.out g h
                          · have := HB14.out.size
                            have := HC13b
                            omega
                      have HT2 : Hid (∀ j x, k + 1 ≤ j → L[j]? = some x → HasT (delT Ok xa xb xc) x) := Lib.hid fun j x hj hx => by
                        have hm2 := mem_preO.1 (show x ∈ preO O N by rw [HLL.out]; exact List.mem_iff_getElem?.2 ⟨j, hx⟩)
                        exact told_apart (t := (xa, xb, xc)) (HT.out k _ (Nat.le_refl _) HX.out) (HT.out j x (by omega) hx) HMEM.out.2.2 hm2.2.2 (preO_ne CY.out.srt (by rw [HLL.out]; exact HX.out) (by rw [HLL.out]; exact hx) (by omega))
                      have HF2 : Hid (Fr V14 W2 (fun b => w2.heap.size ≤ b ∧ b < V13.heap.size)) := Lib.hid ((HF.out.trans (Fr.ofBelow (S := fun _ => False) hbW) (fun b hb => hb.elim)).trans hd2 (fun b hb => by have := HDK.out b hb; omega))
                      clear hd1 hd2 hd3 hbW HT HF
                      go_wp2_with fail
                      go_roundg (M - (k + 1))
                      case measure => omega
                      case rel => exact ⟨k + 1, _, by norm_cast, by omega, Nat.le_refl _, HK2, HT2, HF2⟩
                    · exfalso
                      omega
                  · have hkM2 : k = M := by omega
                    have HSTk : Hid (ST w2.heap.size wr cb N X Y Ok 0) := by
                      have e0 : ((M : Int) - (k : Int)) = 0 := by omega
                      have h := HK.out
                      rw [e0] at h
                      rcases h with ⟨Dk, sk, hdk⟩ | h
                      · exact Lib.hid (.inl ⟨Dk, sk, fun g hg => (hdk g hg).1⟩)
                      · exact Lib.hid h.2
                    have HSr := Lib.hid (HS14.out.fr HF.out (fun b hb h => by have := HDW.out b hb; omega) (fun a h1 h2 h => by have := HPW.out a h1 h2; omega))
                    have Br := Lib.hid (B14.out.trans (HF.out.below (B := w.heap.size) B14.out.size (fun k h => by omega)))
                    have MKr := Lib.hid (MK14.out.keepD fun d hd r hr h1 h2 => HF.out.block r h2 (fun h => by have := HML.out d hd r hr; omega))
                    clear HK HT HF
                    go_wp2_with fail
                    refine (LenST _ cb N X Y Ok _ wr HSTk.out).mono ?_
                    rintro e W1 ⟨rfl, hb⟩
                    have HS1 := Lib.hid (HSr.out.of hb)
                    have B1 := Lib.hid (Br.out.trans (hb.mono Br.out.size))
                    have MK1 := Lib.hid (MKr.out.keep fun r _ h2 => hb.block r h2)
                    clear hb HSr Br MKr HSTk
                    go_wp2_with fail
                    refine (Len_is t D N X Y O _ W1 HS1.out).mono ?_
                    rintro e W2 ⟨rfl, hb⟩
                    have HS2 := Lib.hid (HS1.out.of hb)
                    have B2 := Lib.hid (B1.out.trans (hb.mono B1.out.size))
                    have MK2 := Lib.hid (MK1.out.keep fun r _ h2 => hb.block r h2)
                    clear hb HS1 B1 MK1
                    go_wp2_with fail
                    refine (all_is t D N X Y O _ L HLL.out hlen W2 HS2.out).mono ?_
                    rintro e W3 ⟨v3, rfl, tl3, hb⟩
                    obtain ⟨ao5, cap5, rfl, _⟩ := Trs.ofRow tl3
                    have B3 := Lib.hid (B2.out.trans (hb.mono B2.out.size))
                    have MK3 := Lib.hid (MK2.out.keep fun r _ h2 => hb.block r h2)
                    clear hb tl3 HS2 B2 MK2
                    go_wp2_with fail
                    refine (awake_is W3).mono ?_
                    rintro e W4 ⟨rfl, hb⟩
                    have B4 := Lib.hid (B3.out.trans (hb.mono B3.out.size))
                    have MK4 := Lib.hid (MK3.out.keep fun r _ h2 => hb.block r h2)
                    clear hb B3 MK3
                    go_wp2
                    refine leaves_marks (B := w.heap.size) (y := kb) (by omega) (fun _ => False) _ W4 B4.out.size MK4.out (fun _ _ _ _ h => h) fun w' hb => ?_
                    exact ⟨_, by simp [results, Try.results7, go_sem], rfl, B4.out.trans hb.1⟩
              · have hda : decide (a < 0) = false := by simp; omega
                have hdb : decide (((N : Nat) : Int) ≤ a) = false := by simp; omega
                skip
                refine wp_noP ?_
                refine wp_region_up V10.heap.size 18 [(true, 0), (true, 1), (true, 2), (false, 3), (true, 4), (true, 5), (true, 6), (true, 7), (true, 8), (true, 9), (true, 10), (true, 11), (true, 12), (true, 13), (true, 14), (true, 15), (true, 16), (true, 17)] (by kernel_rfl) (by kernel_rfl) (fun _ _ d _ _ h => by cases d <;> exact h) ?_
                have hb : Below V10.heap.size V10 V10.drew := (Below.refl _ _).drew
                iterate 3
                  first | refine wpS_takeL rfl rfl ?_ | refine wpS_takeB rfl rfl rfl ?_ | refine wpS_takeMin rfl rfl rfl ?_
                  first | go_big_quiet_step (rfl) | (go_big_quiet_want; go_big_quiet_op; refine ⟨_, fun _ => rfl, ?_⟩; go_big_quiet_on)
                  refine wpQuiet_nil ?_
                refine wpS_doL rfl ?_
                intro K hK
                go_wp2_with ((go_at_call 30; (with_reducible refine (Len_is t D N X Y O (L.length : Nat) _ (HS10.out.of hb)).mono ?_); rintro e w2 ⟨rfl, hn⟩))
                replace hb := hb.trans (hn.mono hb.size)
                refine hK.out _ _ (up_iff.2 hb) ?_
                clear hK K
                clear hn
                iterate 14
                  first | refine wpS_takeL rfl rfl ?_ | refine wpS_takeB rfl rfl rfl ?_ | refine wpS_takeMin rfl rfl rfl ?_
                  first | go_big_quiet_step (rfl) | (go_big_quiet_want; go_big_quiet_op; refine ⟨_, fun _ => rfl, ?_⟩; go_big_quiet_on)
                  refine wpQuiet_nil ?_
                refine wpS_nil ?_
                simp only [List.drop_succ_cons, List.drop_zero]
                clear hda hdb
                have HS11 := Lib.hid (HS10.out.of hb)
                have B11 := Lib.hid (B10.out.trans (hb.mono B10.out.size))
                have MK11 := Lib.hid (MK10.out.keep fun r _ h2 => hb.block r h2)
                have k1 := (KK10.out.of hb).cell 0
                simp only [List.getElem?_toArray, List.getElem?_cons_zero] at k1
                have l5 := (KK10.out.of hb).lt
                go_wp2_with fail
                first | (rw [noP_normal]; go_wp2_with fail) | skip
                clear hb n0 m0 k0 s0 k1 l1 l2 l3 l4 l5 KN10 KM10 KK10 KS10 B10 MK10 ML10 HS10 hm8 hdm hml
                refine (Copy_is t D N X Y O _ w2 HS11.out).mono ?_
                rintro e V12 ⟨cb, po, pc, vo, VS, rfl, hcp, hb⟩
                have HC12 := Lib.hid (hcp.st HS11.out)
                have hw12 := hb.size
                have HS12 := Lib.hid (HS11.out.of hb)
                have B12 := Lib.hid (B11.out.trans (hb.mono B11.out.size))
                have MK12 := Lib.hid (MK11.out.keep fun r _ h2 => hb.block r h2)
                have HDW := Lib.hid (show ∀ b, D.has t N b → b < w2.heap.size from fun b hb => HS11.out.lt hb)
                have HPW := Lib.hid (show ∀ a, D.po = some a → 0 < N → a.block < w2.heap.size by intro a h1 h2; obtain ⟨a', q1, q2, _⟩ := HS11.out.pts.ptr h2; rw [h1] at q1; injection q1 with q1; subst q1; exact q2)
                have HML := Lib.hid MK11.out.lt
                have hww := B11.out.size
                clear hcp hb HS11 B11 MK11
                go_wp2_with fail
                refine (same_is _ cb t D N X Y O _ L HLL.out hlen _ HC12.out HS12.out).mono ?_
                rintro e V13 ⟨rfl, hb⟩
                have HC13 := Lib.hid (HC12.out.of hb)
                have hw13 : w2.heap.size ≤ V13.heap.size := Nat.le_trans hw12 hb.size
                have HS13 := Lib.hid (HS12.out.of hb)
                have B13 := Lib.hid (B12.out.trans (hb.mono B12.out.size))
                have MK13 := Lib.hid (MK12.out.keep fun r _ h2 => hb.block r h2)
                clear hb HS12 B12 MK12 HC12
                go_wp2_with fail
                refine (allST _ cb N X Y O _ L HLL.out hlen _ HC13.out).mono ?_
                rintro e V14 ⟨v, rfl, tl, hb⟩
                obtain ⟨ao4, cap4, rfl, P4⟩ := Trs.ofRow tl
                have HT14 := Lib.hid tl
                have HP14 := Lib.hid P4
                have q1 := P4.capl
                have q2 := P4.capb
                have HC14 := Lib.hid (HC13.out.of hb)
                have HC13b : w2.heap.size ≤ V13.heap.size := hw13
                have HS14 := Lib.hid (HS13.out.of hb)
                have B14 := Lib.hid (B13.out.trans (hb.mono B13.out.size))
                have MK14 := Lib.hid (MK13.out.keep fun r _ h2 => hb.block r h2)
                obtain ⟨M, hM⟩ : ∃ m, L.length = m := ⟨_, rfl⟩
                have HM := Lib.hid hM
                rw [hM] at q1 ⊢
                have HB14 := Lib.hid hb
                clear tl P4 hb HS13 B13 MK13 hM
                go_wp2_with fail
                go_loopg [108] M (fun gk s108 wr => ∃ (k : Nat) (Ok : Nat → List (Nat × Nat)), s108 = .int .i64 (k : Nat) ∧ k ≤ M ∧ M - k ≤ gk ∧ Hid ((∃ Dk : SD, SM wr cb Dk N X Y Ok ((M : Int) - k) ∧ ∀ g, Dk.has cb N g → w2.heap.size ≤ g ∧ (g < V13.heap.size ∨ V14.heap.size ≤ g)) ∨ (N = 0 ∧ ST w2.heap.size wr cb N X Y Ok ((M : Int) - k))) ∧ Hid (∀ j x, k ≤ j → L[j]? = some x → HasT Ok x) ∧ Hid (Fr V14 wr (fun b => w2.heap.size ≤ b ∧ b < V13.heap.size)))
                case atStart =>
                  refine ⟨0, O, rfl, Nat.zero_le _, Nat.le_refl _, Lib.hid ?_, Lib.hid fun j x _ hx => ?_, Lib.hid ⟨rfl, rfl, rfl, Nat.le_refl _, fun _ _ _ => rfl⟩⟩
                  · have e0 : ((M : Int) - ((0 : Nat) : Int)) = ((L.length : Nat) : Int) := by rw [HM.out]; omega
                    rw [e0]
                    rcases HC13.out with ⟨D1, s1, s2⟩ | h0
                    · exact .inl ⟨D1, s1.of HB14.out, fun g hg => ⟨s2 g hg, .inl (s1.lt hg)⟩⟩
                    · exact .inr ⟨h0.1, HC14.out⟩
                  · exact hasT_told CY.out (mem_preO.1 (show x ∈ preO O N by rw [HLL.out]; exact List.mem_iff_getElem?.2 ⟨j, hx⟩)).2.1
                case round =>
                  obtain ⟨k, Ok, rfl, hk, hgk, HK, HT, HF⟩ := hrel
                  by_cases hkM : k < M
                  · obtain ⟨⟨xa, xb, xc⟩, hx⟩ : ∃ x, L[k]? = some x := ⟨_, List.getElem?_eq_getElem (show k < L.length by rw [HM.out]; exact hkM)⟩
                    have hmem := mem_preO.1 (show (xa, xb, xc) ∈ preO O N by rw [HLL.out]; exact List.mem_iff_getElem?.2 ⟨k, hx⟩)
                    have hla := (look_mem (CY.out.srt xa)).1 hmem.2.1
                    obtain ⟨haN, hbN, hcN⟩ := DM.out _ _ _ hla
                    have hab := CY.out.ne _ _ _ hla
                    have hbc := CY.out.ne _ _ _ (CY.out.rot _ _ _ hla)
                    have hca := CY.out.ne _ _ _ (CY.out.rot _ _ _ (CY.out.rot _ _ _ hla))
                    obtain ⟨g0, e0, hg0, hcell⟩ := HP14.out.ptr (by rw [HM.out]; omega)
                    subst e0
                    have hg1 := (HT14.out.lt (g := g0) rfl).1
                    obtain ⟨y0, y1, y2⟩ := hcell k _ hx
                    have x0 := (HF.out.cell (p := ⟨g0, k * 3, none⟩) hg0 (by show ¬ (_ ≤ g0 ∧ g0 < _); omega)).trans y0
                    have x1 := (HF.out.cell (p := ⟨g0, k * 3 + 1, none⟩) hg0 (by show ¬ (_ ≤ g0 ∧ g0 < _); omega)).trans y1
                    have x2 := (HF.out.cell (p := ⟨g0, k * 3 + 2, none⟩) hg0 (by show ¬ (_ ≤ g0 ∧ g0 < _); omega)).trans y2
                    have lg := Nat.lt_of_lt_of_le hg0 HF.out.size
                    simp only [] at x0 x1 x2
                    have HX := Lib.hid hx
                    have HMEM := Lib.hid hmem
                    clear hcell hx hmem hla y0 y1 y2
                    rcases HK.out with ⟨Dk, sk, hdk⟩ | ⟨hN0, _⟩
                    · have SK := Lib.hid sk
                      have HDK := Lib.hid hdk
                      clear sk hdk HK
                      go_wp2_with fail
                      refine calls_w ?_
                      intro W hW
                      have hbW : Below wr.heap.size wr W := by rw [hW]; exact below_a1 _ _
                      clear hW x0 x1 x2
                      refine (Del_yes cb Dk N X Y Ok _ xa xb xc W (SK.out.of hbW) haN hbN hcN hab hbc (fun e => hca e.symm) (HT.out k _ (Nat.le_refl _) HX.out) (by have := HM.out; omega)).mono ?_
                      rintro e W2 ⟨rfl, D', hd1, hd2, hd3, _⟩
                      have hsW := hbW.size
                      have hFV := HF.out.size
                      have HK2 : Hid ((∃ Dk : SD, SM W2 cb Dk N X Y (delT Ok xa xb xc) ((M : Int) - ((k + 1 : Nat) : Int)) ∧ ∀ g, Dk.has cb N g → w2.heap.size ≤ g ∧ (g < V13.heap.size ∨ V14.heap.size ≤ g)) ∨ (N = 0 ∧ ST w2.heap.size W2 cb N X Y (delT Ok xa xb xc) ((M : Int) - ((k + 1 : Nat) : Int)))) := by
                        refine Lib.hid (.inl ⟨D', ?_, fun g hg => ?_⟩)
                        · rw [show ((M : Int) - ((k + 1 : Nat) : Int)) = (M : Int) - (k : Int) - 1 by omega]; exact hd1
                        · rcases hd3 g hg with h | h
                          · exact HDK.out g h
                          · have := HB14.out.size
                            have := HC13b
                            omega
                      have HT2 : Hid (∀ j x, k + 1 ≤ j → L[j]? = some x → HasT (delT Ok xa xb xc) x) := Lib.hid fun j x hj hx => by
                        have hm2 := mem_preO.1 (show x ∈ preO O N by rw [HLL.out]; exact List.mem_iff_getElem?.2 ⟨j, hx⟩)
                        exact told_apart (t := (xa, xb, xc)) (HT.out k _ (Nat.le_refl _) HX.out) (HT.out j x (by omega) hx) HMEM.out.2.2 hm2.2.2 (preO_ne CY.out.srt (by rw [HLL.out]; exact HX.out) (by rw [HLL.out]; exact hx) (by omega))
                      have HF2 : Hid (Fr V14 W2 (fun b => w2.heap.size ≤ b ∧ b < V13.heap.size)) := Lib.hid ((HF.out.trans (Fr.ofBelow (S := fun _ => False) hbW) (fun b hb => hb.elim)).trans hd2 (fun b hb => by have := HDK.out b hb; omega))
                      clear hd1 hd2 hd3 hbW HT HF
                      go_wp2_with fail
                      go_roundg (M - (k + 1))
                      case measure => omega
                      case rel => exact ⟨k + 1, _, by norm_cast, by omega, Nat.le_refl _, HK2, HT2, HF2⟩
                    · exfalso
                      omega
                  · have hkM2 : k = M := by omega
                    have HSTk : Hid (ST w2.heap.size wr cb N X Y Ok 0) := by
                      have e0 : ((M : Int) - (k : Int)) = 0 := by omega
                      have h := HK.out
                      rw [e0] at h
                      rcases h with ⟨Dk, sk, hdk⟩ | h
                      · exact Lib.hid (.inl ⟨Dk, sk, fun g hg => (hdk g hg).1⟩)
                      · exact Lib.hid h.2
                    have HSr := Lib.hid (HS14.out.fr HF.out (fun b hb h => by have := HDW.out b hb; omega) (fun a h1 h2 h => by have := HPW.out a h1 h2; omega))
                    have Br := Lib.hid (B14.out.trans (HF.out.below (B := w.heap.size) B14.out.size (fun k h => by omega)))
                    have MKr := Lib.hid (MK14.out.keepD fun d hd r hr h1 h2 => HF.out.block r h2 (fun h => by have := HML.out d hd r hr; omega))
                    clear HK HT HF
                    go_wp2_with fail
                    refine (LenST _ cb N X Y Ok _ wr HSTk.out).mono ?_
                    rintro e W1 ⟨rfl, hb⟩
                    have HS1 := Lib.hid (HSr.out.of hb)
                    have B1 := Lib.hid (Br.out.trans (hb.mono Br.out.size))
                    have MK1 := Lib.hid (MKr.out.keep fun r _ h2 => hb.block r h2)
                    clear hb HSr Br MKr HSTk
                    go_wp2_with fail
                    refine (Len_is t D N X Y O _ W1 HS1.out).mono ?_
                    rintro e W2 ⟨rfl, hb⟩
                    have HS2 := Lib.hid (HS1.out.of hb)
                    have B2 := Lib.hid (B1.out.trans (hb.mono B1.out.size))
                    have MK2 := Lib.hid (MK1.out.keep fun r _ h2 => hb.block r h2)
                    clear hb HS1 B1 MK1
                    go_wp2_with fail
                    refine (all_is t D N X Y O _ L HLL.out hlen W2 HS2.out).mono ?_
                    rintro e W3 ⟨v3, rfl, tl3, hb⟩
                    obtain ⟨ao5, cap5, rfl, _⟩ := Trs.ofRow tl3
                    have B3 := Lib.hid (B2.out.trans (hb.mono B2.out.size))
                    have MK3 := Lib.hid (MK2.out.keep fun r _ h2 => hb.block r h2)
                    clear hb tl3 HS2 B2 MK2
                    go_wp2_with fail
                    refine (awake_is W3).mono ?_
                    rintro e W4 ⟨rfl, hb⟩
                    have B4 := Lib.hid (B3.out.trans (hb.mono B3.out.size))
                    have MK4 := Lib.hid (MK3.out.keep fun r _ h2 => hb.block r h2)
                    clear hb B3 MK3
                    go_wp2
                    refine leaves_marks (B := w.heap.size) (y := kb) (by omega) (fun _ => False) _ W4 B4.out.size MK4.out (fun _ _ _ _ h => h) fun w' hb => ?_
                    exact ⟨_, by simp [results, Try.results7, go_sem], rfl, B4.out.trans hb.1⟩
          · by_cases hc1 : a < 0
            · have hk0 : n10 = 0 := by
                have : LA = [] := by rw [← HLA.out]; unfold rowO; rw [if_neg (by omega)]
                rw [this] at en10; simp at en10; omega
              subst hk0
              clear en10
              have hda : decide (a < 0) = true := by simp; omega
              skip
              refine wp_noP ?_
              refine wp_region_up V10.heap.size 18 [(true, 0), (true, 1), (true, 2), (false, 3), (true, 4), (true, 5), (true, 6), (true, 7), (true, 8), (true, 9), (true, 10), (true, 11), (true, 12), (true, 13), (true, 14), (true, 15), (true, 16), (true, 17)] (by kernel_rfl) (by kernel_rfl) (fun _ _ d _ _ h => by cases d <;> exact h) ?_
              have hb : Below V10.heap.size V10 V10.drew := (Below.refl _ _).drew
              iterate 3
                first | refine wpS_takeL rfl rfl ?_ | refine wpS_takeB rfl rfl rfl ?_ | refine wpS_takeMin rfl rfl rfl ?_
                first | go_big_quiet_step (rfl) | (go_big_quiet_want; go_big_quiet_op; refine ⟨_, fun _ => rfl, ?_⟩; go_big_quiet_on)
                refine wpQuiet_nil ?_
              refine wpS_doL rfl ?_
              intro K hK
              go_wp2_with ((go_at_call 30; (with_reducible refine (Len_is t D N X Y O (L.length : Nat) _ (HS10.out.of hb)).mono ?_); rintro e w2 ⟨rfl, hn⟩))
              replace hb := hb.trans (hn.mono hb.size)
              refine hK.out _ _ (up_iff.2 hb) ?_
              clear hK K
              clear hn
              iterate 14
                first | refine wpS_takeL rfl rfl ?_ | refine wpS_takeB rfl rfl rfl ?_ | refine wpS_takeMin rfl rfl rfl ?_
                first | go_big_quiet_step (rfl) | (go_big_quiet_want; go_big_quiet_op; refine ⟨_, fun _ => rfl, ?_⟩; go_big_quiet_on)
                refine wpQuiet_nil ?_
              refine wpS_nil ?_
              simp only [List.drop_succ_cons, List.drop_zero]
              clear hda
              have HS11 := Lib.hid (HS10.out.of hb)
              have B11 := Lib.hid (B10.out.trans (hb.mono B10.out.size))
              have MK11 := Lib.hid (MK10.out.keep fun r _ h2 => hb.block r h2)
              have k1 := (KK10.out.of hb).cell 0
              simp only [List.getElem?_toArray, List.getElem?_cons_zero] at k1
              have l5 := (KK10.out.of hb).lt
              go_wp2_with fail
              first | (rw [noP_normal]; go_wp2_with fail) | skip
              clear hb n0 m0 k0 s0 k1 l1 l2 l3 l4 l5 KN10 KM10 KK10 KS10 B10 MK10 ML10 HS10 hm8 hdm hml
              refine (Copy_is t D N X Y O _ w2 HS11.out).mono ?_
              rintro e V12 ⟨cb, po, pc, vo, VS, rfl, hcp, hb⟩
              have HC12 := Lib.hid (hcp.st HS11.out)
              have hw12 := hb.size
              have HS12 := Lib.hid (HS11.out.of hb)
              have B12 := Lib.hid (B11.out.trans (hb.mono B11.out.size))
              have MK12 := Lib.hid (MK11.out.keep fun r _ h2 => hb.block r h2)
              have HDW := Lib.hid (show ∀ b, D.has t N b → b < w2.heap.size from fun b hb => HS11.out.lt hb)
              have HPW := Lib.hid (show ∀ a, D.po = some a → 0 < N → a.block < w2.heap.size by intro a h1 h2; obtain ⟨a', q1, q2, _⟩ := HS11.out.pts.ptr h2; rw [h1] at q1; injection q1 with q1; subst q1; exact q2)
              have HML := Lib.hid MK11.out.lt
              have hww := B11.out.size
              clear hcp hb HS11 B11 MK11
              go_wp2_with fail
              refine (same_is _ cb t D N X Y O _ L HLL.out hlen _ HC12.out HS12.out).mono ?_
              rintro e V13 ⟨rfl, hb⟩
              have HC13 := Lib.hid (HC12.out.of hb)
              have hw13 : w2.heap.size ≤ V13.heap.size := Nat.le_trans hw12 hb.size
              have HS13 := Lib.hid (HS12.out.of hb)
              have B13 := Lib.hid (B12.out.trans (hb.mono B12.out.size))
              have MK13 := Lib.hid (MK12.out.keep fun r _ h2 => hb.block r h2)
              clear hb HS12 B12 MK12 HC12
              go_wp2_with fail
              refine (allST _ cb N X Y O _ L HLL.out hlen _ HC13.out).mono ?_
              rintro e V14 ⟨v, rfl, tl, hb⟩
              obtain ⟨ao4, cap4, rfl, P4⟩ := Trs.ofRow tl
              have HT14 := Lib.hid tl
              have HP14 := Lib.hid P4
              have q1 := P4.capl
              have q2 := P4.capb
              have HC14 := Lib.hid (HC13.out.of hb)
              have HC13b : w2.heap.size ≤ V13.heap.size := hw13
              have HS14 := Lib.hid (HS13.out.of hb)
              have B14 := Lib.hid (B13.out.trans (hb.mono B13.out.size))
              have MK14 := Lib.hid (MK13.out.keep fun r _ h2 => hb.block r h2)
              obtain ⟨M, hM⟩ : ∃ m, L.length = m := ⟨_, rfl⟩
              have HM := Lib.hid hM
              rw [hM] at q1 ⊢
              have HB14 := Lib.hid hb
              clear tl P4 hb HS13 B13 MK13 hM
              go_wp2_with fail
              go_loopg [108] M (fun gk s108 wr => ∃ (k : Nat) (Ok : Nat → List (Nat × Nat)), s108 = .int .i64 (k : Nat) ∧ k ≤ M ∧ M - k ≤ gk ∧ Hid ((∃ Dk : SD, SM wr cb Dk N X Y Ok ((M : Int) - k) ∧ ∀ g, Dk.has cb N g → w2.heap.size ≤ g ∧ (g < V13.heap.size ∨ V14.heap.size ≤ g)) ∨ (N = 0 ∧ ST w2.heap.size wr cb N X Y Ok ((M : Int) - k))) ∧ Hid (∀ j x, k ≤ j → L[j]? = some x → HasT Ok x) ∧ Hid (Fr V14 wr (fun b => w2.heap.size ≤ b ∧ b < V13.heap.size)))
              case atStart =>
                refine ⟨0, O, rfl, Nat.zero_le _, Nat.le_refl _, Lib.hid ?_, Lib.hid fun j x _ hx => ?_, Lib.hid ⟨rfl, rfl, rfl, Nat.le_refl _, fun _ _ _ => rfl⟩⟩
                · have e0 : ((M : Int) - ((0 : Nat) : Int)) = ((L.length : Nat) : Int) := by rw [HM.out]; omega
                  rw [e0]
                  rcases HC13.out with ⟨D1, s1, s2⟩ | h0
                  · exact .inl ⟨D1, s1.of HB14.out, fun g hg => ⟨s2 g hg, .inl (s1.lt hg)⟩⟩
                  · exact .inr ⟨h0.1, HC14.out⟩
                · exact hasT_told CY.out (mem_preO.1 (show x ∈ preO O N by rw [HLL.out]; exact List.mem_iff_getElem?.2 ⟨j, hx⟩)).2.1
              case round =>
                obtain ⟨k, Ok, rfl, hk, hgk, HK, HT, HF⟩ := hrel
                by_cases hkM : k < M
                · obtain ⟨⟨xa, xb, xc⟩, hx⟩ : ∃ x, L[k]? = some x := ⟨_, List.getElem?_eq_getElem (show k < L.length by rw [HM.out]; exact hkM)⟩
                  have hmem := mem_preO.1 (show (xa, xb, xc) ∈ preO O N by rw [HLL.out]; exact List.mem_iff_getElem?.2 ⟨k, hx⟩)
                  have hla := (look_mem (CY.out.srt xa)).1 hmem.2.1
                  obtain ⟨haN, hbN, hcN⟩ := DM.out _ _ _ hla
                  have hab := CY.out.ne _ _ _ hla
                  have hbc := CY.out.ne _ _ _ (CY.out.rot _ _ _ hla)
                  have hca := CY.out.ne _ _ _ (CY.out.rot _ _ _ (CY.out.rot _ _ _ hla))
                  obtain ⟨g0, e0, hg0, hcell⟩ := HP14.out.ptr (by rw [HM.out]; omega)
                  subst e0
                  have hg1 := (HT14.out.lt (g := g0) rfl).1
                  obtain ⟨y0, y1, y2⟩ := hcell k _ hx
                  have x0 := (HF.out.cell (p := ⟨g0, k * 3, none⟩) hg0 (by show ¬ (_ ≤ g0 ∧ g0 < _); omega)).trans y0
                  have x1 := (HF.out.cell (p := ⟨g0, k * 3 + 1, none⟩) hg0 (by show ¬ (_ ≤ g0 ∧ g0 < _); omega)).trans y1
                  have x2 := (HF.out.cell (p := ⟨g0, k * 3 + 2, none⟩) hg0 (by show ¬ (_ ≤ g0 ∧ g0 < _); omega)).trans y2
                  have lg := Nat.lt_of_lt_of_le hg0 HF.out.size
                  simp only [] at x0 x1 x2
                  have HX := Lib.hid hx
                  have HMEM := Lib.hid hmem
                  clear hcell hx hmem hla y0 y1 y2
                  rcases HK.out with ⟨Dk, sk, hdk⟩ | ⟨hN0, _⟩
                  · have SK := Lib.hid sk
                    have HDK := Lib.hid hdk
                    clear sk hdk HK
                    go_wp2_with fail
                    refine calls_w ?_
                    intro W hW
                    have hbW : Below wr.heap.size wr W := by rw [hW]; exact below_a1 _ _
                    clear hW x0 x1 x2
                    refine (Del_yes cb Dk N X Y Ok _ xa xb xc W (SK.out.of hbW) haN hbN hcN hab hbc (fun e => hca e.symm) (HT.out k _ (Nat.le_refl _) HX.out) (by have := HM.out; omega)).mono ?_
                    rintro e W2 ⟨rfl, D', hd1, hd2, hd3, _⟩
                    have hsW := hbW.size
                    have hFV := HF.out.size
                    have HK2 : Hid ((∃ Dk : SD, SM W2 cb Dk N X Y (delT Ok xa xb xc) ((M : Int) - ((k + 1 : Nat) : Int)) ∧ ∀ g, Dk.has cb N g → w2.heap.size ≤ g ∧ (g < V13.heap.size ∨ V14.heap.size ≤ g)) ∨ (N = 0 ∧ ST w2.heap.size W2 cb N X Y (delT Ok xa xb xc) ((M : Int) - ((k + 1 : Nat) : Int)))) := by
                      refine Lib.hid (.inl ⟨D', ?_, fun g hg => ?_⟩)
                      · rw [show ((M : Int) - ((k + 1 : Nat) : Int)) = (M : Int) - (k : Int) - 1 by omega]; exact hd1
                      · rcases hd3 g hg with h | h
                        · exact HDK.out g h
                        · have := HB14.out.size
                          have := HC13b
                          omega
                    have HT2 : Hid (∀ j x, k + 1 ≤ j → L[j]? = some x → HasT (delT Ok xa xb xc) x) := Lib.hid fun j x hj hx => by
                      have hm2 := mem_preO.1 (show x ∈ preO O N by rw [HLL.out]; exact List.mem_iff_getElem?.2 ⟨j, hx⟩)
                      exact told_apart (t := (xa, xb, xc)) (HT.out k _ (Nat.le_refl _) HX.out) (HT.out j x (by omega) hx) HMEM.out.2.2 hm2.2.2 (preO_ne CY.out.srt (by rw [HLL.out]; exact HX.out) (by rw [HLL.out]; exact hx) (by omega))
                    have HF2 : Hid (Fr V14 W2 (fun b => w2.heap.size ≤ b ∧ b < V13.heap.size)) := Lib.hid ((HF.out.trans (Fr.ofBelow (S := fun _ => False) hbW) (fun b hb => hb.elim)).trans hd2 (fun b hb => by have := HDK.out b hb; omega))
                    clear hd1 hd2 hd3 hbW HT HF
                    go_wp2_with fail
                    go_roundg (M - (k + 1))
                    case measure => omega
                    case rel => exact ⟨k + 1, _, by norm_cast, by omega, Nat.le_refl _, HK2, HT2, HF2⟩
                  · exfalso
                    omega
                · have hkM2 : k = M := by omega
                  have HSTk : Hid (ST w2.heap.size wr cb N X Y Ok 0) := by
                    have e0 : ((M : Int) - (k : Int)) = 0 := by omega
                    have h := HK.out
                    rw [e0] at h
                    rcases h with ⟨Dk, sk, hdk⟩ | h
                    · exact Lib.hid (.inl ⟨Dk, sk, fun g hg => (hdk g hg).1⟩)
                    · exact Lib.hid h.2
                  have HSr := Lib.hid (HS14.out.fr HF.out (fun b hb h => by have := HDW.out b hb; omega) (fun a h1 h2 h => by have := HPW.out a h1 h2; omega))
                  have Br := Lib.hid (B14.out.trans (HF.out.below (B := w.heap.size) B14.out.size (fun k h => by omega)))
                  have MKr := Lib.hid (MK14.out.keepD fun d hd r hr h1 h2 => HF.out.block r h2 (fun h => by have := HML.out d hd r hr; omega))
                  clear HK HT HF
                  go_wp2_with fail
                  refine (LenST _ cb N X Y Ok _ wr HSTk.out).mono ?_
                  rintro e W1 ⟨rfl, hb⟩
                  have HS1 := Lib.hid (HSr.out.of hb)
                  have B1 := Lib.hid (Br.out.trans (hb.mono Br.out.size))
                  have MK1 := Lib.hid (MKr.out.keep fun r _ h2 => hb.block r h2)
                  clear hb HSr Br MKr HSTk
                  go_wp2_with fail
                  refine (Len_is t D N X Y O _ W1 HS1.out).mono ?_
                  rintro e W2 ⟨rfl, hb⟩
                  have HS2 := Lib.hid (HS1.out.of hb)
                  have B2 := Lib.hid (B1.out.trans (hb.mono B1.out.size))
                  have MK2 := Lib.hid (MK1.out.keep fun r _ h2 => hb.block r h2)
                  clear hb HS1 B1 MK1
                  go_wp2_with fail
                  refine (all_is t D N X Y O _ L HLL.out hlen W2 HS2.out).mono ?_
                  rintro e W3 ⟨v3, rfl, tl3, hb⟩
                  obtain ⟨ao5, cap5, rfl, _⟩ := Trs.ofRow tl3
                  have B3 := Lib.hid (B2.out.trans (hb.mono B2.out.size))
                  have MK3 := Lib.hid (MK2.out.keep fun r _ h2 => hb.block r h2)
                  clear hb tl3 HS2 B2 MK2
                  go_wp2_with fail
                  refine (awake_is W3).mono ?_
                  rintro e W4 ⟨rfl, hb⟩
                  have B4 := Lib.hid (B3.out.trans (hb.mono B3.out.size))
                  have MK4 := Lib.hid (MK3.out.keep fun r _ h2 => hb.block r h2)
                  clear hb B3 MK3
                  go_wp2
                  refine leaves_marks (B := w.heap.size) (y := kb) (by omega) (fun _ => False) _ W4 B4.out.size MK4.out (fun _ _ _ _ h => h) fun w' hb => ?_
                  exact ⟨_, by simp [results, Try.results7, go_sem], rfl, B4.out.trans hb.1⟩
            · by_cases hc2 : ((N : Nat) : Int) ≤ a
              · have hk0 : n10 = 0 := by
                  have : LA = [] := by rw [← HLA.out]; unfold rowO; rw [if_neg (by omega)]
                  rw [this] at en10; simp at en10; omega
                subst hk0
                clear en10
                have hda : decide (a < 0) = false := by simp; omega
                have hdb : decide (((N : Nat) : Int) ≤ a) = true := by simp; omega
                skip
                refine wp_noP ?_
                refine wp_region_up V10.heap.size 18 [(true, 0), (true, 1), (true, 2), (false, 3), (true, 4), (true, 5), (true, 6), (true, 7), (true, 8), (true, 9), (true, 10), (true, 11), (true, 12), (true, 13), (true, 14), (true, 15), (true, 16), (true, 17)] (by kernel_rfl) (by kernel_rfl) (fun _ _ d _ _ h => by cases d <;> exact h) ?_
                have hb : Below V10.heap.size V10 V10.drew := (Below.refl _ _).drew
                iterate 3
                  first | refine wpS_takeL rfl rfl ?_ | refine wpS_takeB rfl rfl rfl ?_ | refine wpS_takeMin rfl rfl rfl ?_
                  first | go_big_quiet_step (rfl) | (go_big_quiet_want; go_big_quiet_op; refine ⟨_, fun _ => rfl, ?_⟩; go_big_quiet_on)
                  refine wpQuiet_nil ?_
                refine wpS_doL rfl ?_
                intro K hK
                go_wp2_with ((go_at_call 30; (with_reducible refine (Len_is t D N X Y O (L.length : Nat) _ (HS10.out.of hb)).mono ?_); rintro e w2 ⟨rfl, hn⟩))
                replace hb := hb.trans (hn.mono hb.size)
                refine hK.out _ _ (up_iff.2 hb) ?_
                clear hK K
                clear hn
                iterate 14
                  first | refine wpS_takeL rfl rfl ?_ | refine wpS_takeB rfl rfl rfl ?_ | refine wpS_takeMin rfl rfl rfl ?_
                  first | go_big_quiet_step (rfl) | (go_big_quiet_want; go_big_quiet_op; refine ⟨_, fun _ => rfl, ?_⟩; go_big_quiet_on)
                  refine wpQuiet_nil ?_
                refine wpS_nil ?_
                simp only [List.drop_succ_cons, List.drop_zero]
                clear hda hdb
                have HS11 := Lib.hid (HS10.out.of hb)
                have B11 := Lib.hid (B10.out.trans (hb.mono B10.out.size))
                have MK11 := Lib.hid (MK10.out.keep fun r _ h2 => hb.block r h2)
                have k1 := (KK10.out.of hb).cell 0
                simp only [List.getElem?_toArray, List.getElem?_cons_zero] at k1
                have l5 := (KK10.out.of hb).lt
                go_wp2_with fail
                first | (rw [noP_normal]; go_wp2_with fail) | skip
                clear hb n0 m0 k0 s0 k1 l1 l2 l3 l4 l5 KN10 KM10 KK10 KS10 B10 MK10 ML10 HS10 hm8 hdm hml
                refine (Copy_is t D N X Y O _ w2 HS11.out).mono ?_
                rintro e V12 ⟨cb, po, pc, vo, VS, rfl, hcp, hb⟩
                have HC12 := Lib.hid (hcp.st HS11.out)
                have hw12 := hb.size
                have HS12 := Lib.hid (HS11.out.of hb)
                have B12 := Lib.hid (B11.out.trans (hb.mono B11.out.size))
                have MK12 := Lib.hid (MK11.out.keep fun r _ h2 => hb.block r h2)
                have HDW := Lib.hid (show ∀ b, D.has t N b → b < w2.heap.size from fun b hb => HS11.out.lt hb)
                have HPW := Lib.hid (show ∀ a, D.po = some a → 0 < N → a.block < w2.heap.size by intro a h1 h2; obtain ⟨a', q1, q2, _⟩ := HS11.out.pts.ptr h2; rw [h1] at q1; injection q1 with q1; subst q1; exact q2)
                have HML := Lib.hid MK11.out.lt
                have hww := B11.out.size
                clear hcp hb HS11 B11 MK11
                go_wp2_with fail
                refine (same_is _ cb t D N X Y O _ L HLL.out hlen _ HC12.out HS12.out).mono ?_
                rintro e V13 ⟨rfl, hb⟩
                have HC13 := Lib.hid (HC12.out.of hb)
                have hw13 : w2.heap.size ≤ V13.heap.size := Nat.le_trans hw12 hb.size
                have HS13 := Lib.hid (HS12.out.of hb)
                have B13 := Lib.hid (B12.out.trans (hb.mono B12.out.size))
                have MK13 := Lib.hid (MK12.out.keep fun r _ h2 => hb.block r h2)
                clear hb HS12 B12 MK12 HC12
                go_wp2_with fail
                refine (allST _ cb N X Y O _ L HLL.out hlen _ HC13.out).mono ?_
                rintro e V14 ⟨v, rfl, tl, hb⟩
                obtain ⟨ao4, cap4, rfl, P4⟩ := Trs.ofRow tl
                have HT14 := Lib.hid tl
                have HP14 := Lib.hid P4
                have q1 := P4.capl
                have q2 := P4.capb
                have HC14 := Lib.hid (HC13.out.of hb)
                have HC13b : w2.heap.size ≤ V13.heap.size := hw13
                have HS14 := Lib.hid (HS13.out.of hb)
                have B14 := Lib.hid (B13.out.trans (hb.mono B13.out.size))
                have MK14 := Lib.hid (MK13.out.keep fun r _ h2 => hb.block r h2)
                obtain ⟨M, hM⟩ : ∃ m, L.length = m := ⟨_, rfl⟩
                have HM := Lib.hid hM
                rw [hM] at q1 ⊢
                have HB14 := Lib.hid hb
                clear tl P4 hb HS13 B13 MK13 hM
                go_wp2_with fail
                go_loopg [108] M (fun gk s108 wr => ∃ (k : Nat) (Ok : Nat → List (Nat × Nat)), s108 = .int .i64 (k : Nat) ∧ k ≤ M ∧ M - k ≤ gk ∧ Hid ((∃ Dk : SD, SM wr cb Dk N X Y Ok ((M : Int) - k) ∧ ∀ g, Dk.has cb N g → w2.heap.size ≤ g ∧ (g < V13.heap.size ∨ V14.heap.size ≤ g)) ∨ (N = 0 ∧ ST w2.heap.size wr cb N X Y Ok ((M : Int) - k))) ∧ Hid (∀ j x, k ≤ j → L[j]? = some x → HasT Ok x) ∧ Hid (Fr V14 wr (fun b => w2.heap.size ≤ b ∧ b < V13.heap.size)))
                case atStart =>
                  refine ⟨0, O, rfl, Nat.zero_le _, Nat.le_refl _, Lib.hid ?_, Lib.hid fun j x _ hx => ?_, Lib.hid ⟨rfl, rfl, rfl, Nat.le_refl _, fun _ _ _ => rfl⟩⟩
                  · have e0 : ((M : Int) - ((0 : Nat) : Int)) = ((L.length : Nat) : Int) := by rw [HM.out]; omega
                    rw [e0]
                    rcases HC13.out with ⟨D1, s1, s2⟩ | h0
                    · exact .inl ⟨D1, s1.of HB14.out, fun g hg => ⟨s2 g hg, .inl (s1.lt hg)⟩⟩
                    · exact .inr ⟨h0.1, HC14.out⟩
                  · exact hasT_told CY.out (mem_preO.1 (show x ∈ preO O N by rw [HLL.out]; exact List.mem_iff_getElem?.2 ⟨j, hx⟩)).2.1
                case round =>
                  obtain ⟨k, Ok, rfl, hk, hgk, HK, HT, HF⟩ := hrel
                  by_cases hkM : k < M
                  · obtain ⟨⟨xa, xb, xc⟩, hx⟩ : ∃ x, L[k]? = some x := ⟨_, List.getElem?_eq_getElem (show k < L.length by rw [HM.out]; exact hkM)⟩
                    have hmem := mem_preO.1 (show (xa, xb, xc) ∈ preO O N by rw [HLL.out]; exact List.mem_iff_getElem?.2 ⟨k, hx⟩)
                    have hla := (look_mem (CY.out.srt xa)).1 hmem.2.1
                    obtain ⟨haN, hbN, hcN⟩ := DM.out _ _ _ hla
                    have hab := CY.out.ne _ _ _ hla
                    have hbc := CY.out.ne _ _ _ (CY.out.rot _ _ _ hla)
                    have hca := CY.out.ne _ _ _ (CY.out.rot _ _ _ (CY.out.rot _ _ _ hla))
                    obtain ⟨g0, e0, hg0, hcell⟩ := HP14.out.ptr (by rw [HM.out]; omega)
                    subst e0
                    have hg1 := (HT14.out.lt (g := g0) rfl).1
                    obtain ⟨y0, y1, y2⟩ := hcell k _ hx
                    have x0 := (HF.out.cell (p := ⟨g0, k * 3, none⟩) hg0 (by show ¬ (_ ≤ g0 ∧ g0 < _); omega)).trans y0
                    have x1 := (HF.out.cell (p := ⟨g0, k * 3 + 1, none⟩) hg0 (by show ¬ (_ ≤ g0 ∧ g0 < _); omega)).trans y1
                    have x2 := (HF.out.cell (p := ⟨g0, k * 3 + 2, none⟩) hg0 (by show ¬ (_ ≤ g0 ∧ g0 < _); omega)).trans y2
                    have lg := Nat.lt_of_lt_of_le hg0 HF.out.size
                    simp only [] at x0 x1 x2
                    have HX := Lib.hid hx
                    have HMEM := Lib.hid hmem
                    clear hcell hx hmem hla y0 y1 y2
                    rcases HK.out with ⟨Dk, sk, hdk⟩ | ⟨hN0, _⟩
                    · have SK := Lib.hid sk
                      have HDK := Lib.hid hdk
                      clear sk hdk HK
                      go_wp2_with fail
                      refine calls_w ?_
                      intro W hW
                      have hbW : Below wr.heap.size wr W := by rw [hW]; exact below_a1 _ _
                      clear hW x0 x1 x2
                      refine (Del_yes cb Dk N X Y Ok _ xa xb xc W (SK.out.of hbW) haN hbN hcN hab hbc (fun e => hca e.symm) (HT.out k _ (Nat.le_refl _) HX.out) (by have := HM.out; omega)).mono ?_
                      rintro e W2 ⟨rfl, D', hd1, hd2, hd3, _⟩
                      have hsW := hbW.size
                      have hFV := HF.out.size
                      have HK2 : Hid ((∃ Dk : SD, SM W2 cb Dk N X Y (delT Ok xa xb xc) ((M : Int) - ((k + 1 : Nat) : Int)) ∧ ∀ g, Dk.has cb N g → w2.heap.size ≤ g ∧ (g < V13.heap.size ∨ V14.heap.size ≤ g)) ∨ (N = 0 ∧ ST w2.heap.size W2 cb N X Y (delT Ok xa xb xc) ((M : Int) - ((k + 1 : Nat) : Int)))) := by
                        refine Lib.hid (.inl ⟨D', ?_, fun g hg => ?_⟩)
                        · rw [show ((M : Int) - ((k + 1 : Nat) : Int)) = (M : Int) - (k : Int) - 1 by omega]; exact hd1
                        · rcases hd3 g hg with h | h
                          · exact HDK.out g h
                          · have := HB14.out.size
                            have := HC13b
                            omega
                      have HT2 : Hid (∀ j x, k + 1 ≤ j → L[j]? = some x → HasT (delT Ok xa xb xc) x) := Lib.hid fun j x hj hx => by
                        have hm2 := mem_preO.1 (show x ∈ preO O N by rw [HLL.out]; exact List.mem_iff_getElem?.2 ⟨j, hx⟩)
                        exact told_apart (t := (xa, xb, xc)) (HT.out k _ (Nat.le_refl _) HX.out) (HT.out j x (by omega) hx) HMEM.out.2.2 hm2.2.2 (preO_ne CY.out.srt (by rw [HLL.out]; exact HX.out) (by rw [HLL.out]; exact hx) (by omega))
                      have HF2 : Hid (Fr V14 W2 (fun b => w2.heap.size ≤ b ∧ b < V13.heap.size)) := Lib.hid ((HF.out.trans (Fr.ofBelow (S := fun _ => False) hbW) (fun b hb => hb.elim)).trans hd2 (fun b hb => by have := HDK.out b hb; omega))
                      clear hd1 hd2 hd3 hbW HT HF
                      go_wp2_with fail
                      go_roundg (M - (k + 1))
                      case measure => omega
                      case rel => exact ⟨k + 1, _, by norm_cast, by omega, Nat.le_refl _, HK2, HT2, HF2⟩
                    · exfalso
                      omega
                  · have hkM2 : k = M := by omega
                    have HSTk : Hid (ST w2.heap.size wr cb N X Y Ok 0) := by
                      have e0 : ((M : Int) - (k : Int)) = 0 := by omega
                      have h := HK.out
                      rw [e0] at h
                      rcases h with ⟨Dk, sk, hdk⟩ | h
                      · exact Lib.hid (.inl ⟨Dk, sk, fun g hg => (hdk g hg).1⟩)
                      · exact Lib.hid h.2
                    have HSr := Lib.hid (HS14.out.fr HF.out (fun b hb h => by have := HDW.out b hb; omega) (fun a h1 h2 h => by have := HPW.out a h1 h2; omega))
                    have Br := Lib.hid (B14.out.trans (HF.out.below (B := w.heap.size) B14.out.size (fun k h => by omega)))
                    have MKr := Lib.hid (MK14.out.keepD fun d hd r hr h1 h2 => HF.out.block r h2 (fun h => by have := HML.out d hd r hr; omega))
                    clear HK HT HF
                    go_wp2_with fail
                    refine (LenST _ cb N X Y Ok _ wr HSTk.out).mono ?_
                    rintro e W1 ⟨rfl, hb⟩
                    have HS1 := Lib.hid (HSr.out.of hb)
                    have B1 := Lib.hid (Br.out.trans (hb.mono Br.out.size))
                    have MK1 := Lib.hid (MKr.out.keep fun r _ h2 => hb.block r h2)
                    clear hb HSr Br MKr HSTk
                    go_wp2_with fail
                    refine (Len_is t D N X Y O _ W1 HS1.out).mono ?_
                    rintro e W2 ⟨rfl, hb⟩
                    have HS2 := Lib.hid (HS1.out.of hb)
                    have B2 := Lib.hid (B1.out.trans (hb.mono B1.out.size))
                    have MK2 := Lib.hid (MK1.out.keep fun r _ h2 => hb.block r h2)
                    clear hb HS1 B1 MK1
                    go_wp2_with fail
                    refine (all_is t D N X Y O _ L HLL.out hlen W2 HS2.out).mono ?_
                    rintro e W3 ⟨v3, rfl, tl3, hb⟩
                    obtain ⟨ao5, cap5, rfl, _⟩ := Trs.ofRow tl3
                    have B3 := Lib.hid (B2.out.trans (hb.mono B2.out.size))
                    have MK3 := Lib.hid (MK2.out.keep fun r _ h2 => hb.block r h2)
                    clear hb tl3 HS2 B2 MK2
                    go_wp2_with fail
                    refine (awake_is W3).mono ?_
                    rintro e W4 ⟨rfl, hb⟩
                    have B4 := Lib.hid (B3.out.trans (hb.mono B3.out.size))
                    have MK4 := Lib.hid (MK3.out.keep fun r _ h2 => hb.block r h2)
                    clear hb B3 MK3
                    go_wp2
                    refine leaves_marks (B := w.heap.size) (y := kb) (by omega) (fun _ => False) _ W4 B4.out.size MK4.out (fun _ _ _ _ h => h) fun w' hb => ?_
                    exact ⟨_, by simp [results, Try.results7, go_sem], rfl, B4.out.trans hb.1⟩
              · have hda : decide (a < 0) = false := by simp; omega
                have hdb : decide (((N : Nat) : Int) ≤ a) = false := by simp; omega
                skip
                refine wp_noP ?_
                refine wp_region_up V10.heap.size 18 [(true, 0), (true, 1), (true, 2), (false, 3), (true, 4), (true, 5), (true, 6), (true, 7), (true, 8), (true, 9), (true, 10), (true, 11), (true, 12), (true, 13), (true, 14), (true, 15), (true, 16), (true, 17)] (by kernel_rfl) (by kernel_rfl) (fun _ _ d _ _ h => by cases d <;> exact h) ?_
                have hb : Below V10.heap.size V10 V10.drew := (Below.refl _ _).drew
                iterate 3
                  first | refine wpS_takeL rfl rfl ?_ | refine wpS_takeB rfl rfl rfl ?_ | refine wpS_takeMin rfl rfl rfl ?_
                  first | go_big_quiet_step (rfl) | (go_big_quiet_want; go_big_quiet_op; refine ⟨_, fun _ => rfl, ?_⟩; go_big_quiet_on)
                  refine wpQuiet_nil ?_
                refine wpS_doL rfl ?_
                intro K hK
                go_wp2_with ((go_at_call 30; (with_reducible refine (Len_is t D N X Y O (L.length : Nat) _ (HS10.out.of hb)).mono ?_); rintro e w2 ⟨rfl, hn⟩))
                replace hb := hb.trans (hn.mono hb.size)
                refine hK.out _ _ (up_iff.2 hb) ?_
                clear hK K
                clear hn
                iterate 14
                  first | refine wpS_takeL rfl rfl ?_ | refine wpS_takeB rfl rfl rfl ?_ | refine wpS_takeMin rfl rfl rfl ?_
                  first | go_big_quiet_step (rfl) | (go_big_quiet_want; go_big_quiet_op; refine ⟨_, fun _ => rfl, ?_⟩; go_big_quiet_on)
                  refine wpQuiet_nil ?_
                refine wpS_nil ?_
                simp only [List.drop_succ_cons, List.drop_zero]
                clear hda hdb
                have HS11 := Lib.hid (HS10.out.of hb)
                have B11 := Lib.hid (B10.out.trans (hb.mono B10.out.size))
                have MK11 := Lib.hid (MK10.out.keep fun r _ h2 => hb.block r h2)
                have k1 := (KK10.out.of hb).cell 0
                simp only [List.getElem?_toArray, List.getElem?_cons_zero] at k1
                have l5 := (KK10.out.of hb).lt
                go_wp2_with fail
                first | (rw [noP_normal]; go_wp2_with fail) | skip
                clear hb n0 m0 k0 s0 k1 l1 l2 l3 l4 l5 KN10 KM10 KK10 KS10 B10 MK10 ML10 HS10 hm8 hdm hml
                refine (Copy_is t D N X Y O _ w2 HS11.out).mono ?_
                rintro e V12 ⟨cb, po, pc, vo, VS, rfl, hcp, hb⟩
                have HC12 := Lib.hid (hcp.st HS11.out)
                have hw12 := hb.size
                have HS12 := Lib.hid (HS11.out.of hb)
                have B12 := Lib.hid (B11.out.trans (hb.mono B11.out.size))
                have MK12 := Lib.hid (MK11.out.keep fun r _ h2 => hb.block r h2)
                have HDW := Lib.hid (show ∀ b, D.has t N b → b < w2.heap.size from fun b hb => HS11.out.lt hb)
                have HPW := Lib.hid (show ∀ a, D.po = some a → 0 < N → a.block < w2.heap.size by intro a h1 h2; obtain ⟨a', q1, q2, _⟩ := HS11.out.pts.ptr h2; rw [h1] at q1; injection q1 with q1; subst q1; exact q2)
                have HML := Lib.hid MK11.out.lt
                have hww := B11.out.size
                clear hcp hb HS11 B11 MK11
                go_wp2_with fail
                refine (same_is _ cb t D N X Y O _ L HLL.out hlen _ HC12.out HS12.out).mono ?_
                rintro e V13 ⟨rfl, hb⟩
                have HC13 := Lib.hid (HC12.out.of hb)
                have hw13 : w2.heap.size ≤ V13.heap.size := Nat.le_trans hw12 hb.size
                have HS13 := Lib.hid (HS12.out.of hb)
                have B13 := Lib.hid (B12.out.trans (hb.mono B12.out.size))
                have MK13 := Lib.hid (MK12.out.keep fun r _ h2 => hb.block r h2)
                clear hb HS12 B12 MK12 HC12
                go_wp2_with fail
                refine (allST _ cb N X Y O _ L HLL.out hlen _ HC13.out).mono ?_
                rintro e V14 ⟨v, rfl, tl, hb⟩
                obtain ⟨ao4, cap4, rfl, P4⟩ := Trs.ofRow tl
                have HT14 := Lib.hid tl
                have HP14 := Lib.hid P4
                have q1 := P4.capl
                have q2 := P4.capb
                have HC14 := Lib.hid (HC13.out.of hb)
                have HC13b : w2.heap.size ≤ V13.heap.size := hw13
                have HS14 := Lib.hid (HS13.out.of hb)
                have B14 := Lib.hid (B13.out.trans (hb.mono B13.out.size))
                have MK14 := Lib.hid (MK13.out.keep fun r _ h2 => hb.block r h2)
                obtain ⟨M, hM⟩ : ∃ m, L.length = m := ⟨_, rfl⟩
                have HM := Lib.hid hM
                rw [hM] at q1 ⊢
                have HB14 := Lib.hid hb
                clear tl P4 hb HS13 B13 MK13 hM
                go_wp2_with fail
                go_loopg [108] M (fun gk s108 wr => ∃ (k : Nat) (Ok : Nat → List (Nat × Nat)), s108 = .int .i64 (k : Nat) ∧ k ≤ M ∧ M - k ≤ gk ∧ Hid ((∃ Dk : SD, SM wr cb Dk N X Y Ok ((M : Int) - k) ∧ ∀ g, Dk.has cb N g → w2.heap.size ≤ g ∧ (g < V13.heap.size ∨ V14.heap.size ≤ g)) ∨ (N = 0 ∧ ST w2.heap.size wr cb N X Y Ok ((M : Int) - k))) ∧ Hid (∀ j x, k ≤ j → L[j]? = some x → HasT Ok x) ∧ Hid (Fr V14 wr (fun b => w2.heap.size ≤ b ∧ b < V13.heap.size)))
                case atStart =>
                  refine ⟨0, O, rfl, Nat.zero_le _, Nat.le_refl _, Lib.hid ?_, Lib.hid fun j x _ hx => ?_, Lib.hid ⟨rfl, rfl, rfl, Nat.le_refl _, fun _ _ _ => rfl⟩⟩
                  · have e0 : ((M : Int) - ((0 : Nat) : Int)) = ((L.length : Nat) : Int) := by rw [HM.out]; omega
                    rw [e0]
                    rcases HC13.out with ⟨D1, s1, s2⟩ | h0
                    · exact .inl ⟨D1, s1.of HB14.out, fun g hg => ⟨s2 g hg, .inl (s1.lt hg)⟩⟩
                    · exact .inr ⟨h0.1, HC14.out⟩
                  · exact hasT_told CY.out (mem_preO.1 (show x ∈ preO O N by rw [HLL.out]; exact List.mem_iff_getElem?.2 ⟨j, hx⟩)).2.1
                case round =>
                  obtain ⟨k, Ok, rfl, hk, hgk, HK, HT, HF⟩ := hrel
                  by_cases hkM : k < M
                  · obtain ⟨⟨xa, xb, xc⟩, hx⟩ : ∃ x, L[k]? = some x := ⟨_, List.getElem?_eq_getElem (show k < L.length by rw [HM.out]; exact hkM)⟩
                    have hmem := mem_preO.1 (show (xa, xb, xc) ∈ preO O N by rw [HLL.out]; exact List.mem_iff_getElem?.2 ⟨k, hx⟩)
                    have hla := (look_mem (CY.out.srt xa)).1 hmem.2.1
                    obtain ⟨haN, hbN, hcN⟩ := DM.out _ _ _ hla
                    have hab := CY.out.ne _ _ _ hla
                    have hbc := CY.out.ne _ _ _ (CY.out.rot _ _ _ hla)
                    have hca := CY.out.ne _ _ _ (CY.out.rot _ _ _ (CY.out.rot _ _ _ hla))
                    obtain ⟨g0, e0, hg0, hcell⟩ := HP14.out.ptr (by rw [HM.out]; omega)
                    subst e0
                    have hg1 := (HT14.out.lt (g := g0) rfl).1
                    obtain ⟨y0, y1, y2⟩ := hcell k _ hx
                    have x0 := (HF.out.cell (p := ⟨g0, k * 3, none⟩) hg0 (by show ¬ (_ ≤ g0 ∧ g0 < _); omega)).trans y0
                    have x1 := (HF.out.cell (p := ⟨g0, k * 3 + 1, none⟩) hg0 (by show ¬ (_ ≤ g0 ∧ g0 < _); omega)).trans y1
                    have x2 := (HF.out.cell (p := ⟨g0, k * 3 + 2, none⟩) hg0 (by show ¬ (_ ≤ g0 ∧ g0 < _); omega)).trans y2
                    have lg := Nat.lt_of_lt_of_le hg0 HF.out.size
                    simp only [] at x0 x1 x2
                    have HX := Lib.hid hx
                    have HMEM := Lib.hid hmem
                    clear hcell hx hmem hla y0 y1 y2
                    rcases HK.out with ⟨Dk, sk, hdk⟩ | ⟨hN0, _⟩
                    · have SK := Lib.hid sk
                      have HDK := Lib.hid hdk
                      clear sk hdk HK
                      go_wp2_with fail
                      refine calls_w ?_
                      intro W hW
                      have hbW : Below wr.heap.size wr W := by rw [hW]; exact below_a1 _ _
                      clear hW x0 x1 x2
                      refine (Del_yes cb Dk N X Y Ok _ xa xb xc W (SK.out.of hbW) haN hbN hcN hab hbc (fun e => hca e.symm) (HT.out k _ (Nat.le_refl _) HX.out) (by have := HM.out; omega)).mono ?_
                      rintro e W2 ⟨rfl, D', hd1, hd2, hd3, _⟩
                      have hsW := hbW.size
                      have hFV := HF.out.size
                      have HK2 : Hid ((∃ Dk : SD, SM W2 cb Dk N X Y (delT Ok xa xb xc) ((M : Int) - ((k + 1 : Nat) : Int)) ∧ ∀ g, Dk.has cb N g → w2.heap.size ≤ g ∧ (g < V13.heap.size ∨ V14.heap.size ≤ g)) ∨ (N = 0 ∧ ST w2.heap.size W2 cb N X Y (delT Ok xa xb xc) ((M : Int) - ((k + 1 : Nat) : Int)))) := by
                        refine Lib.hid (.inl ⟨D', ?_, fun g hg => ?_⟩)
                        · rw [show ((M : Int) - ((k + 1 : Nat) : Int)) = (M : Int) - (k : Int) - 1 by omega]; exact hd1
                        · rcases hd3 g hg with h | h
                          · exact HDK.out g h
                          · have := HB14.out.size
                            have := HC13b
                            omega
                      have HT2 : Hid (∀ j x, k + 1 ≤ j → L[j]? = some x → HasT (delT Ok xa xb xc) x) := Lib.hid fun j x hj hx => by
                        have hm2 := mem_preO.1 (show x ∈ preO O N by rw [HLL.out]; exact List.mem_iff_getElem?.2 ⟨j, hx⟩)
                        exact told_apart (t := (xa, xb, xc)) (HT.out k _ (Nat.le_refl _) HX.out) (HT.out j x (by omega) hx) HMEM.out.2.2 hm2.2.2 (preO_ne CY.out.srt (by rw [HLL.out]; exact HX.out) (by rw [HLL.out]; exact hx) (by omega))
                      have HF2 : Hid (Fr V14 W2 (fun b => w2.heap.size ≤ b ∧ b < V13.heap.size)) := Lib.hid ((HF.out.trans (Fr.ofBelow (S := fun _ => False) hbW) (fun b hb => hb.elim)).trans hd2 (fun b hb => by have := HDK.out b hb; omega))
                      clear hd1 hd2 hd3 hbW HT HF
                      go_wp2_with fail
                      go_roundg (M - (k + 1))
                      case measure => omega
                      case rel => exact ⟨k + 1, _, by norm_cast, by omega, Nat.le_refl _, HK2, HT2, HF2⟩
                    · exfalso
                      omega
                  · have hkM2 : k = M := by omega
                    have HSTk : Hid (ST w2.heap.size wr cb N X Y Ok 0) := by
                      have e0 : ((M : Int) - (k : Int)) = 0 := by omega
                      have h := HK.out
                      rw [e0] at h
                      rcases h with ⟨Dk, sk, hdk⟩ | h
                      · exact Lib.hid (.inl ⟨Dk, sk, fun g hg => (hdk g hg).1⟩)
                      · exact Lib.hid h.2
                    have HSr := Lib.hid (HS14.out.fr HF.out (fun b hb h => by have := HDW.out b hb; omega) (fun a h1 h2 h => by have := HPW.out a h1 h2; omega))
                    have Br := Lib.hid (B14.out.trans (HF.out.below (B := w.heap.size) B14.out.size (fun k h => by omega)))
                    have MKr := Lib.hid (MK14.out.keepD fun d hd r hr h1 h2 => HF.out.block r h2 (fun h => by have := HML.out d hd r hr; omega))
                    clear HK HT HF
                    go_wp2_with fail
                    refine (LenST _ cb N X Y Ok _ wr HSTk.out).mono ?_
                    rintro e W1 ⟨rfl, hb⟩
                    have HS1 := Lib.hid (HSr.out.of hb)
                    have B1 := Lib.hid (Br.out.trans (hb.mono Br.out.size))
                    have MK1 := Lib.hid (MKr.out.keep fun r _ h2 => hb.block r h2)
                    clear hb HSr Br MKr HSTk
                    go_wp2_with fail
                    refine (Len_is t D N X Y O _ W1 HS1.out).mono ?_
                    rintro e W2 ⟨rfl, hb⟩
                    have HS2 := Lib.hid (HS1.out.of hb)
                    have B2 := Lib.hid (B1.out.trans (hb.mono B1.out.size))
                    have MK2 := Lib.hid (MK1.out.keep fun r _ h2 => hb.block r h2)
                    clear hb HS1 B1 MK1
                    go_wp2_with fail
                    refine (all_is t D N X Y O _ L HLL.out hlen W2 HS2.out).mono ?_
                    rintro e W3 ⟨v3, rfl, tl3, hb⟩
                    obtain ⟨ao5, cap5, rfl, _⟩ := Trs.ofRow tl3
                    have B3 := Lib.hid (B2.out.trans (hb.mono B2.out.size))
                    have MK3 := Lib.hid (MK2.out.keep fun r _ h2 => hb.block r h2)
                    clear hb tl3 HS2 B2 MK2
                    go_wp2_with fail
                    refine (awake_is W3).mono ?_
                    rintro e W4 ⟨rfl, hb⟩
                    have B4 := Lib.hid (B3.out.trans (hb.mono B3.out.size))
                    have MK4 := Lib.hid (MK3.out.keep fun r _ h2 => hb.block r h2)
                    clear hb B3 MK3
                    go_wp2
                    refine leaves_marks (B := w.heap.size) (y := kb) (by omega) (fun _ => False) _ W4 B4.out.size MK4.out (fun _ _ _ _ h => h) fun w' hb => ?_
                    exact ⟨_, by simp [results, Try.results7, go_sem], rfl, B4.out.trans hb.1⟩
end Go.Proofs.Ytdlpfiiakmhnlaa

namespace Go.Proofs.Ytdlpfiiakmhnlaa
open Go.ChangeShapes Go.WideShapes Go.ChangeAt Go.RowKit

theorem blk_add (a : Addr) (n : Nat) : (a.add n).block = a.block := by unfold Addr.add; split <;> rfl
section
variable {H : Type} {enc : TypeId × Value → H} {w : World} {base : Nat} {held : Bool}
set_option maxRecDepth 100000 in
theorem open_pts {r : Reach} {b0 : Nat} {v : Value} {d : DataW H} {p : List MemPlace} (hv : Value.okWide Try.prog w r b0 22 v) (h : DataW.Trod enc Try.prog w base (fun _ => true) held 22 v d p) :
    ∃ ao n cap X Y, v = .slice ao n cap ∧ Pts w ao n cap X Y := by
  obtain ⟨ao, n, cap, rfl⟩ := okWide_slice Try.underlying22 hv
  obtain ⟨fuel, hf⟩ := h
  have hC : Try.prog.cellsOf 41 = 2 := by kernel_rfl
  have hC1 : Try.prog.cellsOf 3 = 1 := by kernel_rfl
  rcases Go.Deep.open_slice_pairs Try.underlying22 Try.underlying41 hC rfl rfl hC1 hC1 hf with ⟨hc, hx⟩ | ⟨a, len, c2, m, k, V0, V1, D0, D1, P0, P1, hc, _, hl, hm, hmm, hx, hall⟩
  · obtain ⟨rfl, rfl, rfl⟩ : ao = none ∧ n = 0 ∧ cap = 0 := by simpa [Value.cells] using hc
    exact ⟨none, 0, 0, fun _ => 0, fun _ => 0, rfl, fun h => absurd h (by omega), Nat.le_refl _, by omega⟩
  · obtain ⟨rfl, rfl, rfl⟩ : ao = some a ∧ n = len ∧ cap = c2 := by simpa [Value.cells] using hc
    have hmc : m = cap := by rw [hmm]; rfl
    have key : ∀ i, i < n → ∃ y : Int × Int, V0 i = .int .i64 y.1 ∧ V1 i = .int .i64 y.2 := by
      intro i hi
      obtain ⟨_, _, t0, t1⟩ := hall i (by omega)
      obtain ⟨a0, e0, _, g0⟩ := DataW.trod_int Try.underlying3 t0
      obtain ⟨a1, e1, _, g1⟩ := DataW.trod_int Try.underlying3 t1
      exact ⟨(a0, a1), by simpa using e0, by simpa using e1⟩
    refine ⟨some a, n, cap, fun i => if h : i < n then (key i h).choose.1 else 0, fun i => if h : i < n then (key i h).choose.2 else 0, rfl, fun h0 => ⟨a, rfl, ?_, fun i hi => ?_⟩, hl, hm⟩
    · have := (hall 0 (by omega)).1
      have := World.block_lt_of_cell? _ _ this
      rwa [blk_add] at this
    · have e0 := (hall i (by omega)).1
      have e1 := (hall i (by omega)).2.1
      rw [(key i hi).choose_spec.1] at e0
      rw [(key i hi).choose_spec.2] at e1
      simp only [dif_pos hi]
      exact ⟨e0, by rw [Go.Deep.add_add]; exact e1⟩
end
end Go.Proofs.Ytdlpfiiakmhnlaa

namespace Go.Proofs.Ytdlpfiiakmhnlaa
open Go.ChangeShapes Go.WideShapes Go.ChangeAt Go.RowKit

set_option maxRecDepth 100000 in
set_option maxHeartbeats 1000000 in
theorem triTells_lifted (os : Os) (started : os.Started) (H : Type) (enc : TypeId × Value → H) :
    ReturnsInHanded {} Try.checked os 7 .any (Rows.triTellsSpec.pre6 enc Try.prog Try.f7 Rows.triTellsRow.domain false) (Rows.triTellsSpec.post enc Try.prog Try.f7 false true false false) := by
  refine returnsInHanded_of_change (C := Try.checked) own started (by kernel_rfl) Try.func7
    (ChangeSpec.witness6 (enc := enc) (C := Try.checked) false ⟨#[], #[.slice none 0 0, .int .i64 0, .int .i64 0], []⟩ 8 (by kernel_rfl) (by kernel_rfl) (by kernel_rfl) (by kernel_rfl)) ?_
  intro W base args ds gs before hval0 hW hcnd _
  have hval : ∀ (j : Nat) t v, Try.f7.params[j]? = some t → args[j]? = some v → Value.okWide Try.prog W .any base t v := hval0
  have hW' := hW
  obtain ⟨p, q, hA0, hV, rfl, hfz, hnd⟩ := hW
  have hA : DataW.TrodAll enc Try.prog W 0 (fun _ => true) true Try.f7.params.toList args.toList ds p := hA0
  rw [Try.params7] at hA hval
  obtain ⟨v0, vs0, d0, ds0, p0, q0, hargs, rfl, rfl, h0, r0⟩ := trodAll_cons hA
  obtain ⟨v1, vs1, d1, ds1, p1, q1, rfl, rfl, rfl, h1, r1⟩ := trodAll_cons r0
  obtain ⟨v2, vs2, d2, ds2, p2, q2, rfl, rfl, rfl, h2, r2⟩ := trodAll_cons r1
  obtain ⟨rfl, rfl, rfl⟩ := trodAll_nil r2
  obtain rfl : args = #[v0, v1, v2] := by cases args; simp_all
  obtain ⟨rfl, rfl⟩ := trodVars_none hV
  have k0 := h0
  have lt0 : ∀ x ∈ p0, x.block < W.heap.size := by obtain ⟨m, hm⟩ := k0; exact DataW.trod_lt m _ _ _ hm
  obtain ⟨ao0, n0, cap0, X0, Y0, rfl, io0⟩ := open_pts (hval 0 22 v0 rfl rfl) h0
  obtain ⟨x1, rfl, rfl, rfl, wx1⟩ := open_int Try.underlying3 (hval 1 3 v1 rfl rfl) h1
  obtain ⟨x2, rfl, rfl, rfl, wx2⟩ := open_int Try.underlying3 (hval 2 3 v2 rfl rfl) h2
  clear hA0 hval0
  refine (TriTells_any ao0 n0 cap0 X0 Y0 x1 x2 W io0).mono fun e W' ⟨he, bel⟩ => ?_
  subst he
  exact ⟨_, rfl, _, _, _, [], _, [], hW', trodAll_mk1 (shut_bool Try.underlying4 _), (trodAll_cons_mk (Below.trod laidOut (by kernel_rfl) (of_decide_eq_true (by kernel_rfl)) k0 bel lt0) (trodAll_cons_mk (shut_int Try.underlying3 wx1) (trodAll_cons_mk (shut_int Try.underlying3 wx2) trodAll_mk0))), rfl, bel.frame _, fun h => by cases h⟩

theorem triTells_holds : Rows.TriTellsSaid :=
  OpenClaim.holds_of_wide 7 Try.f7 rfl rfl rfl rfl rfl rfl rfl ⟨rfl, rfl, rfl, rfl, rfl⟩ rfl rfl rfl rfl rfl (by kernel_rfl) Try.func7 (by kernel_rfl)
    (of_decide_eq_true (by kernel_rfl)) (by unfold Func.isWrapper; rw [if_neg (by decide +kernel)]; exact ⟨rfl, rfl⟩)
    (fun os started H enc _ => triTells_lifted os started H enc)
#print axioms triTells_holds
end Go.Proofs.Ytdlpfiiakmhnlaa

