/- The statement AvlPlaysSaid: for every input the law returns true, and its arguments read as before. Conditions: none. -/
import Derived.Test.YtgdjihihjlbelaaSAp2
import Derived.KernelRfl
import Derived.StillTail
import Derived.OrdersHeld
import Derived.Deep.Quiet
import Derived.Below
import Derived.WalkKit
import Derived.Test.YtgdjihihjlbelaaProg
import Derived.WalkSpells
import Derived.StillTactics
import Derived.Laws.Pointers
import Derived.Deep.RegionHeld3
import Derived.RowKit3
import Derived.Deep.QuietTactic
import Derived.BigQuiet
import Derived.BigRegion
import Derived.Deep.LoopGhost
import Derived.Deep.DeepFit
import Derived.Deep.DeepCutAuto
import Derived.OwnWalk
import Derived.Lib.Hide
import Derived.RangeFuncNested
import Derived.RangeFuncBound
import Derived.RangeFuncCalls
import Derived.RangeFuncLeaves
import Derived.Shelf.Abstract
import Derived.Shelf.RegionOpen
import Derived.OwnWalkIn
import Derived.TacticsInMore
import Derived.LoopNIn
import Derived.LoopIn
import Derived.Deep.DeepAppendRoom
import Derived.Sort.LoopGhostIn
import Derived.Test.YtgdjihihjlbelaaRows
import Derived.ProofKit
import Derived.OpenShut
import Derived.ChangeOld
import Derived.Deep.SlicePairs
namespace Go.Proofs.Ytgdjihihjlbelaa
open Go.RowKit

/-- what a step answers -/
def Stp (B : Nat) (t : Nat) (S : TS) (q : Nat) (w : World) (e : Ending) (w' : World) : Prop := ∃ v' L' S' T', e = .returned (.tuple #[v', .bool true]) ∧ St B w' t S' T' (q + 1) v' L' ∧ Below B w w' ∧ Fr t S S' w w'
set_option maxRecDepth 100000 in
set_option maxHeartbeats 2000000 in
theorem step_put_old (B t : Nat) (S : TS) (T : Tr) (q : Nat) (v : Value) (L : List Int) (x : Int) (w : World) (h : St B w t S T q v L) (hx : In64 x) (hq : q ≤ 400) (hB : B ≤ w.heap.size) (hf0 : 0 ≤ fnd x L) :
    Calls Try.prog 11 #[ptr t 0, v, .agg #[.int .i64 1, .int .i64 x]] w (Stp B t S q w) := by
  have hff := h.fnd x
  obtain ⟨f, hf⟩ : ∃ f, fnd x L = f := ⟨_, rfl⟩
  have hlen := h.len
  have hsz := h.inv.sz
  have HS := Lib.hid h
  have HF := Lib.hid hf
  rw [hf] at hff
  rw [hf] at hf0
  have hne : T.found (fun i => cten x (S.v i)) ≠ 0 := by rcases hff with a | a; omega; exact a.1
  clear hff h hf
  go_enter Try.func11, Try.ntmps11
  go_wp2_with fail
  refine calls_w ?_
  intro V hV
  have ko : Blk V w.heap.size #[.int .i64 1, .int .i64 x] 29 := by rw [hV]; exact Blk.new _ _ _
  have hbV : Below w.heap.size w V := by rw [hV]; exact below_a1 _ _
  clear hV
  have S1 := HS.out.of hbV
  refine (Find_is v B L x f HF.out V S1.il S1.l64 hx).mono ?_
  rintro e V2 ⟨rfl, hn⟩
  have S2 := Lib.hid (S1.of hn)
  have k2 := ko.of hn
  have hb2 := hbV.trans (hn.mono hbV.size)
  have o0 := k2.cell 0
  have o1 := k2.cell 1
  have ol := k2.lt
  simp only [List.getElem?_toArray, List.getElem?_cons_zero, List.getElem?_cons_succ] at o0 o1
  clear hn hbV ko S1 k2
  go_wp2_with fail
  refine (Put_old t S cten x T _ rfl hne _ S2.out.m.m S2.out.ok hx S2.out.inv.ok.rep S2.out.inv.v64 (by omega)).mono ?_
  rintro e V3 ⟨rfl, hn⟩
  have S3 := Lib.hid (S2.out.of hn)
  have hb3 := hb2.trans (hn.mono hb2.size)
  clear hn S2 hb2 o0 o1
  go_wp2
  go_ret2
  exact ⟨v, L, S, T, rfl, S3.out.more, hb3.mono hB, Fr.ofBelow hb3⟩
set_option maxRecDepth 100000 in
set_option maxHeartbeats 2000000 in
theorem step_del_none (B t : Nat) (S : TS) (T : Tr) (q : Nat) (v : Value) (L : List Int) (x : Int) (w : World) (h : St B w t S T q v L) (hx : In64 x) (hq : q ≤ 400) (hB : B ≤ w.heap.size) (hf0 : fnd x L < 0) :
    Calls Try.prog 11 #[ptr t 0, v, .agg #[.int .i64 2, .int .i64 x]] w (Stp B t S q w) := by
  have hff := h.fnd x
  obtain ⟨f, hf⟩ : ∃ f, fnd x L = f := ⟨_, rfl⟩
  have hlen := h.len
  have hsz := h.inv.sz
  have HS := Lib.hid h
  have HF := Lib.hid hf
  rw [hf] at hff
  rw [hf] at hf0
  have hne : T.found (fun i => cten x (S.v i)) = 0 := by rcases hff with a | a; exact a.1; omega
  clear hff h hf
  go_enter Try.func11, Try.ntmps11
  go_wp2_with fail
  refine calls_w ?_
  intro V hV
  have ko : Blk V w.heap.size #[.int .i64 2, .int .i64 x] 29 := by rw [hV]; exact Blk.new _ _ _
  have hbV : Below w.heap.size w V := by rw [hV]; exact below_a1 _ _
  clear hV
  have S1 := HS.out.of hbV
  refine (Find_is v B L x f HF.out V S1.il S1.l64 hx).mono ?_
  rintro e V2 ⟨rfl, hn⟩
  have S2 := Lib.hid (S1.of hn)
  have k2 := ko.of hn
  have hb2 := hbV.trans (hn.mono hbV.size)
  have o0 := k2.cell 0
  have o1 := k2.cell 1
  have ol := k2.lt
  simp only [List.getElem?_toArray, List.getElem?_cons_zero, List.getElem?_cons_succ] at o0 o1
  clear hn hbV ko S1 k2
  go_wp2_with fail
  refine (Del_none t S cten x T _ rfl hne _ S2.out.m.m S2.out.ok hx S2.out.inv.ok.rep S2.out.inv.v64 (by omega)).mono ?_
  rintro e V3 ⟨rfl, hn⟩
  have S3 := Lib.hid (S2.out.of hn)
  have hb3 := hb2.trans (hn.mono hb2.size)
  clear hn S2 hb2 o0 o1
  go_wp2
  go_ret2
  exact ⟨v, L, S, T, rfl, S3.out.more, hb3.mono hB, Fr.ofBelow hb3⟩
set_option maxRecDepth 100000 in
set_option maxHeartbeats 2000000 in
theorem step_other (B t : Nat) (S : TS) (T : Tr) (q : Nat) (v : Value) (L : List Int) (kd x : Int) (w : World) (h : St B w t S T q v L) (hx : In64 x) (hq : q ≤ 400) (hB : B ≤ w.heap.size) (hk1 : kd ≠ 1) (hk2 : kd ≠ 2) :
    Calls Try.prog 11 #[ptr t 0, v, .agg #[.int .i64 kd, .int .i64 x]] w (Stp B t S q w) := by
  have hff := h.fnd x
  obtain ⟨f, hf⟩ : ∃ f, fnd x L = f := ⟨_, rfl⟩
  have hlen := h.len
  have hsz := h.inv.sz
  have HS := Lib.hid h
  have HF := Lib.hid hf
  rw [hf] at hff
  clear hff h hf
  go_enter Try.func11, Try.ntmps11
  go_wp2_with fail
  refine calls_w ?_
  intro V hV
  have ko : Blk V w.heap.size #[.int .i64 kd, .int .i64 x] 29 := by rw [hV]; exact Blk.new _ _ _
  have hbV : Below w.heap.size w V := by rw [hV]; exact below_a1 _ _
  clear hV
  have S1 := HS.out.of hbV
  refine (Find_is v B L x f HF.out V S1.il S1.l64 hx).mono ?_
  rintro e V2 ⟨rfl, hn⟩
  have S2 := Lib.hid (S1.of hn)
  have k2 := ko.of hn
  have hb2 := hbV.trans (hn.mono hbV.size)
  have o0 := k2.cell 0
  have o1 := k2.cell 1
  have ol := k2.lt
  simp only [List.getElem?_toArray, List.getElem?_cons_zero, List.getElem?_cons_succ] at o0 o1
  clear hn hbV ko S1 k2
  go_wp2
  go_ret2
  exact ⟨v, L, S, T, rfl, S2.out.more, hb2.mono hB, Fr.ofBelow hb2⟩
set_option maxRecDepth 100000 in
set_option maxHeartbeats 2000000 in
theorem step_put_new (B t : Nat) (S : TS) (T : Tr) (q : Nat) (v : Value) (L : List Int) (x : Int) (w : World) (h : St B w t S T q v L) (hx : In64 x) (hq : q ≤ 400) (hB : B ≤ w.heap.size) (hf0 : fnd x L < 0) :
    Calls Try.prog 11 #[ptr t 0, v, .agg #[.int .i64 1, .int .i64 x]] w (Stp B t S q w) := by
  have hff := h.fnd x
  obtain ⟨f, hf⟩ : ∃ f, fnd x L = f := ⟨_, rfl⟩
  have hlen := h.len
  have hsz := h.inv.sz
  have HS := Lib.hid h
  have HF := Lib.hid hf
  rw [hf] at hff
  rw [hf] at hf0
  have nt0 : ¬ w.heap.size = t := by have := h.m.m.blk.lt; omega
  have nn0 : ¬ w.heap.size = S.nb := by have := h.m.m.row.lt; omega
  have nf0 : ¬ w.heap.size = S.fb := by have := h.m.lf; omega
  have hne : T.found (fun i => cten x (S.v i)) = 0 := by rcases hff with a | a; exact a.1; omega
  have HL := Lib.hid (show L.length < 1000000 by omega)
  clear hff h hf hlen hsz
  go_enter Try.func11, Try.ntmps11
  go_wp2_with fail
  refine calls_w ?_
  intro V hV
  have ko : Blk V w.heap.size #[.int .i64 1, .int .i64 x] 29 := by rw [hV]; exact Blk.new _ _ _
  have hbV : Below w.heap.size w V := by rw [hV]; exact below_a1 _ _
  clear hV
  have S1 := HS.out.of hbV
  refine (Find_is v B L x f HF.out V S1.il S1.l64 hx).mono ?_
  rintro e V2 ⟨rfl, hn⟩
  have S2 := Lib.hid (S1.of hn)
  have k2 := ko.of hn
  have hb2 := hbV.trans (hn.mono hbV.size)
  have o0 := k2.cell 0
  have o1 := k2.cell 1
  have ol := k2.lt
  simp only [List.getElem?_toArray, List.getElem?_cons_zero, List.getElem?_cons_succ] at o0 o1
  clear hn hbV ko S1 k2
  go_wp2_with fail
  refine name_world ?_
  intro W hW
  subst hW
  have lt := S2.out.m.m.blk.lt
  have ln := S2.out.m.m.row.lt
  have lf := S2.out.m.lf
  refine wp_region_upl [t, S.nb, S.fb] 7 [(true, 0), (true, 1), (true, 2), (true, 4), (true, 5), (true, 6), (false, 3)] (by kernel_rfl) (by kernel_rfl) (fun _ _ d _ _ h => by cases d <;> exact h) ?_
  have hb : OutL [t, S.nb, S.fb] W W.drew := (OutL.refl _ _).drew
  iterate 6
    refine wpS_takeL rfl rfl ?_
    go_big_quiet_step (rfl)
    refine wpQuiet_nil ?_
  refine wpS_doL rfl ?_
  intro K hK
  go_wp2_with ((go_at_call 29; (with_reducible refine (rPut_is v B L x _ (S2.out.of (Below.refl _ _).drew).il S2.out.l64 hx HL.out).mono ?_); rintro e w2 ⟨v1, rfl, hO1, hbn⟩; have hn := OutL.ofBelow (l := [t, S.nb, S.fb]) hbn; have HB1 := Lib.hid ((Below.refl W.heap.size W).drew.trans (hbn.mono (Nat.le_refl _))); have hO1 := Lib.hid hO1))
  replace hb := hb.trans hn
  refine hK.out _ _ (upl hb) ?_
  clear hK K
  clear hn
  refine wpS_nil ?_
  simp only [List.drop_succ_cons, List.drop_zero]
  go_wp2_with (go_at_call 17; (with_reducible refine (Put_ok t ordk_ten S2.out.inv x hx hne hq _ (S2.out.of HB1.out).m S2.out.ok).mono ?_); rintro e w2 ⟨rfl, S3, hP, hord, hm3, hf2⟩; have hn := hf2.out; have hf2 := Lib.hid hf2; have hm3 := Lib.hid hm3; have hP := Lib.hid hP)
  have hd1 : ∀ k, v1.ownBlock = some k → k ≠ t ∧ k ≠ S.nb ∧ k ≠ S.fb := fun k hk => by
    have := (wayown hO1.out k hk).2
    simp at this; omega
  obtain ⟨I2, d2⟩ := (IL.mono hO1.out (base' := B) (by have := hb2.size; simp; omega)).fr hf2.out hd1
  have SN := S2.out.of HB1.out
  have SF := Lib.hid (SN.below hf2.out)
  have HB2 := Lib.hid hb2
  have I2 := Lib.hid I2
  have d2 := Lib.hid d2
  clear hO1 hd1 SN hb hb2
  go_ret2
  obtain ⟨T', P, Q, i1, i2, i3, i4, i5⟩ := hP.out
  have e5 : insR x L = vals S3 T' := by
    rw [i5, ← S2.out.lv]
    unfold vals
    rw [i2, List.map_append]
    exact insR_split x _ _ (fun z hz => by obtain ⟨m, hm, rfl⟩ := List.mem_map.1 hz; have := i3 m hm; omega) (fun z hz => by obtain ⟨m, hm, rfl⟩ := List.mem_map.1 hz; exact i4 m hm)
  exact ⟨v1, _, S3, T', rfl, (S2.out.of HB1.out).next hm3.out hf2.out i1 hord I2.out e5.symm d2.out, ((HB2.out.mono hB).trans (HB1.out.mono (by have := HB2.out.size; omega))).trans SF.out, (Fr.ofBelow HB2.out).trans ((Fr.ofBelow HB1.out).trans hf2.out)⟩
set_option maxRecDepth 100000 in
set_option maxHeartbeats 2000000 in
theorem step_del_old (B t : Nat) (S : TS) (T : Tr) (q : Nat) (v : Value) (L : List Int) (x : Int) (w : World) (h : St B w t S T q v L) (hx : In64 x) (hq : q ≤ 400) (hB : B ≤ w.heap.size) (hf0 : 0 ≤ fnd x L) :
    Calls Try.prog 11 #[ptr t 0, v, .agg #[.int .i64 2, .int .i64 x]] w (Stp B t S q w) := by
  have hff := h.fnd x
  obtain ⟨f, hf⟩ : ∃ f, fnd x L = f := ⟨_, rfl⟩
  have hlen := h.len
  have hsz := h.inv.sz
  have HS := Lib.hid h
  have HF := Lib.hid hf
  rw [hf] at hff
  rw [hf] at hf0
  have nt0 : ¬ w.heap.size = t := by have := h.m.m.blk.lt; omega
  have nn0 : ¬ w.heap.size = S.nb := by have := h.m.m.row.lt; omega
  have nf0 : ¬ w.heap.size = S.fb := by have := h.m.lf; omega
  have hne : T.found (fun i => cten x (S.v i)) ≠ 0 := by rcases hff with a | a; omega; exact a.1
  obtain ⟨fz, hfz⟩ : ∃ fz : Nat, f.toNat = fz := ⟨_, rfl⟩
  have hfe : f = (fz : Int) := by omega
  have HZ := Lib.hid hfz
  have HFE := Lib.hid hfe
  have HL := Lib.hid (show L.length < 1000000 by omega)
  clear hff h hf hlen hsz hfe hfz hf0
  go_enter Try.func11, Try.ntmps11
  go_wp2_with fail
  refine calls_w ?_
  intro V hV
  have ko : Blk V w.heap.size #[.int .i64 2, .int .i64 x] 29 := by rw [hV]; exact Blk.new _ _ _
  have hbV : Below w.heap.size w V := by rw [hV]; exact below_a1 _ _
  clear hV
  have S1 := HS.out.of hbV
  refine (Find_is v B L x f HF.out V S1.il S1.l64 hx).mono ?_
  rintro e V2 ⟨rfl, hn⟩
  rw [HFE.out]
  have S2 := Lib.hid (S1.of hn)
  have k2 := ko.of hn
  have hb2 := hbV.trans (hn.mono hbV.size)
  have o0 := k2.cell 0
  have o1 := k2.cell 1
  have ol := k2.lt
  simp only [List.getElem?_toArray, List.getElem?_cons_zero, List.getElem?_cons_succ] at o0 o1
  clear hn hbV ko S1 k2
  go_wp2_with fail
  refine name_world ?_
  intro W hW
  subst hW
  have lt := S2.out.m.m.blk.lt
  have ln := S2.out.m.m.row.lt
  have lf := S2.out.m.lf
  refine wp_region_upl [t, S.nb, S.fb] 6 [(true, 0), (true, 1), (true, 3), (true, 4), (true, 5), (false, 2)] (by kernel_rfl) (by kernel_rfl) (fun _ _ d _ _ h => by cases d <;> exact h) ?_
  have hb : OutL [t, S.nb, S.fb] W W.drew := (OutL.refl _ _).drew
  iterate 5
    refine wpS_takeL rfl rfl ?_
    go_big_quiet_step (rfl)
    refine wpQuiet_nil ?_
  refine wpS_doL rfl ?_
  intro K hK
  go_wp2_with ((go_at_call 30; (with_reducible refine (rWithout_is v B L fz _ (S2.out.of (Below.refl _ _).drew).il HL.out).mono ?_); rintro e w2 ⟨v1, rfl, hO1, hbn⟩; have hn := OutL.ofBelow (l := [t, S.nb, S.fb]) hbn; have HB1 := Lib.hid ((Below.refl W.heap.size W).drew.trans (hbn.mono (Nat.le_refl _))); have hO1 := Lib.hid hO1))
  replace hb := hb.trans hn
  refine hK.out _ _ (upl hb) ?_
  clear hK K
  clear hn
  refine wpS_nil ?_
  simp only [List.drop_succ_cons, List.drop_zero]
  go_wp2_with (go_at_call 18; (with_reducible refine (Del_ok t ordk_ten S2.out.inv x hx hne hq _ (S2.out.of HB1.out).m S2.out.ok).mono ?_); rintro e w2 ⟨rfl, S3, hP, hord, hm3, hf2⟩; have hn := hf2.out; have hf2 := Lib.hid hf2; have hm3 := Lib.hid hm3; have hP := Lib.hid hP)
  have hd1 : ∀ k, v1.ownBlock = some k → k ≠ t ∧ k ≠ S.nb ∧ k ≠ S.fb := fun k hk => by
    have := (wayown hO1.out k hk).2
    simp at this; omega
  obtain ⟨I2, d2⟩ := (IL.mono hO1.out (base' := B) (by have := hb2.size; simp; omega)).fr hf2.out hd1
  have SN := S2.out.of HB1.out
  have SF := Lib.hid (SN.below hf2.out)
  have HB2 := Lib.hid hb2
  have I2 := Lib.hid I2
  have d2 := Lib.hid d2
  clear hO1 hd1 SN hb hb2
  go_ret2
  obtain ⟨T', n, P, Q, i1, i2, i6, i3, i4, i5⟩ := hP.out
  have hL : L = P.map S.v ++ S.v n :: Q.map S.v := by rw [← S2.out.lv]; unfold vals; rw [i2, List.map_append, List.map_cons]
  have hfz : fnd x L = (P.map S.v).length := by rw [hL]; exact fnd_split x _ _ _ (fun z hz => by obtain ⟨m, hm, rfl⟩ := List.mem_map.1 hz; have := i3 m hm; omega) i6
  have e5 : L.eraseIdx fz = vals S3 T' := by
    rw [i5, ← HZ.out, ← HF.out, hfz, hL, Int.toNat_natCast, List.eraseIdx_append_of_length_le (Nat.le_refl _), Nat.sub_self]; rfl
  exact ⟨v1, _, S3, T', rfl, (S2.out.of HB1.out).next hm3.out hf2.out i1 hord I2.out e5.symm d2.out, ((HB2.out.mono hB).trans (HB1.out.mono (by have := HB2.out.size; omega))).trans SF.out, (Fr.ofBelow HB2.out).trans ((Fr.ofBelow HB1.out).trans hf2.out)⟩
/-- a step of both goes on, and they do not differ -/
theorem step_is (B t : Nat) (S : TS) (T : Tr) (q : Nat) (v : Value) (L : List Int) (kd x : Int) (w : World) (h : St B w t S T q v L) (hx : In64 x) (hq : q ≤ 400) (hB : B ≤ w.heap.size) :
    Calls Try.prog 11 #[ptr t 0, v, .agg #[.int .i64 kd, .int .i64 x]] w (Stp B t S q w) := by
  by_cases h1 : kd = 1
  · subst h1
    by_cases h2 : 0 ≤ fnd x L
    · exact step_put_old B t S T q v L x w h hx hq hB h2
    · exact step_put_new B t S T q v L x w h hx hq hB (by omega)
  · by_cases h2 : kd = 2
    · subst h2
      by_cases h3 : 0 ≤ fnd x L
      · exact step_del_old B t S T q v L x w h hx hq hB h3
      · exact step_del_none B t S T q v L x w h hx hq hB (by omega)
    · exact step_other B t S T q v L kd x w h hx hq hB h1 h2
end Go.Proofs.Ytgdjihihjlbelaa

namespace Go.Proofs.Ytgdjihihjlbelaa
open Go.RowKit

theorem no_ino : ∀ T : Tr, T.no = T.ino
  | .nil => rfl
  | .nd i l r => by show l.no ++ i :: r.no = l.ino ++ i :: r.ino; rw [no_ino l, no_ino r]
theorem bal_of {S : TS} (h0 : S.d 0 = 0) : ∀ {j : Nat} {T : Tr}, Ok S j T → Avl T → ∀ i ∈ T.no, Bal S i
  | _, .nil, _, _, i, hi => by cases hi
  | _, .nd n l r, h, ha, i, hi => by
    have hi : i ∈ l.no ++ n :: r.no := hi
    rcases List.mem_append.1 hi with h1 | h1
    · exact bal_of h0 h.2.2.2.2.1 ha.2.2.1 i h1
    · rcases List.mem_cons.1 h1 with rfl | h1
      · have e1 := Ok.d h0 h.2.2.2.2.1
        have e2 := Ok.d h0 h.2.2.2.2.2
        have e3 : S.d i = ((max l.ht r.ht + 1 : Nat) : Int) := h.2.2.2.1
        have a1 := ha.1
        have a2 := ha.2.1
        unfold Bal
        rw [e1, e2, e3]
        refine ⟨by push_cast; omega, by omega, by omega⟩
      · exact bal_of h0 h.2.2.2.2.2 ha.2.2.2 i h1
section
variable {key : Int → Int} {c : Int → Int → Int} {S : TS} {T : Tr} {q : Nat}
theorem Inv.bal (h : Inv key S T q) : ∀ i ∈ T.ino, Bal S i := by rw [← no_ino]; exact bal_of h.d0 h.ok h.avl
theorem Inv.rises (hc : OrdK c key) (h : Inv key S T q) : ∀ k, k + 1 < T.size → c (S.v (T.ino.getD k 0)) (S.v (T.ino.getD (k + 1) 0)) < 0 := by
  intro k hk
  have hl : T.no.length = T.size := Tr.no_len T
  rw [← no_ino, (hc _ _).1]
  have := List.pairwise_iff_getElem.1 h.srt k (k + 1) (by omega) (by omega) (by omega)
  rwa [List.getD_eq_getElem?_getD, List.getD_eq_getElem?_getD, List.getElem?_eq_getElem (by omega), List.getElem?_eq_getElem (by omega)]
theorem Inv.check (hc : OrdK c key) (h : Inv key S T q) (hq : q ≤ 400) (t : Nat) (w : World) (hw : TM2 w t S) (ho : OrdOk S.ord c) :
    Calls Try.prog 19 #[ptr t 0] w fun e w' => e = .returned (.bool true) ∧ TM2 w' t S ∧ Fr t S S w w' :=
  Check_is t S c T _ w hw ho h.v64 h.ok.rep (by have := h.sz; omega) h.kb h.dl (by omega) h.bal (h.rises hc) h.n
theorem near1_find (f : Nat → Int) : ∀ (T : Tr) (b : Nat), (∀ P i Q, T.no = P ++ i :: Q → 0 ≤ f i → ∀ n ∈ P, 0 ≤ f n) → T.near1 f b = (T.no.find? fun i => decide (f i < 0)).getD b
  | .nil, b, _ => rfl
  | .nd n l r, b, h => by
    have hl : ∀ P i Q, l.no = P ++ i :: Q → 0 ≤ f i → ∀ n ∈ P, 0 ≤ f n := fun P i Q e => h P i (Q ++ n :: r.no) (by rw [nd_no, e]; simp)
    have hr : ∀ P i Q, r.no = P ++ i :: Q → 0 ≤ f i → ∀ n ∈ P, 0 ≤ f n := fun P i Q e h0 m hm => h (l.no ++ n :: P) i Q (by rw [nd_no, e]; simp) h0 m (by simp [hm])
    show (if f n < 0 then l.near1 f n else r.near1 f b) = ((l.no ++ n :: r.no).find? _).getD b
    rw [List.find?_append]
    by_cases hn : f n < 0
    · rw [if_pos hn, near1_find f l n hl, List.find?_cons_of_pos (by simpa using hn)]
      cases l.no.find? (fun i => decide (f i < 0)) <;> rfl
    · rw [if_neg hn, near1_find f r b hr, List.find?_cons_of_neg (by simpa using hn)]
      have hnone : l.no.find? (fun i => decide (f i < 0)) = none := by
        rw [List.find?_eq_none]; intro m hm
        have := h l.no n r.no (nd_no n l r) (by omega) m hm
        simp; omega
      rw [hnone]; rfl
/-- before and behind a node -/
theorem Inv.cut (h : Inv key S T q) {P Q : List Nat} {i : Nat} (e : T.no = P ++ i :: Q) : (∀ n ∈ P, key (S.v n) < key (S.v i)) ∧ ∀ n ∈ Q, key (S.v i) < key (S.v n) := by
  have := h.srt
  rw [e] at this
  unfold Srt at this
  rw [List.pairwise_append, List.pairwise_cons] at this
  exact ⟨fun n hn => this.2.2 n hn i (by simp), fun n hn => this.2.1.1 n hn⟩
theorem Inv.near1 (hc : OrdK c key) (h : Inv key S T q) (x : Int) : T.near1 (fun i => c x (S.v i)) 0 = (T.no.find? fun i => decide (key x < key (S.v i))).getD 0 := by
  rw [near1_find]
  · congr 1; congr 1; funext i; exact decide_eq_decide.2 (hc x (S.v i)).1
  · intro P i Q e h0 n hn
    have a1 := (h.cut e).1 n hn
    have a2 := hc x (S.v i)
    have a3 := hc x (S.v n)
    have : ¬ key x < key (S.v n) := by
      intro hh; have := a2.1.2 (by omega); omega
    by_cases hh : c x (S.v n) < 0
    · exact absurd (a3.1.1 hh) this
    · omega
/-- the value found, in the list of values -/
theorem find_val (h : Inv key S T q) (l : List Nat) (hl : ∀ n ∈ l, n ∈ T.no) (p : Int → Bool) :
    S.v ((l.find? fun i => p (S.v i)).getD 0) = ((l.map S.v).find? p).getD 0 ∧ (decide ((l.find? fun i => p (S.v i)).getD 0 ≠ 0) = ((l.map S.v).find? p).isSome) := by
  rw [List.find?_map]
  have e : (p ∘ S.v) = fun i => p (S.v i) := rfl
  rw [e]
  cases hf : l.find? (fun i => p (S.v i)) with
  | none => exact ⟨h.v0, rfl⟩
  | some n =>
    have hn := hl n (List.mem_of_find?_eq_some hf)
    have := (h.ok.pos n hn).1
    exact ⟨rfl, by simp; omega⟩
theorem Inv.next (hc : OrdK c key) (h : Inv key S T q) (x : Int) : S.v (T.near1 (fun i => c x (S.v i)) 0) = ((vals S T).find? fun y => decide (key x < key y)).getD 0 ∧ decide (T.near1 (fun i => c x (S.v i)) 0 ≠ 0) = ((vals S T).find? fun y => decide (key x < key y)).isSome := by
  rw [h.near1 hc]; exact find_val h T.no (fun _ hn => hn) (fun y => decide (key x < key y))
theorem end0_no : ∀ T : Tr, ((T.down0).getD ((T.down0).length - 1) (0, 0)).1 = T.no.headD 0
  | .nil => rfl
  | .nd n .nil r => rfl
  | .nd n (.nd m a b) r => by
    have ih := end0_no (.nd m a b)
    have e1 : (Tr.nd n (.nd m a b) r).down0 = (n, 0) :: (Tr.nd m a b).down0 := rfl
    have e2 : (Tr.nd m a b).down0 = (m, 0) :: a.down0 := rfl
    rw [e1, List.length_cons, Nat.add_sub_cancel]
    have e3 : (Tr.nd m a b).down0.length = a.down0.length + 1 := by rw [e2]; rfl
    rw [e3, Nat.add_sub_cancel] at ih
    rw [e3, List.getD_cons_succ, ih, nd_no, nd_no, nd_no]
    cases a.no <;> rfl
theorem head_val (h : Inv key S T q) (l : List Nat) (hl : ∀ n ∈ l, n ∈ T.no) : S.v (l.headD 0) = (l.map S.v).headD 0 ∧ decide (l.headD 0 ≠ 0) = !(l.map S.v).isEmpty := by
  cases l with
  | nil => exact ⟨h.v0, rfl⟩
  | cons n l =>
    have := (h.ok.pos n (hl n (by simp))).1
    exact ⟨rfl, by simp; omega⟩
theorem Inv.root (h : Inv key S T q) : S.root < S.len := by
  rcases h.ok.root with e | e
  · rw [e]; exact h.l0
  · exact (h.ok.pos _ e).2
end
/-- as many as a tree of a depth has at least -/
def least : Nat → Nat
  | 0 => 0
  | 1 => 1
  | n + 2 => least (n + 1) + least n + 1
theorem least_mono : ∀ n, least n ≤ least (n + 1)
  | 0 => by decide
  | n + 1 => by show least (n + 1) ≤ least (n + 1) + least n + 1; omega
theorem least_size : ∀ T : Tr, Avl T → least T.ht ≤ T.size
  | .nil, _ => Nat.le_refl _
  | .nd i l r, h => by
    have h1 := least_size l h.2.2.1
    have h2 := least_size r h.2.2.2
    have a1 := h.1
    have a2 := h.2.1
    show least (max l.ht r.ht + 1) ≤ l.size + r.size + 1
    have hm : ∀ a b : Nat, a ≤ b → b ≤ a + 1 → least (b + 1) ≤ least a + least b + 1 := by
      intro a b h3 h4
      cases b with
      | zero => show 1 ≤ _; omega
      | succ b =>
        show least (b + 1) + least b + 1 ≤ _
        rcases Nat.lt_or_ge a (b + 1) with h5 | h5
        · have : a = b := by omega
          rw [this]; omega
        · have : a = b + 1 := by omega
          have := least_mono b
          rw [‹a = b + 1›]; omega
    rcases Nat.le_total l.ht r.ht with h3 | h3
    · rw [Nat.max_eq_right h3]; have := hm _ _ h3 a2; omega
    · rw [Nat.max_eq_left h3]; have := hm _ _ h3 a1; omega
theorem size_ht : ∀ T : Tr, T.size < 2 ^ T.ht
  | .nil => by decide
  | .nd i l r => by
    have h1 := size_ht l
    have h2 := size_ht r
    show l.size + r.size + 1 < 2 ^ (max l.ht r.ht + 1)
    have h3 : 2 ^ l.ht ≤ 2 ^ max l.ht r.ht := Nat.pow_le_pow_right (by decide) (by omega)
    have h4 : 2 ^ r.ht ≤ 2 ^ max l.ht r.ht := Nat.pow_le_pow_right (by decide) (by omega)
    rw [Nat.pow_succ]; omega
end Go.Proofs.Ytgdjihihjlbelaa

namespace Go.Proofs.Ytgdjihihjlbelaa
open Go.RowKit

/-- where a set of tens stands -/
structure Ss (B : Nat) (w : World) (t : Nat) (S : TS) (T : Tr) (q : Nat) (L : List Int) : Prop where
  m : TM2 w t S
  inv : Inv ten S T q
  ord : S.ord = .func (.func 9) #[] #[]
  lv : vals S T = L
  bt : B ≤ t
  bn : B ≤ S.nb
  bf : B ≤ S.fb
section
variable {B : Nat} {w : World} {t : Nat} {S : TS} {T : Tr} {q : Nat} {v : Value} {L : List Int}
theorem St.ss (h : St B w t S T q v L) : Ss B w t S T q L := ⟨h.m, h.inv, h.ord, h.lv, h.bt, h.bn, h.bf⟩
theorem Ss.ok (h : Ss B w t S T q L) : OrdOk S.ord cten := by rw [h.ord]; exact tens_ord
theorem Ss.of {w' : World} (h : Ss B w t S T q L) (hb : Below w.heap.size w w') : Ss B w' t S T q L := ⟨h.m.of hb, h.inv, h.ord, h.lv, h.bt, h.bn, h.bf⟩
theorem Ss.len (h : Ss B w t S T q L) : T.size = L.length := by rw [← h.lv]; unfold vals; rw [List.length_map, Tr.no_len]
theorem Ss.more (h : Ss B w t S T q L) : Ss B w t S T (q + 1) L := ⟨h.m, h.inv.more, h.ord, h.lv, h.bt, h.bn, h.bf⟩
theorem Ss.below {w' : World} {S' : TS} (h : Ss B w t S T q L) (hf : Fr t S S' w w') : Below B w w' :=
  ⟨hf.out.os, hf.out.tape, hf.out.output, hf.out.size, fun k hk => hf.out.block k (by have := h.m.m.blk.lt; have := h.bt; omega) (by have := h.bt; have := h.bn; have := h.bf; simp; omega)⟩
theorem Ss.fnd (h : Ss B w t S T q L) (x : Int) : (T.found (fun i => cten x (S.v i)) = 0 ∧ Proofs.Ytgdjihihjlbelaa.fnd x L = -1) ∨ (T.found (fun i => cten x (S.v i)) ≠ 0 ∧ 0 ≤ Proofs.Ytgdjihihjlbelaa.fnd x L) := by
  have hpos := fun n hn => (h.inv.ok.pos n hn).1
  by_cases h0 : T.found (fun i => cten x (S.v i)) = 0
  · left
    refine ⟨h0, fnd_none x L fun z hz => ?_⟩
    rw [← h.lv] at hz
    obtain ⟨n, hn, rfl⟩ := List.mem_map.1 hz
    have hnil := (zip_found (fun i => cten x (S.v i)) T [] hpos).1 h0
    have hp := zip_plug (fun i => cten x (S.v i)) T []
    have hs := zip_sides ordk_ten x T [] h.inv.srt (fun n hn => by cases hn) (fun n hn => by cases hn)
    rw [hnil] at hp
    have hn' : n ∈ (plug (zipOf (fun i => cten x (S.v i)) T []).1 .nil).no := by rw [hp]; exact hn
    rw [plug_split] at hn'
    rcases List.mem_append.1 hn' with hm | hm
    · rcases List.mem_append.1 hm with hm | hm
      · have := (ordk_ten x (S.v n)).2.1 (hs.1 n hm); omega
      · cases hm
    · have := (ordk_ten x (S.v n)).1.1 (hs.2 n hm); omega
  · right
    refine ⟨h0, ?_⟩
    obtain ⟨z, l, r, z1, z2, z3, z4, z5, z6, z7⟩ := found_split ordk_ten h.inv x _ rfl h0
    have hno : T.no = (pre z ++ l.no) ++ (T.found fun i => cten x (S.v i)) :: (r.no ++ post z) := by
      have : (plug z (.nd (T.found fun i => cten x (S.v i)) l r)).no = T.no := by rw [z2]
      rw [← this, plug_split, nd_no]; simp
    have hL : L = (pre z ++ l.no).map S.v ++ S.v (T.found fun i => cten x (S.v i)) :: (r.no ++ post z).map S.v := by
      rw [← h.lv]; unfold vals; rw [hno, List.map_append, List.map_cons]
    rw [hL, fnd_split x _ _ _ (fun u hu => by obtain ⟨m, hm, rfl⟩ := List.mem_map.1 hu; have := z6 m hm; omega) z5]
    omega
theorem Ss.put_new (h : Ss B w t S T q L) (x : Int) (hx : In64 x) (hq : q ≤ 400) (hf : Proofs.Ytgdjihihjlbelaa.fnd x L = -1) :
    Calls Try.prog 17 #[ptr t 0, .int .i64 x] w fun e w' => e = .returned (.bool true) ∧ (∃ S' T', Ss B w' t S' T' (q + 1) (insR x L)) ∧ Below B w w' := by
  have h0 : T.found (fun i => cten x (S.v i)) = 0 := by rcases h.fnd x with a | a; exact a.1; omega
  refine (Put_ok t ordk_ten h.inv x hx h0 hq w h.m h.ok).mono ?_
  rintro e w' ⟨rfl, S', ⟨T', P, Q, i1, i2, i3, i4, i5⟩, i6, i7, i8⟩
  have hs := h.m.m.blk.lt
  have h1 := i8.nb
  have h2 := i8.fb
  have h3 := h.bt
  have h4 := h.bn
  have h5 := h.bf
  refine ⟨rfl, ⟨S', T', i7, i1, i6.trans h.ord, ?_, h.bt, by omega, by omega⟩, h.below i8⟩
  have hL : L = P.map S.v ++ Q.map S.v := by rw [← h.lv]; unfold vals; rw [i2, List.map_append]
  rw [i5, hL, insR_split]
  · intro z hz; obtain ⟨m, hm, rfl⟩ := List.mem_map.1 hz; have := i3 m hm; omega
  · intro z hz; obtain ⟨m, hm, rfl⟩ := List.mem_map.1 hz; have := i4 m hm; omega
theorem Ss.put_old (h : Ss B w t S T q L) (x : Int) (hx : In64 x) (hq : q ≤ 400) (hf : 0 ≤ Proofs.Ytgdjihihjlbelaa.fnd x L) :
    Calls Try.prog 17 #[ptr t 0, .int .i64 x] w fun e w' => e = .returned (.bool false) ∧ Below w.heap.size w w' := by
  have h0 : T.found (fun i => cten x (S.v i)) ≠ 0 := by rcases h.fnd x with a | a; omega; exact a.1
  exact Put_old t S cten x T _ rfl h0 w h.m.m h.ok hx h.inv.ok.rep h.inv.v64 (by have := h.inv.sz; omega)
theorem Ss.next (h : Ss B w t S T q L) (x : Int) (hx : In64 x) :
    Calls Try.prog 22 #[ptr t 0, .int .i64 x] w fun e w' => e = .returned (.tuple #[.int .i64 ((L.find? fun y => decide (ten x < ten y)).getD 0), .bool (L.find? fun y => decide (ten x < ten y)).isSome]) ∧ Below w.heap.size w w' := by
  have e := h.inv.next ordk_ten x
  rw [h.lv] at e
  have := Next_is t S cten x T _ rfl _ rfl _ e.2 w h.m.m h.ok hx h.inv.l0 h.inv.ok.rep h.inv.v64
  rwa [e.1] at this
theorem Ss.first (h : Ss B w t S T q L) (hq : q ≤ 400) :
    Calls Try.prog 24 #[ptr t 0] w fun e w' => e = .returned (.tuple #[.int .i64 (L.headD 0), .bool (!L.isEmpty)]) ∧ Below w.heap.size w w' := by
  have e := head_val h.inv T.no (fun _ hn => hn)
  have e3 : T.no.map S.v = L := h.lv
  rw [e3, ← end0_no] at e
  have hnl : ((T.down0).getD ((T.down0).length - 1) (0, 0)).1 < S.len := by
    rw [end0_no]
    cases hl : T.no with
    | nil => exact h.inv.l0
    | cons n l => exact (h.inv.ok.pos n (by rw [hl]; simp)).2
  have := First_is t S T _ rfl _ e.2 w h.m.m h.inv.l0 h.inv.ok.rep hnl (by have := h.inv.sz; omega)
  rwa [e.1] at this
theorem Ss.check (h : Ss B w t S T q L) (hq : q ≤ 400) :
    Calls Try.prog 19 #[ptr t 0] w fun e w' => e = .returned (.bool true) ∧ TM2 w' t S ∧ Fr t S S w w' := h.inv.check ordk_ten hq t w h.m h.ok
theorem Ss.tall (h : Ss B w t S T q L) (n : Int) (hn : n = L.length) :
    Calls Try.prog 20 #[ptr t 0] w fun e w' => e = .returned (.int .i64 n) ∧ Below w.heap.size w w' := by
  have e : S.n = n := by rw [h.inv.n, h.len, hn]
  rw [← e]; exact Len_is t S w h.m.m
theorem Ss.deep (h : Ss B w t S T q L) (d : Int) (hd : d = T.ht) :
    Calls Try.prog 12 #[ptr t 0] w fun e w' => e = .returned (.int .i64 d) ∧ Below w.heap.size w w' := by
  have e : S.d S.root = d := by rw [Ok.d h.inv.d0 h.inv.ok, hd]
  rw [← e]; exact Deep_is t S w h.m.m h.inv.root
theorem Ss.new (nb : Nat) (hm : TM2 w t (TS.new (.func (.func 9) #[] #[]) nb)) (ht : B ≤ t) (hn : B ≤ nb) : Ss B w t (TS.new (.func (.func 9) #[] #[]) nb) .nil 0 [] := by
  refine ⟨hm, ⟨rfl, trivial, List.nodup_nil, Nat.zero_lt_one, rfl, rfl, ?_, ?_, ?_, ?_, rfl, List.Pairwise.nil, ?_, Nat.le_refl _, Nat.le_refl _, Nat.le_refl _⟩, rfl, rfl, ht, hn, hn⟩
  · intro i hi s hs; exact Nat.zero_lt_one
  · intro i hi; exact ⟨by show (0 : Int) ≤ 0; omega, by show (0 : Int) ≤ _; omega⟩
  · intro j hj; exact absurd hj (Nat.not_lt_zero _)
  · intro i j hi; exact absurd hi (Nat.not_lt_zero _)
  · intro i hi; show In64 0; unfold In64; omega
end
end Go.Proofs.Ytgdjihihjlbelaa

namespace Go.Proofs.Ytgdjihihjlbelaa
open Go.RowKit

theorem deep3 {T : Tr} (ha : Avl T) (hs : T.size = 3) : T.ht = 2 := by
  have h1 := least_size T ha
  have h2 := size_ht T
  rw [hs] at h1 h2
  have h3 : T.ht < 3 := by
    rcases Nat.lt_or_ge T.ht 3 with h | h
    · exact h
    · exfalso
      have hm : ∀ a b, a ≤ b → least a ≤ least b := by
        intro a b hab
        induction hab with
        | refl => exact Nat.le_refl _
        | step _ ih => exact Nat.le_trans ih (least_mono _)
      have := hm 3 _ h
      have h4 : least 3 = 4 := rfl
      omega
  have h5 : ¬ T.ht = 0 := fun h => by rw [h] at h2; omega
  have h6 : ¬ T.ht = 1 := fun h => by rw [h] at h2; omega
  omega
set_option maxRecDepth 100000 in
set_option maxHeartbeats 2000000 in
theorem awake_is (w : World) :
    Calls Try.prog 10 #[] w fun e w' => e = .returned (.bool true) ∧ Below w.heap.size w w' := by
  go_enter Try.func10, Try.ntmps10
  go_wp2_with fail
  refine (New_is 9 w).mono ?_
  rintro e W1 ⟨t, nb, rfl, hm, ht, hnb, hb1⟩
  have S0 := Lib.hid (Ss.new (B := w.heap.size) nb hm ht hnb)
  have z1 := hb1.size
  clear hm
  go_wp2_with fail
  refine (S0.out.put_new 50 (by unfold In64; omega) (by omega) rfl).mono ?_
  rintro e W2 ⟨rfl, ⟨S1, T1, hs⟩, hb⟩
  have hb2 := hb1.trans hb
  have S1' := Lib.hid hs
  clear hs hb hb1 S0 z1
  go_wp2_with fail
  refine (S1'.out.put_new 30 (by unfold In64; omega) (by omega) (by decide)).mono ?_
  rintro e W3 ⟨rfl, ⟨S2, T2, hs⟩, hb⟩
  have hb3 := hb2.trans hb
  have S2' := Lib.hid hs
  clear hs hb hb2 S1'
  go_wp2_with fail
  refine (S2'.out.put_new 80 (by unfold In64; omega) (by omega) (by decide)).mono ?_
  rintro e W4 ⟨rfl, ⟨S3, T3, hs⟩, hb⟩
  have hb4 := hb3.trans hb
  have eL : insR 80 (insR 30 (insR 50 [])) = [30, 50, 80] := by decide
  rw [eL] at hs
  have S3' := Lib.hid hs
  clear hs hb hb3 S2' eL
  go_wp2_with fail
  refine (S3'.out.put_old 55 (by unfold In64; omega) (by omega) (by decide)).mono ?_
  rintro e W5 ⟨rfl, hb⟩
  have S4 := Lib.hid (S3'.out.of hb)
  have hb5 := hb4.trans (hb.mono hb4.size)
  clear hb hb4 S3'
  go_wp2_with fail
  refine (S4.out.next 50 (by unfold In64; omega)).mono ?_
  rintro e W6 ⟨he, hb⟩
  have he' : e = .returned (.tuple #[.int .i64 80, .bool true]) := he
  subst he'
  have S5 := Lib.hid (S4.out.of hb)
  have hb6 := hb5.trans (hb.mono hb5.size)
  clear hb hb5 S4 he
  go_wp2_with fail
  refine (S5.out.next 40 (by unfold In64; omega)).mono ?_
  rintro e W7 ⟨he, hb⟩
  have he' : e = .returned (.tuple #[.int .i64 50, .bool true]) := he
  subst he'
  have S6 := Lib.hid (S5.out.of hb)
  have hb7 := hb6.trans (hb.mono hb6.size)
  clear hb hb6 S5 he
  go_wp2_with fail
  refine (S6.out.tall 3 rfl).mono ?_
  rintro e W8 ⟨rfl, hb⟩
  have S7 := Lib.hid (S6.out.of hb)
  have hb8 := hb7.trans (hb.mono hb7.size)
  clear hb hb7 S6
  go_wp2_with fail
  refine (S7.out.check (by omega)).mono ?_
  rintro e W9 ⟨rfl, hm, hf⟩
  have S8 := Lib.hid (show Ss w.heap.size W9 t S3 T3 _ _ from ⟨hm, S7.out.inv, S7.out.ord, S7.out.lv, S7.out.bt, S7.out.bn, S7.out.bf⟩)
  have hb9 := hb8.trans (S7.out.below hf)
  clear hm hf hb8 S7
  go_wp2_with fail
  refine (S8.out.deep 2 (by rw [deep3 S8.out.inv.avl S8.out.len]; rfl)).mono ?_
  rintro e W10 ⟨rfl, hb⟩
  have hb10 := hb9.trans (hb.mono hb9.size)
  clear hb hb9 S8
  go_wp2
  go_ret
  exact ⟨rfl, hb10⟩
end Go.Proofs.Ytgdjihihjlbelaa

namespace Go.Proofs.Ytgdjihihjlbelaa
open Go.RowKit

/-- a slice of calls -/
structure Ops (w : World) (ao : Option Addr) (n cap : Nat) (K X : Nat → Int) : Prop where
  ptr : 0 < n → ∃ a, ao = some a ∧ a.block < w.heap.size ∧ ∀ i, i < n → w.cell? (a.add (i * 2)) = some (.int .i64 (K i)) ∧ w.cell? ((a.add (i * 2)).add 1) = some (.int .i64 (X i))
  capl : n ≤ cap
  capb : cap ≤ 9223372036854775807
  x64 : ∀ i, i < n → In64 (X i)
theorem Ops.at {w wr : World} {ao : Option Addr} {n cap : Nat} {K X : Nat → Int} (h : Ops w ao n cap K X) (hb : Below w.heap.size w wr) {i : Nat} (hi : i < n) :
    ∃ a, ao = some a ∧ wr.cell? (a.add (i * 2)) = some (.int .i64 (K i)) ∧ wr.cell? { block := (a.add (i * 2)).block, off := (a.add (i * 2)).off + 1 } = some (.int .i64 (X i)) ∧ In64 (X i) := by
  obtain ⟨a, h1, h2, h3⟩ := h.ptr (by omega)
  have e1 : ∀ k, (a.add k).block = a.block := fun k => by unfold Addr.add; split <;> rfl
  have e2 : ∀ k l, ((a.add k).add l).block = a.block := fun k l => by unfold Addr.add; split <;> split <;> rfl
  refine ⟨a, h1, ?_, ?_, h.x64 i hi⟩
  · rw [hb.cell (by rw [e1]; exact h2)]; exact (h3 i hi).1
  · have : wr.cell? ((a.add (i * 2)).add 1) = some (.int .i64 (X i)) := by rw [hb.cell (by rw [e2]; exact h2)]; exact (h3 i hi).2
    exact this
theorem St.new {B : Nat} {w : World} {t : Nat} (nb : Nat) (hm : TM2 w t (TS.new (.func (.func 9) #[] #[]) nb)) (ht : B ≤ t) (hn : B ≤ nb) :
    St B w t (TS.new (.func (.func 9) #[] #[]) nb) .nil 0 (.slice none 0 0) [] := by
  have h := Ss.new nb hm ht hn
  exact ⟨h.m, h.inv, h.ord, IL.nil _ _, h.lv, (fun k hk => absurd (hk : (none : Option Nat) = some k) nofun), h.bt, h.bn, h.bf⟩
end Go.Proofs.Ytgdjihihjlbelaa

namespace Go.Proofs.Ytgdjihihjlbelaa
open Go.RowKit Go.Shelf
attribute [local go_sem] Oper.semAt_some

theorem St.val {B : Nat} {w : World} {t : Nat} {S : TS} {T : Tr} {q : Nat} {v : Value} {L : List Int} (h : St B w t S T q v L) {k : Nat} (hk : k < T.size) : L[k]? = some (S.v (T.ino.getD k 0)) := by
  rw [← h.lv, ← no_ino]; unfold vals
  have hl : k < T.no.length := by rw [Tr.no_len]; exact hk
  rw [List.getElem?_map, List.getD_eq_getElem?_getD, List.getElem?_eq_getElem hl]; rfl
set_option maxRecDepth 100000 in
set_option maxHeartbeats 2000000 in
theorem told5_is (B bt t : Nat) (S : TS) (T : Tr) (q : Nat) (v : Value) (L : List Int) (st : Int) (w : World) (h : St B w t S T q v L) (hk : Blk w bt #[ptr t 0] 23) (hq : q ≤ 400) :
    Calls Try.prog 14 #[.func (.func 31) #[] #[ptr bt 0], v, .int .i64 st] w fun e w' => e = .returned (.bool true) ∧ Below w.heap.size w w' := by
  obtain ⟨al, lc, rfl, v1, v2, v3⟩ := h.il.val
  have hlen := h.len
  have hsz := h.inv.sz
  have V3 := Lib.hid v3
  have HS := Lib.hid h
  have HK := Lib.hid hk
  obtain ⟨n, hn⟩ : ∃ n, L.length = n := ⟨_, rfl⟩
  rw [hn] at v1 hlen
  have HN := Lib.hid (And.intro hn hlen)
  have hns : n ≤ 400 := by omega
  rw [hn]
  clear h hk v3 hn hlen hsz
  refine (callsIn_wide (n := 3)).1 ?_
  refine callsIn_of_wp_marks Try.func14 rfl trivial ?_ rfl
  simp only [Try.ntmps14, List.size_toArray, List.length_cons, List.length_nil, Nat.reduceAdd, Nat.reduceSub, Array.replicate_succ, Array.replicate_zero, List.push_toArray, List.append_toArray, List.nil_append, List.cons_append, List.append_nil]
  gi_wp2_with fail
  refine nameIn ?_
  intro V hV
  have kl : Blk V w.heap.size #[.slice al n lc] 27 := by rw [hV]; exact (((Blk.new w _ _).alloc _).alloc _).alloc _
  have ks : Blk V (w.heap.size + 1) #[.int .i64 st] 3 := by rw [hV]; exact ((Blk.new1 w _ _ _).alloc _).alloc _
  have kr : Blk V (w.heap.size + 1 + 1) #[.bool false] 4 := by rw [hV]; exact (Blk.new2 w _ _ _ _).alloc _
  have ki : Blk V (w.heap.size + 1 + 1 + 1) #[.int .i64 0] 3 := by rw [hV]; exact Blk.new3 w _ _ _ _ _
  have hbV : Below w.heap.size w V := by rw [hV]; exact below_a4 _ _ _ _ _
  clear hV
  have z1 := ki.lt
  obtain ⟨lb, elb⟩ : ∃ b, w.heap.size = b := ⟨_, rfl⟩
  obtain ⟨sb, esb⟩ : ∃ b, w.heap.size + 1 = b := ⟨_, rfl⟩
  obtain ⟨rb, erb⟩ : ∃ b, w.heap.size + 1 + 1 = b := ⟨_, rfl⟩
  obtain ⟨ib, eib⟩ : ∃ b, w.heap.size + 1 + 1 + 1 = b := ⟨_, rfl⟩
  have o1 : lb < sb := by omega
  have o2 : sb < rb := by omega
  have o3 : rb < ib := by omega
  have o5 : w.heap.size ≤ lb := by omega
  rw [eib] at ki z1 ⊢
  rw [erb] at kr ⊢
  rw [esb] at ks ⊢
  rw [elb] at kl
  rw [show w.heap.size = lb from elb]
  clear eib erb esb elb
  have S0 := Lib.hid (HS.out.of hbV)
  obtain ⟨J, hJ⟩ : ∃ J : Nat → World → Prop, J = fun k W => Blk W lb #[.slice al n lc] 27 ∧ Blk W sb #[.int .i64 st] 3 ∧ Blk W rb #[.bool false] 4 ∧ Blk W ib #[.int .i64 (k : Nat)] 3 ∧ Below w.heap.size w W := ⟨_, rfl⟩
  have HJ : Hid (∀ k W, J k W ↔ (Blk W lb #[.slice al n lc] 27 ∧ Blk W sb #[.int .i64 st] 3 ∧ Blk W rb #[.bool false] 4 ∧ Blk W ib #[.int .i64 (k : Nat)] 3 ∧ Below w.heap.size w W)) := Lib.hid fun k W => by rw [hJ]
  clear hJ
  refine wpIn_rangeK (m := 1) (gf := 31) (lb := #[ptr bt 0]) (N := T.size) (encs := valE S T) (Kp := fun W => Blk W bt #[ptr t 0] 23 ∧ TM W t S) rfl (fun args w => by go_simp) (All1_tells bt t S T _ HS.out.inv.ok.rep (by have := HS.out.inv.sz; omega)) (fun _ => rfl)
    J (fun c k W => c = .exit 0 ∧ (k : Int) = st ∧ J k W) ?stable ?stable2 ?keeps ?start ?round ?done ?stop
  case stable =>
    intro k W W' hj hbl
    obtain ⟨j1, j2, j3, j4, j5⟩ := (HJ.out k W).1 hj
    exact (HJ.out k W').2 ⟨j1.below hbl (by omega), j2.below hbl (by omega), j3.below hbl (by omega), j4.below hbl (by omega), j5.trans (hbl.mono (by have := hbV.size; omega))⟩
  case stable2 =>
    rintro c k W W' ⟨h1, h2, hj⟩ hbl
    obtain ⟨j1, j2, j3, j4, j5⟩ := (HJ.out k W).1 hj
    exact ⟨h1, h2, (HJ.out k W').2 ⟨j1.below hbl (by omega), j2.below hbl (by omega), j3.below hbl (by omega), j4.below hbl (by omega), j5.trans (hbl.mono (by have := hbV.size; omega))⟩⟩
  case keeps =>
    intro k W hj
    obtain ⟨j1, j2, j3, j4, j5⟩ := (HJ.out k W).1 hj
    exact ⟨HK.out.of j5, (HS.out.of j5).m.m⟩
  case start => exact (HJ.out 0 V).2 ⟨kl, ks, kr, ki, hbV⟩
  case round =>
    clear kl ks kr ki
    rintro l2 D k W2 hk hj g1 g2 g3 g4
    obtain ⟨j1, j2, j3, j4, j5⟩ := (HJ.out k W2).1 hj
    have hkn : k < n := by rw [HN.out.2]; exact hk
    have hLk := HS.out.val hk
    unfold valE
    obtain ⟨y, hy⟩ : ∃ y, S.v (T.ino.getD k 0) = y := ⟨_, rfl⟩
    rw [hy] at hLk ⊢
    have HL := Lib.hid hLk
    have J2 := Lib.hid (And.intro j1 (And.intro j2 (And.intro j3 (And.intro j4 j5))))
    clear j1 j2 j3 j4 j5 hj hLk hy
    gi_wp2
    refine ⟨⟨Fix2.of (OutL.refl [] _) g3 g4 (by simp) (by simp), Above.refl _ _⟩, ?_⟩
    intro W3 hW3
    have hb3 : Below w.heap.size w W3 := J2.out.2.2.2.2.trans ⟨hW3.os, hW3.tape, hW3.output, hW3.size, fun b hb => hW3.block b (by have := J2.out.2.2.2.2.size; omega) (by have := hbV.size; simp; omega)⟩
    obtain ⟨g, rfl, hgl, hgb, hcell⟩ := V3.out (by rw [HN.out.1]; omega)
    have hkL : k < L.length := by rw [HN.out.1]; exact hkn
    obtain ⟨y', hy0, hy1, hy2, hy3⟩ := cell_at hcell (k := k) hkL
    have hyy : y' = y := by have := HL.out; rw [hy0] at this; exact Option.some.inj this
    subst hyy
    have c0 := (hb3.cell (p := ⟨g, k, none⟩) hgl).trans hy3
    obtain ⟨j1, j2, j3, j4, j5⟩ := J2.out
    have x1 := (j1.out hW3 (by simp; omega)).cell 0
    have x2 := (j2.out hW3 (by simp; omega)).cell 0
    have x4 := (j4.out hW3 (by simp; omega)).cell 0
    have x5 := (j4.out hW3 (by simp; omega)).free 0
    simp only [List.getElem?_toArray, List.getElem?_cons_zero] at x1 x2 x4
    have y4 := j4.out hW3 (by simp; omega)
    have osets : OutL [ib] W3 (W3.setCell ⟨ib, 0, none⟩ (.int .i64 ((k : Int) + 1))) := (OutL.refl [ib] W3).set (b := ib) (by simp) 0 none _
    have s3 := hW3.size
    have sV := hbV.size
    have GG : Hid ((Fix2 l2 D W3 (W3.setCell ⟨ib, 0, none⟩ (.int .i64 ((k : Int) + 1))) ∧ J (k + 1) (W3.setCell ⟨ib, 0, none⟩ (.int .i64 ((k : Int) + 1)))) ∧ Above (V.heap.size + 2) W3 (W3.setCell ⟨ib, 0, none⟩ (.int .i64 ((k : Int) + 1)))) := by
      refine Lib.hid ⟨⟨Fix2.of osets (by omega) (by omega) (by simp; omega) (by simp; omega), (HJ.out (k + 1) _).2 ⟨(j1.out hW3 (by simp; omega)).out osets (by simp; omega), (j2.out hW3 (by simp; omega)).out osets (by simp; omega), (j3.out hW3 (by simp; omega)).out osets (by simp; omega), ?_, hb3.trans ⟨osets.os, osets.tape, osets.output, osets.size, fun b hb => osets.block b (by have := hb3.size; omega) (by simp; omega)⟩⟩⟩, Above.ofOut osets (by simp; omega)⟩
      have := y4.put 0 (.int .i64 ((k : Int) + 1))
      have e : (((k + 1 : Nat)) : Int) = (k : Int) + 1 := by omega
      rw [e]; exact this
    have hle : ¬ n ≤ k := by omega
    have hle2 : ¬ (n : Int) ≤ (k : Int) := by omega
    clear j1 j2 j3 j4 j5 hcell hy0 hy1 hy2 hy3 osets J2 y4
    by_cases hst : (k : Int) + 1 = st
    · have hst2 : ((k : Int) + 1 == st) = true := by simpa using hst
      have HST := Lib.hid hst
      clear hst
      gi_wp2
      exact ⟨⟨GG.out.1.1, rfl, by have := HST.out; omega, GG.out.1.2⟩, GG.out.2⟩
    · have hst2 : ((k : Int) + 1 == st) = false := by simpa using hst
      clear hst
      gi_wp2
      exact GG.out
  case done =>
    clear kl ks kr ki
    intro D W g1 hj hD
    obtain ⟨j1, j2, j3, j4, j5⟩ := (HJ.out T.size W).1 hj
    have x1 := j1.cell 0
    have x2 := j2.cell 0
    have x3 := j3.cell 0
    have x4 := j4.cell 0
    have x5 := j3.free 0
    have sV := hbV.size
    rw [← HN.out.2] at x4
    simp only [List.getElem?_toArray, List.getElem?_cons_zero] at x1 x2 x3 x4
    have HB := Lib.hid (And.intro j3 j5)
    clear j1 j2 j3 j4 j5 hj
    gi_wp2_with fail
    have hK : (W.setCell ⟨rb, 0, none⟩ (.bool true)).heap[D]? = some (.deferred (some [])) := (Below.heap_setCell _ _ _ _ (show D ≠ rb by omega)).trans hD
    refine ⟨by simp, .inl ⟨_, _, rfl, run_takeDeferred hK, ?_⟩⟩
    have h6 : ((W.setCell ⟨rb, 0, none⟩ (.bool true)).putObj D (.deferred none)).cell? ⟨rb, 0, none⟩ = some (.bool true) := ((HB.out.1.put 0 (.bool true)).out (putObj_out _ D (.deferred none)) (by simp; omega)).cell 0
    have o7 : OutL [rb, D] W ((W.setCell ⟨rb, 0, none⟩ (.bool true)).putObj D (.deferred none)) := (((OutL.refl [rb, D] W).set (b := rb) (by simp) 0 none _).trans ((putObj_out _ D _).mono fun k _ h => by simp at h ⊢; exact .inr h))
    refine ⟨.bool true, ?_, rfl, HB.out.2.trans ⟨o7.os, o7.tape, o7.output, o7.size, fun b hb => o7.block b (by have := HB.out.2.size; omega) (by simp; omega)⟩⟩
    simp [results, Try.results14, go_sem, h6]
  case stop =>
    clear kl ks kr ki
    rintro D c k W g1 ⟨rfl, hst, hj⟩ hD
    obtain ⟨j1, j2, j3, j4, j5⟩ := (HJ.out k W).1 hj
    have x1 := j1.cell 0
    have x2 := j2.cell 0
    have x3 := j3.cell 0
    have x4 := j4.cell 0
    have x5 := j3.free 0
    have sV := hbV.size
    rw [hst] at x4
    simp only [List.getElem?_toArray, List.getElem?_cons_zero] at x1 x2 x3 x4
    have HB := Lib.hid (And.intro j3 j5)
    clear j1 j2 j3 j4 j5 hj hst
    by_cases hsn : st = (n : Int)
    · subst hsn
      gi_wp2_with fail
      have hK : (W.setCell ⟨rb, 0, none⟩ (.bool true)).heap[D]? = some (.deferred (some [])) := (Below.heap_setCell _ _ _ _ (show D ≠ rb by omega)).trans hD
      refine ⟨by simp, .inl ⟨_, _, rfl, run_takeDeferred hK, ?_⟩⟩
      have h6 : ((W.setCell ⟨rb, 0, none⟩ (.bool true)).putObj D (.deferred none)).cell? ⟨rb, 0, none⟩ = some (.bool true) := ((HB.out.1.put 0 (.bool true)).out (putObj_out _ D (.deferred none)) (by simp; omega)).cell 0
      have o7 : OutL [rb, D] W ((W.setCell ⟨rb, 0, none⟩ (.bool true)).putObj D (.deferred none)) := (((OutL.refl [rb, D] W).set (b := rb) (by simp) 0 none _).trans ((putObj_out _ D _).mono fun k _ h => by simp at h ⊢; exact .inr h))
      refine ⟨.bool true, ?_, rfl, HB.out.2.trans ⟨o7.os, o7.tape, o7.output, o7.size, fun b hb => o7.block b (by have := HB.out.2.size; omega) (by simp; omega)⟩⟩
      simp [results, Try.results14, go_sem, h6]
    · have hsn2 : (st == (n : Int)) = false := by simpa using hsn
      clear hsn
      gi_wp2_with fail
      have hK : (W.setCell ⟨rb, 0, none⟩ (.bool true)).heap[D]? = some (.deferred (some [])) := (Below.heap_setCell _ _ _ _ (show D ≠ rb by omega)).trans hD
      refine ⟨by simp, .inl ⟨_, _, rfl, run_takeDeferred hK, ?_⟩⟩
      have h6 : ((W.setCell ⟨rb, 0, none⟩ (.bool true)).putObj D (.deferred none)).cell? ⟨rb, 0, none⟩ = some (.bool true) := ((HB.out.1.put 0 (.bool true)).out (putObj_out _ D (.deferred none)) (by simp; omega)).cell 0
      have o7 : OutL [rb, D] W ((W.setCell ⟨rb, 0, none⟩ (.bool true)).putObj D (.deferred none)) := (((OutL.refl [rb, D] W).set (b := rb) (by simp) 0 none _).trans ((putObj_out _ D _).mono fun k _ h => by simp at h ⊢; exact .inr h))
      refine ⟨.bool true, ?_, rfl, HB.out.2.trans ⟨o7.os, o7.tape, o7.output, o7.size, fun b hb => o7.block b (by have := HB.out.2.size; omega) (by simp; omega)⟩⟩
      simp [results, Try.results14, go_sem, h6]
end Go.Proofs.Ytgdjihihjlbelaa

namespace Go.Proofs.Ytgdjihihjlbelaa
open Go.RowKit

/-- what the set finds, in the list -/
theorem Ss.got {B : Nat} {w : World} {t : Nat} {S : TS} {T : Tr} {q : Nat} {L : List Int} (h : Ss B w t S T q L) (x : Int) :
    (T.found (fun i => cten x (S.v i)) = 0 ∧ Proofs.Ytgdjihihjlbelaa.fnd x L = -1) ∨ (T.found (fun i => cten x (S.v i)) ≠ 0 ∧ ∃ p : Nat, Proofs.Ytgdjihihjlbelaa.fnd x L = p ∧ L[p]? = some (S.v (T.found fun i => cten x (S.v i)))) := by
  rcases h.fnd x with ⟨h0, h1⟩ | ⟨h0, h1⟩
  · exact .inl ⟨h0, h1⟩
  · right
    refine ⟨h0, ?_⟩
    obtain ⟨z, l, r, z1, z2, z3, z4, z5, z6, z7⟩ := found_split ordk_ten h.inv x _ rfl h0
    have hno : T.no = (pre z ++ l.no) ++ (T.found fun i => cten x (S.v i)) :: (r.no ++ post z) := by
      have : (plug z (.nd (T.found fun i => cten x (S.v i)) l r)).no = T.no := by rw [z2]
      rw [← this, plug_split, nd_no]; simp
    have hL : L = (pre z ++ l.no).map S.v ++ S.v (T.found fun i => cten x (S.v i)) :: (r.no ++ post z).map S.v := by
      rw [← h.lv]; unfold vals; rw [hno, List.map_append, List.map_cons]
    refine ⟨((pre z ++ l.no).map S.v).length, ?_, ?_⟩
    · rw [hL, fnd_split x _ _ _ (fun u hu => by obtain ⟨m, hm, rfl⟩ := List.mem_map.1 hu; have := z6 m hm; omega) z5]
    · obtain ⟨A, hA⟩ : ∃ A, (pre z ++ l.no).map S.v = A := ⟨_, rfl⟩
      rw [hA] at hL ⊢
      rw [hL, List.getElem?_append_right (Nat.le_refl _), Nat.sub_self]; rfl
theorem Ss.get_none {B : Nat} {w : World} {t : Nat} {S : TS} {T : Tr} {q : Nat} {L : List Int} (h : Ss B w t S T q L) (x : Int) (hx : In64 x) (hq : q ≤ 400) (hf : T.found (fun i => cten x (S.v i)) = 0) :
    Calls Try.prog 26 #[ptr t 0, .int .i64 x] w fun e w' => e = .returned (.tuple #[.int .i64 0, .bool false]) ∧ Below w.heap.size w w' := by
  have := Get_is t S cten x T _ rfl _ hf false (by decide) w h.m.m h.ok hx h.inv.l0 h.inv.ok.rep h.inv.v64 (by have := h.inv.sz; omega)
  rwa [h.inv.v0] at this
theorem Ss.get_one {B : Nat} {w : World} {t : Nat} {S : TS} {T : Tr} {q : Nat} {L : List Int} (h : Ss B w t S T q L) (x y : Int) (hx : In64 x) (hq : q ≤ 400) (hf : T.found (fun i => cten x (S.v i)) ≠ 0) (hy : S.v (T.found fun i => cten x (S.v i)) = y) :
    Calls Try.prog 26 #[ptr t 0, .int .i64 x] w fun e w' => e = .returned (.tuple #[.int .i64 y, .bool true]) ∧ Below w.heap.size w w' := by
  have := Get_is t S cten x T _ rfl _ rfl true (by simpa using hf) w h.m.m h.ok hx h.inv.l0 h.inv.ok.rep h.inv.v64 (by have := h.inv.sz; omega)
  rwa [hy] at this

set_option maxRecDepth 100000 in
set_option maxHeartbeats 2000000 in
theorem AvlPlays_any (ao : Option Addr) (n cap : Nat) (K X : Nat → Int) (w : World) (h : Ops w ao n cap K X) :
    Calls Try.prog 7 #[.slice ao n cap] w fun e w' => e = .returned (.bool true) ∧ Below w.heap.size w w' := by
  have hcl := h.capl
  have hcb := h.capb
  have HO := Lib.hid h
  clear h
  go_enter Try.func7, Try.ntmps7
  go_wp2_with fail
  refine (New_is 9 w).mono ?_
  rintro e W1 ⟨t, nb, rfl, hm, ht, hnb, hb1⟩
  have S0 := Lib.hid (St.new (B := w.heap.size) nb hm ht hnb)
  clear hm
  by_cases hbig : 150 < n
  · go_wp2_with fail
    refine (awake_is W1).mono ?_
    rintro e W2 ⟨rfl, hb⟩
    have hb2 := hb1.trans (hb.mono hb1.size)
    clear hb hb1 S0
    go_wp2
    go_ret
    exact ⟨rfl, hb2⟩
  · go_wp2_with fail
    go_loopg [4, 26] n (fun gk s4 s26 wr => ∃ (i : Nat) (L : List Int) (S : TS) (T : Tr), s26 = .int .i64 i ∧ i ≤ n ∧ n - i ≤ gk ∧ Hid (St w.heap.size wr t S T i s4 L) ∧ Below w.heap.size w wr)
    case atStart => exact ⟨0, [], _, _, rfl, Nat.zero_le _, by omega, S0, hb1⟩
    case round =>
      obtain ⟨i, L, S, T, rfl, hi, hg, hS, hb⟩ := hrel
      by_cases hlt : i < n
      · obtain ⟨a, rfl, o0, o1, hx⟩ := HO.out.at hb hlt
        have hi200 : i ≤ 400 := by omega
        clear S0
        go_wp2_with fail
        refine calls_w ?_
        intro V hV
        have hbV : Below wr.heap.size wr V := by rw [hV]; exact below_a1 _ _
        have ko : Blk V wr.heap.size #[.int .i64 (K i), .int .i64 (X i)] 29 := by rw [hV]; exact Blk.new _ _ _
        have S1 := Lib.hid (hS.out.of hbV)
        have hb2 := hb.trans (hbV.mono hb.size)
        have hS' := hS
        clear hV hbV hS o0 o1
        refine (step_is w.heap.size t S T i u4 L (K i) (X i) V S1.out hx hi200 hb2.size).mono ?_
        rintro e W2 ⟨v', L', S', T', rfl, hs, hn, hno⟩
        have S2 := Lib.hid hs
        have hb3 := hb2.trans hn
        obtain ⟨hko, kn1, kn2, kn3⟩ : Blk W2 wr.heap.size #[.int .i64 (K i), .int .i64 (X i)] 29 ∧ wr.heap.size ≠ t ∧ wr.heap.size ≠ S'.nb ∧ wr.heap.size ≠ S'.fb := by
          have h1 := hS'.out.m.m.blk.lt
          have h2 := hS'.out.m.m.row.lt
          have h3 := hS'.out.m.lf
          have := hno.keep ko.lt (by omega) (by omega) (by omega)
          exact ⟨this.1.trans ko, by omega, this.2.1, this.2.2⟩
        have KO := Lib.hid (And.intro hko (And.intro kn1 (And.intro kn2 kn3)))
        obtain ⟨al, lc, rfl, hl1, hl2, hl3⟩ := hs.il.val
        have hlen := hs.len
        have hsz := hs.inv.sz
        obtain ⟨m, hm⟩ : ∃ m, L'.length = m := ⟨_, rfl⟩
        rw [hm] at hl1 hlen
        have HM := Lib.hid (And.intro hm hl3)
        rw [hm]
        have hm4 : m ≤ 401 := by omega
        clear hs hn hb2 S1 hb ko hno hl3 hm hlen hsz hS' hko kn1 kn2 kn3
        go_wp2_with fail
        refine (S2.out.ss.check (by omega)).mono ?_
        rintro e W3 ⟨rfl, hm3, hf3⟩
        have S3 := Lib.hid (show St w.heap.size W3 t S' T' (i + 1) _ L' from by
          obtain ⟨I3, d3⟩ := S2.out.il.fr hf3 S2.out.dis
          exact ⟨hm3, S2.out.inv, S2.out.ord, I3, S2.out.lv, S2.out.dis, S2.out.bt, S2.out.bn, S2.out.bf⟩)
        have K3 := Lib.hid (show Blk W3 wr.heap.size #[.int .i64 (K i), .int .i64 (X i)] 29 from (hf3.keep KO.out.1.lt KO.out.2.1 KO.out.2.2.1 KO.out.2.2.2).1.trans KO.out.1)
        have hb4 := hb3.trans (S2.out.ss.below hf3)
        clear hm3 hf3 S2 KO hb3
        go_wp2_with fail
        refine (S3.out.ss.tall m (by rw [HM.out.1])).mono ?_
        rintro e W4 ⟨rfl, hn⟩
        have S4 := Lib.hid (S3.out.of hn)
        have K4 := Lib.hid (K3.out.of hn)
        have hb5 := hb4.trans (hn.mono hb4.size)
        have c1 := K4.out.cell 1
        have clt := K4.out.lt
        simp only [List.getElem?_toArray, List.getElem?_cons_zero, List.getElem?_cons_succ] at c1
        clear hn S3 K3 hb4
        go_wp2_with fail
        rcases S4.out.ss.got (X i) with ⟨g1, g2⟩ | ⟨g1, p, g2, g3⟩
        · have G := Lib.hid (And.intro g1 g2)
          clear g1 g2
          refine (S4.out.ss.get_none (X i) hx (by omega) G.out.1).mono ?_
          rintro e W5 ⟨rfl, hn⟩
          have S5 := Lib.hid (S4.out.of hn)
          have K5 := Lib.hid (K4.out.of hn)
          have hb6 := hb5.trans (hn.mono hb5.size)
          have c1 := K5.out.cell 1
          have clt := K5.out.lt
          simp only [List.getElem?_toArray, List.getElem?_cons_zero, List.getElem?_cons_succ] at c1
          clear hn S4 K4 hb5
          go_wp2_with fail
          have IL5 := S5.out.il
          have e5 := HM.out.1
          refine (args_eq (Find_is _ w.heap.size L' (X i) (-1) G.out.2 W5 IL5 S5.out.l64 hx) (by rw [e5])).mono ?_
          rintro e W6 ⟨rfl, hn⟩
          have S6 := Lib.hid (S5.out.of hn)
          have hb7 := hb6.trans (hn.mono hb6.size)
          clear IL5 e5 c1 K5
          clear hn S5 hb6
          go_wp2_with fail
          go_roundg (n - (i + 1))
          case measure => omega
          case rel => exact ⟨i + 1, L', S', T', by norm_cast, by omega, Nat.le_refl _, by have h5 := S6; rw [HM.out.1] at h5; exact h5, hb7⟩
        · obtain ⟨y, hy⟩ : ∃ y, S'.v (T'.found fun i_1 => cten (X i) (S'.v i_1)) = y := ⟨_, rfl⟩
          rw [hy] at g3
          have G := Lib.hid (And.intro g1 (And.intro hy (And.intro g2 g3)))
          clear g1 g2 g3 hy
          refine (S4.out.ss.get_one (X i) y hx (by omega) G.out.1 G.out.2.1).mono ?_
          rintro e W5 ⟨rfl, hn⟩
          have S5 := Lib.hid (S4.out.of hn)
          have K5 := Lib.hid (K4.out.of hn)
          have hb6 := hb5.trans (hn.mono hb5.size)
          have c1 := K5.out.cell 1
          have clt := K5.out.lt
          simp only [List.getElem?_toArray, List.getElem?_cons_zero, List.getElem?_cons_succ] at c1
          clear hn S4 K4 hb5
          go_wp2_with fail
          have IL5 := S5.out.il
          have e5 := HM.out.1
          refine (args_eq (Find_is _ w.heap.size L' (X i) p G.out.2.2.1 W5 IL5 S5.out.l64 hx) (by rw [e5])).mono ?_
          rintro e W6 ⟨rfl, hn⟩
          have S6 := Lib.hid (S5.out.of hn)
          have hb7 := hb6.trans (hn.mono hb6.size)
          obtain ⟨al2, lc2, e6, e7, e8, e9⟩ := S6.out.il.val
          have hpm : p < m := by rw [← HM.out.1]; exact (List.getElem?_eq_some_iff.1 G.out.2.2.2).1
          obtain ⟨rfl, rfl⟩ : al = al2 ∧ lc = lc2 := by injection e6 with a1 a2 a3; exact ⟨a1, a3⟩
          obtain ⟨g, rfl, hgl, hgb, hcell⟩ := e9 (by rw [HM.out.1]; omega)
          obtain ⟨y', q0, q1, q2, q3⟩ := cell_at hcell (k := p) (by rw [HM.out.1]; exact hpm)
          have hyy : y' = y := by have := G.out.2.2.2; rw [q0] at this; exact Option.some.inj this
          subst hyy
          have hpm2 : ¬ m ≤ p := by omega
          clear e6 e7 e8 e9 hcell q0 q1 q2 IL5 e5 c1 K5
          clear hn S5 hb6
          go_wp2_with fail
          go_roundg (n - (i + 1))
          case measure => omega
          case rel => exact ⟨i + 1, L', S', T', by norm_cast, by omega, Nat.le_refl _, by have h5 := S6; rw [HM.out.1] at h5; exact h5, hb7⟩
      · clear S0
        have hi4 : i ≤ 400 := by omega
        go_wp2_with fail
        refine (All_is t wr).mono ?_
        rintro e W2 ⟨rfl, hk, hn⟩
        have hb2 := hb.trans (hn.mono hb.size)
        have S2 := Lib.hid (hS.out.of hn)
        have K2 := Lib.hid hk
        clear hn hb hS hk
        go_wp2_with fail
        refine (told5_is w.heap.size _ t S T i u4 L _ W2 S2.out K2.out hi4).mono ?_
        rintro e W3 ⟨rfl, hn⟩
        have hb3 := hb2.trans (hn.mono hb2.size)
        clear hn hb2 S2 K2
        go_wp2_with fail
        refine (awake_is W3).mono ?_
        rintro e W6 ⟨rfl, hn⟩
        have hb6 := hb3.trans (hn.mono hb3.size)
        clear hn hb3
        go_wp2
        go_ret
        exact ⟨rfl, hb6⟩
end Go.Proofs.Ytgdjihihjlbelaa

namespace Go.Proofs.Ytgdjihihjlbelaa
open Go.ChangeShapes Go.WideShapes Go.ChangeAt Go.RowKit

theorem own : ownKnob Try.prog.godebug = none := by kernel_rfl
theorem laidOut : laidOutB Try.prog = true := by kernel_rfl
theorem in64_wf {x : Int} (h : (Lit.int .i64 x).wf = true) : In64 x := by
  simp [Lit.wf, IntKind.min, IntKind.max, IntKind.signed, IntKind.bits] at h
  unfold In64; omega
theorem blk_add (a : Addr) (n : Nat) : (a.add n).block = a.block := by unfold Addr.add; split <;> rfl
section
variable {H : Type} {enc : TypeId × Value → H} {w : World} {base : Nat} {held : Bool}
set_option maxRecDepth 100000 in
theorem open_ops {r : Reach} {b0 : Nat} {v : Value} {d : DataW H} {p : List MemPlace} (hv : Value.okWide Try.prog w r b0 22 v) (h : DataW.Trod enc Try.prog w base (fun _ => true) held 22 v d p) :
    ∃ ao n cap K X, v = .slice ao n cap ∧ Ops w ao n cap K X := by
  obtain ⟨ao, n, cap, rfl⟩ := okWide_slice Try.underlying22 hv
  obtain ⟨fuel, hf⟩ := h
  have hC : Try.prog.cellsOf 29 = 2 := by kernel_rfl
  have hC1 : Try.prog.cellsOf 3 = 1 := by kernel_rfl
  rcases Go.Deep.open_slice_pairs Try.underlying22 Try.underlying29 hC rfl rfl hC1 hC1 hf with ⟨hc, hx⟩ | ⟨a, len, c2, m, k, V0, V1, D0, D1, P0, P1, hc, _, hl, hm, hmm, hx, hall⟩
  · obtain ⟨rfl, rfl, rfl⟩ : ao = none ∧ n = 0 ∧ cap = 0 := by simpa [Value.cells] using hc
    exact ⟨none, 0, 0, fun _ => 0, fun _ => 0, rfl, fun h => absurd h (by omega), Nat.le_refl _, by omega, fun i h => absurd h (by omega)⟩
  · obtain ⟨rfl, rfl, rfl⟩ : ao = some a ∧ n = len ∧ cap = c2 := by simpa [Value.cells] using hc
    have hmc : m = cap := by rw [hmm]; rfl
    have key : ∀ i, i < n → ∃ y : Int × Int, V0 i = .int .i64 y.1 ∧ V1 i = .int .i64 y.2 ∧ In64 y.2 := by
      intro i hi
      obtain ⟨_, _, t0, t1⟩ := hall i (by omega)
      obtain ⟨a0, e0, _, g0⟩ := DataW.trod_int Try.underlying3 t0
      obtain ⟨a1, e1, _, g1⟩ := DataW.trod_int Try.underlying3 t1
      exact ⟨(a0, a1), by simpa using e0, by simpa using e1, in64_wf g1⟩
    refine ⟨some a, n, cap, fun i => if h : i < n then (key i h).choose.1 else 0, fun i => if h : i < n then (key i h).choose.2 else 0, rfl, fun h0 => ⟨a, rfl, ?_, fun i hi => ?_⟩, hl, hm, fun i hi => ?_⟩
    · have := (hall 0 (by omega)).1
      have := World.block_lt_of_cell? _ _ this
      rwa [blk_add] at this
    · have e0 := (hall i (by omega)).1
      have e1 := (hall i (by omega)).2.1
      rw [(key i hi).choose_spec.1] at e0
      rw [(key i hi).choose_spec.2.1] at e1
      simp only [dif_pos hi]
      exact ⟨e0, by rw [Go.Deep.add_add]; exact e1⟩
    · simp only [dif_pos hi]
      exact (key i hi).choose_spec.2.2
end
end Go.Proofs.Ytgdjihihjlbelaa

namespace Go.Proofs.Ytgdjihihjlbelaa
open Go.ChangeShapes Go.WideShapes Go.ChangeAt Go.RowKit

set_option maxRecDepth 100000 in
set_option maxHeartbeats 1000000 in
theorem avlPlays_lifted (os : Os) (started : os.Started) (H : Type) (enc : TypeId × Value → H) :
    ReturnsInHanded {} Try.checked os 7 .any (Rows.avlPlaysSpec.pre6 enc Try.prog Try.f7 Rows.avlPlaysRow.domain false) (Rows.avlPlaysSpec.post enc Try.prog Try.f7 false true false false) := by
  refine returnsInHanded_of_change (C := Try.checked) own started (by kernel_rfl) Try.func7
    (ChangeSpec.witness6 (enc := enc) (C := Try.checked) false ⟨#[], #[.slice none 0 0], []⟩ 8 (by kernel_rfl) (by kernel_rfl) (by kernel_rfl) (by kernel_rfl)) ?_
  intro W base args ds gs before hval0 hW hcnd _
  have hval : ∀ (j : Nat) t v, Try.f7.params[j]? = some t → args[j]? = some v → Value.okWide Try.prog W .any base t v := hval0
  have hW' := hW
  obtain ⟨p, q, hA0, hV, rfl, hfz, hnd⟩ := hW
  have hA : DataW.TrodAll enc Try.prog W 0 (fun _ => true) true Try.f7.params.toList args.toList ds p := hA0
  rw [Try.params7] at hA hval
  obtain ⟨v0, vs0, d0, ds0, p0, q0, hargs, rfl, rfl, h0, r0⟩ := trodAll_cons hA
  obtain ⟨rfl, rfl, rfl⟩ := trodAll_nil r0
  obtain rfl : args = #[v0] := by cases args; simp_all
  obtain ⟨rfl, rfl⟩ := trodVars_none hV
  have k0 := h0
  have lt0 : ∀ x ∈ p0, x.block < W.heap.size := by obtain ⟨m, hm⟩ := k0; exact DataW.trod_lt m _ _ _ hm
  obtain ⟨ao0, n0, cap0, K0, X0, rfl, io0⟩ := open_ops (hval 0 22 v0 rfl rfl) h0
  clear hA0 hval0
  refine (AvlPlays_any ao0 n0 cap0 K0 X0 W io0).mono fun e W' ⟨he, bel⟩ => ?_
  subst he
  exact ⟨_, rfl, _, _, _, [], _, [], hW', trodAll_mk1 (shut_bool Try.underlying4 _), (trodAll_cons_mk (Below.trod laidOut (by kernel_rfl) (of_decide_eq_true (by kernel_rfl)) k0 bel lt0) trodAll_mk0), rfl, bel.frame _, fun h => by cases h⟩

theorem avlPlays_holds : Rows.AvlPlaysSaid :=
  OpenClaim.holds_of_wide 7 Try.f7 rfl rfl rfl rfl rfl rfl rfl ⟨rfl, rfl, rfl, rfl, rfl⟩ rfl rfl rfl rfl rfl (by kernel_rfl) Try.func7 (by kernel_rfl)
    (of_decide_eq_true (by kernel_rfl)) (by unfold Func.isWrapper; rw [if_neg (by decide +kernel)]; exact ⟨rfl, rfl⟩)
    (fun os started H enc _ => avlPlays_lifted os started H enc)
#print axioms avlPlays_holds
end Go.Proofs.Ytgdjihihjlbelaa

