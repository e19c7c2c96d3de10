/- The statement AvlNearSaid: for every input the law returns true, and its arguments read as before. Conditions: none. -/
import Derived.Test.YtgdjihihjlbelaaSAn2
import Derived.KernelRfl
import Derived.StillTail
import Derived.OrdersHeld
import Derived.Deep.Quiet
import Derived.Below
import Derived.WalkKit
import Derived.Test.YtgdjihihjlbelaaProg
import Derived.WalkSpells
import Derived.StillTactics
import Derived.Laws.Pointers
import Derived.Deep.RegionHeld3
import Derived.RowKit3
import Derived.Deep.QuietTactic
import Derived.BigQuiet
import Derived.BigRegion
import Derived.Deep.LoopGhost
import Derived.Deep.DeepFit
import Derived.Deep.DeepCutAuto
import Derived.OwnWalk
import Derived.Lib.Hide
import Derived.RangeFuncNested
import Derived.RangeFuncBound
import Derived.RangeFuncCalls
import Derived.RangeFuncLeaves
import Derived.Shelf.Abstract
import Derived.Shelf.RegionOpen
import Derived.OwnWalkIn
import Derived.TacticsInMore
import Derived.LoopNIn
import Derived.LoopIn
import Derived.Deep.DeepAppendRoom
import Derived.Sort.LoopGhostIn
import Derived.Test.YtgdjihihjlbelaaRows
import Derived.ProofKit
import Derived.OpenShut
import Derived.ChangeOld
import Derived.Deep.SlicePairs
namespace Go.Proofs.Ytgdjihihjlbelaa
open Go.RowKit

/-- what a step answers -/
def Stp (B : Nat) (t : Nat) (S : TS) (q : Nat) (w : World) (e : Ending) (w' : World) : Prop := ∃ v' L' S' T', e = .returned (.tuple #[v', .bool true]) ∧ St B w' t S' T' (q + 1) v' L' ∧ Below B w w' ∧ Fr t S S' w w'
set_option maxRecDepth 100000 in
set_option maxHeartbeats 2000000 in
theorem step_put_old (B t : Nat) (S : TS) (T : Tr) (q : Nat) (v : Value) (L : List Int) (x : Int) (w : World) (h : St B w t S T q v L) (hx : In64 x) (hq : q ≤ 400) (hB : B ≤ w.heap.size) (hf0 : 0 ≤ fnd x L) :
    Calls Try.prog 11 #[ptr t 0, v, .agg #[.int .i64 1, .int .i64 x]] w (Stp B t S q w) := by
  have hff := h.fnd x
  obtain ⟨f, hf⟩ : ∃ f, fnd x L = f := ⟨_, rfl⟩
  have hlen := h.len
  have hsz := h.inv.sz
  have HS := Lib.hid h
  have HF := Lib.hid hf
  rw [hf] at hff
  rw [hf] at hf0
  have hne : T.found (fun i => cten x (S.v i)) ≠ 0 := by rcases hff with a | a; omega; exact a.1
  clear hff h hf
  go_enter Try.func11, Try.ntmps11
  go_wp2_with fail
  refine calls_w ?_
  intro V hV
  have ko : Blk V w.heap.size #[.int .i64 1, .int .i64 x] 29 := by rw [hV]; exact Blk.new _ _ _
  have hbV : Below w.heap.size w V := by rw [hV]; exact below_a1 _ _
  clear hV
  have S1 := HS.out.of hbV
  refine (Find_is v B L x f HF.out V S1.il S1.l64 hx).mono ?_
  rintro e V2 ⟨rfl, hn⟩
  have S2 := Lib.hid (S1.of hn)
  have k2 := ko.of hn
  have hb2 := hbV.trans (hn.mono hbV.size)
  have o0 := k2.cell 0
  have o1 := k2.cell 1
  have ol := k2.lt
  simp only [List.getElem?_toArray, List.getElem?_cons_zero, List.getElem?_cons_succ] at o0 o1
  clear hn hbV ko S1 k2
  go_wp2_with fail
  refine (Put_old t S cten x T _ rfl hne _ S2.out.m.m S2.out.ok hx S2.out.inv.ok.rep S2.out.inv.v64 (by omega)).mono ?_
  rintro e V3 ⟨rfl, hn⟩
  have S3 := Lib.hid (S2.out.of hn)
  have hb3 := hb2.trans (hn.mono hb2.size)
  clear hn S2 hb2 o0 o1
  go_wp2
  go_ret2
  exact ⟨v, L, S, T, rfl, S3.out.more, hb3.mono hB, Fr.ofBelow hb3⟩
set_option maxRecDepth 100000 in
set_option maxHeartbeats 2000000 in
theorem step_del_none (B t : Nat) (S : TS) (T : Tr) (q : Nat) (v : Value) (L : List Int) (x : Int) (w : World) (h : St B w t S T q v L) (hx : In64 x) (hq : q ≤ 400) (hB : B ≤ w.heap.size) (hf0 : fnd x L < 0) :
    Calls Try.prog 11 #[ptr t 0, v, .agg #[.int .i64 2, .int .i64 x]] w (Stp B t S q w) := by
  have hff := h.fnd x
  obtain ⟨f, hf⟩ : ∃ f, fnd x L = f := ⟨_, rfl⟩
  have hlen := h.len
  have hsz := h.inv.sz
  have HS := Lib.hid h
  have HF := Lib.hid hf
  rw [hf] at hff
  rw [hf] at hf0
  have hne : T.found (fun i => cten x (S.v i)) = 0 := by rcases hff with a | a; exact a.1; omega
  clear hff h hf
  go_enter Try.func11, Try.ntmps11
  go_wp2_with fail
  refine calls_w ?_
  intro V hV
  have ko : Blk V w.heap.size #[.int .i64 2, .int .i64 x] 29 := by rw [hV]; exact Blk.new _ _ _
  have hbV : Below w.heap.size w V := by rw [hV]; exact below_a1 _ _
  clear hV
  have S1 := HS.out.of hbV
  refine (Find_is v B L x f HF.out V S1.il S1.l64 hx).mono ?_
  rintro e V2 ⟨rfl, hn⟩
  have S2 := Lib.hid (S1.of hn)
  have k2 := ko.of hn
  have hb2 := hbV.trans (hn.mono hbV.size)
  have o0 := k2.cell 0
  have o1 := k2.cell 1
  have ol := k2.lt
  simp only [List.getElem?_toArray, List.getElem?_cons_zero, List.getElem?_cons_succ] at o0 o1
  clear hn hbV ko S1 k2
  go_wp2_with fail
  refine (Del_none t S cten x T _ rfl hne _ S2.out.m.m S2.out.ok hx S2.out.inv.ok.rep S2.out.inv.v64 (by omega)).mono ?_
  rintro e V3 ⟨rfl, hn⟩
  have S3 := Lib.hid (S2.out.of hn)
  have hb3 := hb2.trans (hn.mono hb2.size)
  clear hn S2 hb2 o0 o1
  go_wp2
  go_ret2
  exact ⟨v, L, S, T, rfl, S3.out.more, hb3.mono hB, Fr.ofBelow hb3⟩
set_option maxRecDepth 100000 in
set_option maxHeartbeats 2000000 in
theorem step_other (B t : Nat) (S : TS) (T : Tr) (q : Nat) (v : Value) (L : List Int) (kd x : Int) (w : World) (h : St B w t S T q v L) (hx : In64 x) (hq : q ≤ 400) (hB : B ≤ w.heap.size) (hk1 : kd ≠ 1) (hk2 : kd ≠ 2) :
    Calls Try.prog 11 #[ptr t 0, v, .agg #[.int .i64 kd, .int .i64 x]] w (Stp B t S q w) := by
  have hff := h.fnd x
  obtain ⟨f, hf⟩ : ∃ f, fnd x L = f := ⟨_, rfl⟩
  have hlen := h.len
  have hsz := h.inv.sz
  have HS := Lib.hid h
  have HF := Lib.hid hf
  rw [hf] at hff
  clear hff h hf
  go_enter Try.func11, Try.ntmps11
  go_wp2_with fail
  refine calls_w ?_
  intro V hV
  have ko : Blk V w.heap.size #[.int .i64 kd, .int .i64 x] 29 := by rw [hV]; exact Blk.new _ _ _
  have hbV : Below w.heap.size w V := by rw [hV]; exact below_a1 _ _
  clear hV
  have S1 := HS.out.of hbV
  refine (Find_is v B L x f HF.out V S1.il S1.l64 hx).mono ?_
  rintro e V2 ⟨rfl, hn⟩
  have S2 := Lib.hid (S1.of hn)
  have k2 := ko.of hn
  have hb2 := hbV.trans (hn.mono hbV.size)
  have o0 := k2.cell 0
  have o1 := k2.cell 1
  have ol := k2.lt
  simp only [List.getElem?_toArray, List.getElem?_cons_zero, List.getElem?_cons_succ] at o0 o1
  clear hn hbV ko S1 k2
  go_wp2
  go_ret2
  exact ⟨v, L, S, T, rfl, S2.out.more, hb2.mono hB, Fr.ofBelow hb2⟩
set_option maxRecDepth 100000 in
set_option maxHeartbeats 2000000 in
theorem step_put_new (B t : Nat) (S : TS) (T : Tr) (q : Nat) (v : Value) (L : List Int) (x : Int) (w : World) (h : St B w t S T q v L) (hx : In64 x) (hq : q ≤ 400) (hB : B ≤ w.heap.size) (hf0 : fnd x L < 0) :
    Calls Try.prog 11 #[ptr t 0, v, .agg #[.int .i64 1, .int .i64 x]] w (Stp B t S q w) := by
  have hff := h.fnd x
  obtain ⟨f, hf⟩ : ∃ f, fnd x L = f := ⟨_, rfl⟩
  have hlen := h.len
  have hsz := h.inv.sz
  have HS := Lib.hid h
  have HF := Lib.hid hf
  rw [hf] at hff
  rw [hf] at hf0
  have nt0 : ¬ w.heap.size = t := by have := h.m.m.blk.lt; omega
  have nn0 : ¬ w.heap.size = S.nb := by have := h.m.m.row.lt; omega
  have nf0 : ¬ w.heap.size = S.fb := by have := h.m.lf; omega
  have hne : T.found (fun i => cten x (S.v i)) = 0 := by rcases hff with a | a; exact a.1; omega
  have HL := Lib.hid (show L.length < 1000000 by omega)
  clear hff h hf hlen hsz
  go_enter Try.func11, Try.ntmps11
  go_wp2_with fail
  refine calls_w ?_
  intro V hV
  have ko : Blk V w.heap.size #[.int .i64 1, .int .i64 x] 29 := by rw [hV]; exact Blk.new _ _ _
  have hbV : Below w.heap.size w V := by rw [hV]; exact below_a1 _ _
  clear hV
  have S1 := HS.out.of hbV
  refine (Find_is v B L x f HF.out V S1.il S1.l64 hx).mono ?_
  rintro e V2 ⟨rfl, hn⟩
  have S2 := Lib.hid (S1.of hn)
  have k2 := ko.of hn
  have hb2 := hbV.trans (hn.mono hbV.size)
  have o0 := k2.cell 0
  have o1 := k2.cell 1
  have ol := k2.lt
  simp only [List.getElem?_toArray, List.getElem?_cons_zero, List.getElem?_cons_succ] at o0 o1
  clear hn hbV ko S1 k2
  go_wp2_with fail
  refine name_world ?_
  intro W hW
  subst hW
  have lt := S2.out.m.m.blk.lt
  have ln := S2.out.m.m.row.lt
  have lf := S2.out.m.lf
  refine wp_region_upl [t, S.nb, S.fb] 7 [(true, 0), (true, 1), (true, 2), (true, 4), (true, 5), (true, 6), (false, 3)] (by kernel_rfl) (by kernel_rfl) (fun _ _ d _ _ h => by cases d <;> exact h) ?_
  have hb : OutL [t, S.nb, S.fb] W W.drew := (OutL.refl _ _).drew
  iterate 6
    refine wpS_takeL rfl rfl ?_
    go_big_quiet_step (rfl)
    refine wpQuiet_nil ?_
  refine wpS_doL rfl ?_
  intro K hK
  go_wp2_with ((go_at_call 29; (with_reducible refine (rPut_is v B L x _ (S2.out.of (Below.refl _ _).drew).il S2.out.l64 hx HL.out).mono ?_); rintro e w2 ⟨v1, rfl, hO1, hbn⟩; have hn := OutL.ofBelow (l := [t, S.nb, S.fb]) hbn; have HB1 := Lib.hid ((Below.refl W.heap.size W).drew.trans (hbn.mono (Nat.le_refl _))); have hO1 := Lib.hid hO1))
  replace hb := hb.trans hn
  refine hK.out _ _ (upl hb) ?_
  clear hK K
  clear hn
  refine wpS_nil ?_
  simp only [List.drop_succ_cons, List.drop_zero]
  go_wp2_with (go_at_call 17; (with_reducible refine (Put_ok t ordk_ten S2.out.inv x hx hne hq _ (S2.out.of HB1.out).m S2.out.ok).mono ?_); rintro e w2 ⟨rfl, S3, hP, hord, hm3, hf2⟩; have hn := hf2.out; have hf2 := Lib.hid hf2; have hm3 := Lib.hid hm3; have hP := Lib.hid hP)
  have hd1 : ∀ k, v1.ownBlock = some k → k ≠ t ∧ k ≠ S.nb ∧ k ≠ S.fb := fun k hk => by
    have := (wayown hO1.out k hk).2
    simp at this; omega
  obtain ⟨I2, d2⟩ := (IL.mono hO1.out (base' := B) (by have := hb2.size; simp; omega)).fr hf2.out hd1
  have SN := S2.out.of HB1.out
  have SF := Lib.hid (SN.below hf2.out)
  have HB2 := Lib.hid hb2
  have I2 := Lib.hid I2
  have d2 := Lib.hid d2
  clear hO1 hd1 SN hb hb2
  go_ret2
  obtain ⟨T', P, Q, i1, i2, i3, i4, i5⟩ := hP.out
  have e5 : insR x L = vals S3 T' := by
    rw [i5, ← S2.out.lv]
    unfold vals
    rw [i2, List.map_append]
    exact insR_split x _ _ (fun z hz => by obtain ⟨m, hm, rfl⟩ := List.mem_map.1 hz; have := i3 m hm; omega) (fun z hz => by obtain ⟨m, hm, rfl⟩ := List.mem_map.1 hz; exact i4 m hm)
  exact ⟨v1, _, S3, T', rfl, (S2.out.of HB1.out).next hm3.out hf2.out i1 hord I2.out e5.symm d2.out, ((HB2.out.mono hB).trans (HB1.out.mono (by have := HB2.out.size; omega))).trans SF.out, (Fr.ofBelow HB2.out).trans ((Fr.ofBelow HB1.out).trans hf2.out)⟩
set_option maxRecDepth 100000 in
set_option maxHeartbeats 2000000 in
theorem step_del_old (B t : Nat) (S : TS) (T : Tr) (q : Nat) (v : Value) (L : List Int) (x : Int) (w : World) (h : St B w t S T q v L) (hx : In64 x) (hq : q ≤ 400) (hB : B ≤ w.heap.size) (hf0 : 0 ≤ fnd x L) :
    Calls Try.prog 11 #[ptr t 0, v, .agg #[.int .i64 2, .int .i64 x]] w (Stp B t S q w) := by
  have hff := h.fnd x
  obtain ⟨f, hf⟩ : ∃ f, fnd x L = f := ⟨_, rfl⟩
  have hlen := h.len
  have hsz := h.inv.sz
  have HS := Lib.hid h
  have HF := Lib.hid hf
  rw [hf] at hff
  rw [hf] at hf0
  have nt0 : ¬ w.heap.size = t := by have := h.m.m.blk.lt; omega
  have nn0 : ¬ w.heap.size = S.nb := by have := h.m.m.row.lt; omega
  have nf0 : ¬ w.heap.size = S.fb := by have := h.m.lf; omega
  have hne : T.found (fun i => cten x (S.v i)) ≠ 0 := by rcases hff with a | a; omega; exact a.1
  obtain ⟨fz, hfz⟩ : ∃ fz : Nat, f.toNat = fz := ⟨_, rfl⟩
  have hfe : f = (fz : Int) := by omega
  have HZ := Lib.hid hfz
  have HFE := Lib.hid hfe
  have HL := Lib.hid (show L.length < 1000000 by omega)
  clear hff h hf hlen hsz hfe hfz hf0
  go_enter Try.func11, Try.ntmps11
  go_wp2_with fail
  refine calls_w ?_
  intro V hV
  have ko : Blk V w.heap.size #[.int .i64 2, .int .i64 x] 29 := by rw [hV]; exact Blk.new _ _ _
  have hbV : Below w.heap.size w V := by rw [hV]; exact below_a1 _ _
  clear hV
  have S1 := HS.out.of hbV
  refine (Find_is v B L x f HF.out V S1.il S1.l64 hx).mono ?_
  rintro e V2 ⟨rfl, hn⟩
  rw [HFE.out]
  have S2 := Lib.hid (S1.of hn)
  have k2 := ko.of hn
  have hb2 := hbV.trans (hn.mono hbV.size)
  have o0 := k2.cell 0
  have o1 := k2.cell 1
  have ol := k2.lt
  simp only [List.getElem?_toArray, List.getElem?_cons_zero, List.getElem?_cons_succ] at o0 o1
  clear hn hbV ko S1 k2
  go_wp2_with fail
  refine name_world ?_
  intro W hW
  subst hW
  have lt := S2.out.m.m.blk.lt
  have ln := S2.out.m.m.row.lt
  have lf := S2.out.m.lf
  refine wp_region_upl [t, S.nb, S.fb] 6 [(true, 0), (true, 1), (true, 3), (true, 4), (true, 5), (false, 2)] (by kernel_rfl) (by kernel_rfl) (fun _ _ d _ _ h => by cases d <;> exact h) ?_
  have hb : OutL [t, S.nb, S.fb] W W.drew := (OutL.refl _ _).drew
  iterate 5
    refine wpS_takeL rfl rfl ?_
    go_big_quiet_step (rfl)
    refine wpQuiet_nil ?_
  refine wpS_doL rfl ?_
  intro K hK
  go_wp2_with ((go_at_call 30; (with_reducible refine (rWithout_is v B L fz _ (S2.out.of (Below.refl _ _).drew).il HL.out).mono ?_); rintro e w2 ⟨v1, rfl, hO1, hbn⟩; have hn := OutL.ofBelow (l := [t, S.nb, S.fb]) hbn; have HB1 := Lib.hid ((Below.refl W.heap.size W).drew.trans (hbn.mono (Nat.le_refl _))); have hO1 := Lib.hid hO1))
  replace hb := hb.trans hn
  refine hK.out _ _ (upl hb) ?_
  clear hK K
  clear hn
  refine wpS_nil ?_
  simp only [List.drop_succ_cons, List.drop_zero]
  go_wp2_with (go_at_call 18; (with_reducible refine (Del_ok t ordk_ten S2.out.inv x hx hne hq _ (S2.out.of HB1.out).m S2.out.ok).mono ?_); rintro e w2 ⟨rfl, S3, hP, hord, hm3, hf2⟩; have hn := hf2.out; have hf2 := Lib.hid hf2; have hm3 := Lib.hid hm3; have hP := Lib.hid hP)
  have hd1 : ∀ k, v1.ownBlock = some k → k ≠ t ∧ k ≠ S.nb ∧ k ≠ S.fb := fun k hk => by
    have := (wayown hO1.out k hk).2
    simp at this; omega
  obtain ⟨I2, d2⟩ := (IL.mono hO1.out (base' := B) (by have := hb2.size; simp; omega)).fr hf2.out hd1
  have SN := S2.out.of HB1.out
  have SF := Lib.hid (SN.below hf2.out)
  have HB2 := Lib.hid hb2
  have I2 := Lib.hid I2
  have d2 := Lib.hid d2
  clear hO1 hd1 SN hb hb2
  go_ret2
  obtain ⟨T', n, P, Q, i1, i2, i6, i3, i4, i5⟩ := hP.out
  have hL : L = P.map S.v ++ S.v n :: Q.map S.v := by rw [← S2.out.lv]; unfold vals; rw [i2, List.map_append, List.map_cons]
  have hfz : fnd x L = (P.map S.v).length := by rw [hL]; exact fnd_split x _ _ _ (fun z hz => by obtain ⟨m, hm, rfl⟩ := List.mem_map.1 hz; have := i3 m hm; omega) i6
  have e5 : L.eraseIdx fz = vals S3 T' := by
    rw [i5, ← HZ.out, ← HF.out, hfz, hL, Int.toNat_natCast, List.eraseIdx_append_of_length_le (Nat.le_refl _), Nat.sub_self]; rfl
  exact ⟨v1, _, S3, T', rfl, (S2.out.of HB1.out).next hm3.out hf2.out i1 hord I2.out e5.symm d2.out, ((HB2.out.mono hB).trans (HB1.out.mono (by have := HB2.out.size; omega))).trans SF.out, (Fr.ofBelow HB2.out).trans ((Fr.ofBelow HB1.out).trans hf2.out)⟩
/-- a step of both goes on, and they do not differ -/
theorem step_is (B t : Nat) (S : TS) (T : Tr) (q : Nat) (v : Value) (L : List Int) (kd x : Int) (w : World) (h : St B w t S T q v L) (hx : In64 x) (hq : q ≤ 400) (hB : B ≤ w.heap.size) :
    Calls Try.prog 11 #[ptr t 0, v, .agg #[.int .i64 kd, .int .i64 x]] w (Stp B t S q w) := by
  by_cases h1 : kd = 1
  · subst h1
    by_cases h2 : 0 ≤ fnd x L
    · exact step_put_old B t S T q v L x w h hx hq hB h2
    · exact step_put_new B t S T q v L x w h hx hq hB (by omega)
  · by_cases h2 : kd = 2
    · subst h2
      by_cases h3 : 0 ≤ fnd x L
      · exact step_del_old B t S T q v L x w h hx hq hB h3
      · exact step_del_none B t S T q v L x w h hx hq hB (by omega)
    · exact step_other B t S T q v L kd x w h hx hq hB h1 h2
end Go.Proofs.Ytgdjihihjlbelaa

namespace Go.Proofs.Ytgdjihihjlbelaa
open Go.RowKit

theorem no_ino : ∀ T : Tr, T.no = T.ino
  | .nil => rfl
  | .nd i l r => by show l.no ++ i :: r.no = l.ino ++ i :: r.ino; rw [no_ino l, no_ino r]
theorem bal_of {S : TS} (h0 : S.d 0 = 0) : ∀ {j : Nat} {T : Tr}, Ok S j T → Avl T → ∀ i ∈ T.no, Bal S i
  | _, .nil, _, _, i, hi => by cases hi
  | _, .nd n l r, h, ha, i, hi => by
    have hi : i ∈ l.no ++ n :: r.no := hi
    rcases List.mem_append.1 hi with h1 | h1
    · exact bal_of h0 h.2.2.2.2.1 ha.2.2.1 i h1
    · rcases List.mem_cons.1 h1 with rfl | h1
      · have e1 := Ok.d h0 h.2.2.2.2.1
        have e2 := Ok.d h0 h.2.2.2.2.2
        have e3 : S.d i = ((max l.ht r.ht + 1 : Nat) : Int) := h.2.2.2.1
        have a1 := ha.1
        have a2 := ha.2.1
        unfold Bal
        rw [e1, e2, e3]
        refine ⟨by push_cast; omega, by omega, by omega⟩
      · exact bal_of h0 h.2.2.2.2.2 ha.2.2.2 i h1
section
variable {key : Int → Int} {c : Int → Int → Int} {S : TS} {T : Tr} {q : Nat}
theorem Inv.bal (h : Inv key S T q) : ∀ i ∈ T.ino, Bal S i := by rw [← no_ino]; exact bal_of h.d0 h.ok h.avl
theorem Inv.rises (hc : OrdK c key) (h : Inv key S T q) : ∀ k, k + 1 < T.size → c (S.v (T.ino.getD k 0)) (S.v (T.ino.getD (k + 1) 0)) < 0 := by
  intro k hk
  have hl : T.no.length = T.size := Tr.no_len T
  rw [← no_ino, (hc _ _).1]
  have := List.pairwise_iff_getElem.1 h.srt k (k + 1) (by omega) (by omega) (by omega)
  rwa [List.getD_eq_getElem?_getD, List.getD_eq_getElem?_getD, List.getElem?_eq_getElem (by omega), List.getElem?_eq_getElem (by omega)]
theorem Inv.check (hc : OrdK c key) (h : Inv key S T q) (hq : q ≤ 400) (t : Nat) (w : World) (hw : TM2 w t S) (ho : OrdOk S.ord c) :
    Calls Try.prog 19 #[ptr t 0] w fun e w' => e = .returned (.bool true) ∧ TM2 w' t S ∧ Fr t S S w w' :=
  Check_is t S c T _ w hw ho h.v64 h.ok.rep (by have := h.sz; omega) h.kb h.dl (by omega) h.bal (h.rises hc) h.n
theorem near1_find (f : Nat → Int) : ∀ (T : Tr) (b : Nat), (∀ P i Q, T.no = P ++ i :: Q → 0 ≤ f i → ∀ n ∈ P, 0 ≤ f n) → T.near1 f b = (T.no.find? fun i => decide (f i < 0)).getD b
  | .nil, b, _ => rfl
  | .nd n l r, b, h => by
    have hl : ∀ P i Q, l.no = P ++ i :: Q → 0 ≤ f i → ∀ n ∈ P, 0 ≤ f n := fun P i Q e => h P i (Q ++ n :: r.no) (by rw [nd_no, e]; simp)
    have hr : ∀ P i Q, r.no = P ++ i :: Q → 0 ≤ f i → ∀ n ∈ P, 0 ≤ f n := fun P i Q e h0 m hm => h (l.no ++ n :: P) i Q (by rw [nd_no, e]; simp) h0 m (by simp [hm])
    show (if f n < 0 then l.near1 f n else r.near1 f b) = ((l.no ++ n :: r.no).find? _).getD b
    rw [List.find?_append]
    by_cases hn : f n < 0
    · rw [if_pos hn, near1_find f l n hl, List.find?_cons_of_pos (by simpa using hn)]
      cases l.no.find? (fun i => decide (f i < 0)) <;> rfl
    · rw [if_neg hn, near1_find f r b hr, List.find?_cons_of_neg (by simpa using hn)]
      have hnone : l.no.find? (fun i => decide (f i < 0)) = none := by
        rw [List.find?_eq_none]; intro m hm
        have := h l.no n r.no (nd_no n l r) (by omega) m hm
        simp; omega
      rw [hnone]; rfl
theorem near0_find (f : Nat → Int) : ∀ (T : Tr) (b : Nat), (∀ P i Q, T.no = P ++ i :: Q → f i ≤ 0 → ∀ n ∈ Q, f n ≤ 0) → T.near0 f b = (T.no.reverse.find? fun i => decide (0 < f i)).getD b
  | .nil, b, _ => rfl
  | .nd n l r, b, h => by
    have hl : ∀ P i Q, l.no = P ++ i :: Q → f i ≤ 0 → ∀ n ∈ Q, f n ≤ 0 := fun P i Q e h0 m hm => h P i (Q ++ n :: r.no) (by rw [nd_no, e]; simp) h0 m (by simp [hm])
    have hr : ∀ P i Q, r.no = P ++ i :: Q → f i ≤ 0 → ∀ n ∈ Q, f n ≤ 0 := fun P i Q e => h (l.no ++ n :: P) i Q (by rw [nd_no, e]; simp)
    show (if 0 < f n then r.near0 f n else l.near0 f b) = ((l.no ++ n :: r.no).reverse.find? _).getD b
    rw [List.reverse_append, List.reverse_cons, List.find?_append, List.find?_append]
    by_cases hn : 0 < f n
    · have e1 : ([n].find? fun i => decide (0 < f i)) = some n := List.find?_cons_of_pos (by simpa using hn)
      rw [if_pos hn, near0_find f r n hr, e1]
      cases r.no.reverse.find? (fun i => decide (0 < f i)) <;> rfl
    · have e1 : ([n].find? fun i => decide (0 < f i)) = none := by rw [List.find?_cons_of_neg (by simpa using hn)]; rfl
      rw [if_neg hn, near0_find f l b hl, e1]
      have hnone : r.no.reverse.find? (fun i => decide (0 < f i)) = none := by
        rw [List.find?_eq_none]; intro m hm
        have := h l.no n r.no (nd_no n l r) (by omega) m (by simpa using hm)
        simp; omega
      rw [hnone]; rfl
/-- before and behind a node -/
theorem Inv.cut (h : Inv key S T q) {P Q : List Nat} {i : Nat} (e : T.no = P ++ i :: Q) : (∀ n ∈ P, key (S.v n) < key (S.v i)) ∧ ∀ n ∈ Q, key (S.v i) < key (S.v n) := by
  have := h.srt
  rw [e] at this
  unfold Srt at this
  rw [List.pairwise_append, List.pairwise_cons] at this
  exact ⟨fun n hn => this.2.2 n hn i (by simp), fun n hn => this.2.1.1 n hn⟩
theorem Inv.near1 (hc : OrdK c key) (h : Inv key S T q) (x : Int) : T.near1 (fun i => c x (S.v i)) 0 = (T.no.find? fun i => decide (key x < key (S.v i))).getD 0 := by
  rw [near1_find]
  · congr 1; congr 1; funext i; exact decide_eq_decide.2 (hc x (S.v i)).1
  · intro P i Q e h0 n hn
    have a1 := (h.cut e).1 n hn
    have a2 := hc x (S.v i)
    have a3 := hc x (S.v n)
    have : ¬ key x < key (S.v n) := by
      intro hh; have := a2.1.2 (by omega); omega
    by_cases hh : c x (S.v n) < 0
    · exact absurd (a3.1.1 hh) this
    · omega
theorem Inv.near0 (hc : OrdK c key) (h : Inv key S T q) (x : Int) : T.near0 (fun i => c x (S.v i)) 0 = (T.no.reverse.find? fun i => decide (key (S.v i) < key x)).getD 0 := by
  rw [near0_find]
  · congr 1; congr 1; funext i; exact decide_eq_decide.2 (hc x (S.v i)).2
  · intro P i Q e h0 n hn
    have a1 := (h.cut e).2 n hn
    have a2 := hc x (S.v i)
    have a3 := hc x (S.v n)
    have : ¬ key (S.v n) < key x := by
      intro hh; have := a2.2.2 (by omega); omega
    by_cases hh : 0 < c x (S.v n)
    · exact absurd (a3.2.1 hh) this
    · omega
/-- the value found, in the list of values -/
theorem find_val (h : Inv key S T q) (l : List Nat) (hl : ∀ n ∈ l, n ∈ T.no) (p : Int → Bool) :
    S.v ((l.find? fun i => p (S.v i)).getD 0) = ((l.map S.v).find? p).getD 0 ∧ (decide ((l.find? fun i => p (S.v i)).getD 0 ≠ 0) = ((l.map S.v).find? p).isSome) := by
  rw [List.find?_map]
  have e : (p ∘ S.v) = fun i => p (S.v i) := rfl
  rw [e]
  cases hf : l.find? (fun i => p (S.v i)) with
  | none => exact ⟨h.v0, rfl⟩
  | some n =>
    have hn := hl n (List.mem_of_find?_eq_some hf)
    have := (h.ok.pos n hn).1
    exact ⟨rfl, by simp; omega⟩
theorem Inv.next (hc : OrdK c key) (h : Inv key S T q) (x : Int) : S.v (T.near1 (fun i => c x (S.v i)) 0) = ((vals S T).find? fun y => decide (key x < key y)).getD 0 ∧ decide (T.near1 (fun i => c x (S.v i)) 0 ≠ 0) = ((vals S T).find? fun y => decide (key x < key y)).isSome := by
  rw [h.near1 hc]; exact find_val h T.no (fun _ hn => hn) (fun y => decide (key x < key y))
theorem Inv.prev (hc : OrdK c key) (h : Inv key S T q) (x : Int) : S.v (T.near0 (fun i => c x (S.v i)) 0) = ((vals S T).reverse.find? fun y => decide (key y < key x)).getD 0 ∧ decide (T.near0 (fun i => c x (S.v i)) 0 ≠ 0) = ((vals S T).reverse.find? fun y => decide (key y < key x)).isSome := by
  rw [h.near0 hc]; unfold vals; rw [← List.map_reverse]; exact find_val h T.no.reverse (fun _ hn => by simpa using hn) (fun y => decide (key y < key x))
theorem end0_no : ∀ T : Tr, ((T.down0).getD ((T.down0).length - 1) (0, 0)).1 = T.no.headD 0
  | .nil => rfl
  | .nd n .nil r => rfl
  | .nd n (.nd m a b) r => by
    have ih := end0_no (.nd m a b)
    have e1 : (Tr.nd n (.nd m a b) r).down0 = (n, 0) :: (Tr.nd m a b).down0 := rfl
    have e2 : (Tr.nd m a b).down0 = (m, 0) :: a.down0 := rfl
    rw [e1, List.length_cons, Nat.add_sub_cancel]
    have e3 : (Tr.nd m a b).down0.length = a.down0.length + 1 := by rw [e2]; rfl
    rw [e3, Nat.add_sub_cancel] at ih
    rw [e3, List.getD_cons_succ, ih, nd_no, nd_no, nd_no]
    cases a.no <;> rfl
theorem end1_no : ∀ T : Tr, ((T.down1).getD ((T.down1).length - 1) (0, 0)).1 = T.no.reverse.headD 0
  | .nil => rfl
  | .nd n l .nil => by rw [nd_no]; show n = (l.no ++ [n]).reverse.headD 0; rw [List.reverse_append]; rfl
  | .nd n l (.nd m a b) => by
    have ih := end1_no (.nd m a b)
    have e1 : (Tr.nd n l (.nd m a b)).down1 = (n, 1) :: (Tr.nd m a b).down1 := rfl
    have e2 : (Tr.nd m a b).down1 = (m, 1) :: b.down1 := rfl
    rw [e1, List.length_cons, Nat.add_sub_cancel]
    have e3 : (Tr.nd m a b).down1.length = b.down1.length + 1 := by rw [e2]; rfl
    rw [e3, Nat.add_sub_cancel] at ih
    rw [e3, List.getD_cons_succ, ih, nd_no n, List.reverse_append, List.reverse_cons]
    have : (Tr.nd m a b).no.reverse ≠ [] := by rw [nd_no]; simp
    revert this
    cases (Tr.nd m a b).no.reverse with
    | nil => intro h; exact absurd rfl h
    | cons u v => intro _; rfl
theorem head_val (h : Inv key S T q) (l : List Nat) (hl : ∀ n ∈ l, n ∈ T.no) : S.v (l.headD 0) = (l.map S.v).headD 0 ∧ decide (l.headD 0 ≠ 0) = !(l.map S.v).isEmpty := by
  cases l with
  | nil => exact ⟨h.v0, rfl⟩
  | cons n l =>
    have := (h.ok.pos n (hl n (by simp))).1
    exact ⟨rfl, by simp; omega⟩
theorem Inv.root (h : Inv key S T q) : S.root < S.len := by
  rcases h.ok.root with e | e
  · rw [e]; exact h.l0
  · exact (h.ok.pos _ e).2
end
/-- as many as a tree of a depth has at least -/
def least : Nat → Nat
  | 0 => 0
  | 1 => 1
  | n + 2 => least (n + 1) + least n + 1
theorem least_mono : ∀ n, least n ≤ least (n + 1)
  | 0 => by decide
  | n + 1 => by show least (n + 1) ≤ least (n + 1) + least n + 1; omega
theorem least_size : ∀ T : Tr, Avl T → least T.ht ≤ T.size
  | .nil, _ => Nat.le_refl _
  | .nd i l r, h => by
    have h1 := least_size l h.2.2.1
    have h2 := least_size r h.2.2.2
    have a1 := h.1
    have a2 := h.2.1
    show least (max l.ht r.ht + 1) ≤ l.size + r.size + 1
    have hm : ∀ a b : Nat, a ≤ b → b ≤ a + 1 → least (b + 1) ≤ least a + least b + 1 := by
      intro a b h3 h4
      cases b with
      | zero => show 1 ≤ _; omega
      | succ b =>
        show least (b + 1) + least b + 1 ≤ _
        rcases Nat.lt_or_ge a (b + 1) with h5 | h5
        · have : a = b := by omega
          rw [this]; omega
        · have : a = b + 1 := by omega
          have := least_mono b
          rw [‹a = b + 1›]; omega
    rcases Nat.le_total l.ht r.ht with h3 | h3
    · rw [Nat.max_eq_right h3]; have := hm _ _ h3 a2; omega
    · rw [Nat.max_eq_left h3]; have := hm _ _ h3 a1; omega
theorem size_ht : ∀ T : Tr, T.size < 2 ^ T.ht
  | .nil => by decide
  | .nd i l r => by
    have h1 := size_ht l
    have h2 := size_ht r
    show l.size + r.size + 1 < 2 ^ (max l.ht r.ht + 1)
    have h3 : 2 ^ l.ht ≤ 2 ^ max l.ht r.ht := Nat.pow_le_pow_right (by decide) (by omega)
    have h4 : 2 ^ r.ht ≤ 2 ^ max l.ht r.ht := Nat.pow_le_pow_right (by decide) (by omega)
    rw [Nat.pow_succ]; omega
end Go.Proofs.Ytgdjihihjlbelaa

namespace Go.Proofs.Ytgdjihihjlbelaa
open Go.RowKit

/-- where a set of tens stands -/
structure Ss (B : Nat) (w : World) (t : Nat) (S : TS) (T : Tr) (q : Nat) (L : List Int) : Prop where
  m : TM2 w t S
  inv : Inv ten S T q
  ord : S.ord = .func (.func 9) #[] #[]
  lv : vals S T = L
  bt : B ≤ t
  bn : B ≤ S.nb
  bf : B ≤ S.fb
section
variable {B : Nat} {w : World} {t : Nat} {S : TS} {T : Tr} {q : Nat} {v : Value} {L : List Int}
theorem St.ss (h : St B w t S T q v L) : Ss B w t S T q L := ⟨h.m, h.inv, h.ord, h.lv, h.bt, h.bn, h.bf⟩
theorem Ss.ok (h : Ss B w t S T q L) : OrdOk S.ord cten := by rw [h.ord]; exact tens_ord
theorem Ss.of {w' : World} (h : Ss B w t S T q L) (hb : Below w.heap.size w w') : Ss B w' t S T q L := ⟨h.m.of hb, h.inv, h.ord, h.lv, h.bt, h.bn, h.bf⟩
theorem Ss.len (h : Ss B w t S T q L) : T.size = L.length := by rw [← h.lv]; unfold vals; rw [List.length_map, Tr.no_len]
theorem Ss.more (h : Ss B w t S T q L) : Ss B w t S T (q + 1) L := ⟨h.m, h.inv.more, h.ord, h.lv, h.bt, h.bn, h.bf⟩
theorem Ss.below {w' : World} {S' : TS} (h : Ss B w t S T q L) (hf : Fr t S S' w w') : Below B w w' :=
  ⟨hf.out.os, hf.out.tape, hf.out.output, hf.out.size, fun k hk => hf.out.block k (by have := h.m.m.blk.lt; have := h.bt; omega) (by have := h.bt; have := h.bn; have := h.bf; simp; omega)⟩
theorem Ss.fnd (h : Ss B w t S T q L) (x : Int) : (T.found (fun i => cten x (S.v i)) = 0 ∧ Proofs.Ytgdjihihjlbelaa.fnd x L = -1) ∨ (T.found (fun i => cten x (S.v i)) ≠ 0 ∧ 0 ≤ Proofs.Ytgdjihihjlbelaa.fnd x L) := by
  have hpos := fun n hn => (h.inv.ok.pos n hn).1
  by_cases h0 : T.found (fun i => cten x (S.v i)) = 0
  · left
    refine ⟨h0, fnd_none x L fun z hz => ?_⟩
    rw [← h.lv] at hz
    obtain ⟨n, hn, rfl⟩ := List.mem_map.1 hz
    have hnil := (zip_found (fun i => cten x (S.v i)) T [] hpos).1 h0
    have hp := zip_plug (fun i => cten x (S.v i)) T []
    have hs := zip_sides ordk_ten x T [] h.inv.srt (fun n hn => by cases hn) (fun n hn => by cases hn)
    rw [hnil] at hp
    have hn' : n ∈ (plug (zipOf (fun i => cten x (S.v i)) T []).1 .nil).no := by rw [hp]; exact hn
    rw [plug_split] at hn'
    rcases List.mem_append.1 hn' with hm | hm
    · rcases List.mem_append.1 hm with hm | hm
      · have := (ordk_ten x (S.v n)).2.1 (hs.1 n hm); omega
      · cases hm
    · have := (ordk_ten x (S.v n)).1.1 (hs.2 n hm); omega
  · right
    refine ⟨h0, ?_⟩
    obtain ⟨z, l, r, z1, z2, z3, z4, z5, z6, z7⟩ := found_split ordk_ten h.inv x _ rfl h0
    have hno : T.no = (pre z ++ l.no) ++ (T.found fun i => cten x (S.v i)) :: (r.no ++ post z) := by
      have : (plug z (.nd (T.found fun i => cten x (S.v i)) l r)).no = T.no := by rw [z2]
      rw [← this, plug_split, nd_no]; simp
    have hL : L = (pre z ++ l.no).map S.v ++ S.v (T.found fun i => cten x (S.v i)) :: (r.no ++ post z).map S.v := by
      rw [← h.lv]; unfold vals; rw [hno, List.map_append, List.map_cons]
    rw [hL, fnd_split x _ _ _ (fun u hu => by obtain ⟨m, hm, rfl⟩ := List.mem_map.1 hu; have := z6 m hm; omega) z5]
    omega
theorem Ss.put_new (h : Ss B w t S T q L) (x : Int) (hx : In64 x) (hq : q ≤ 400) (hf : Proofs.Ytgdjihihjlbelaa.fnd x L = -1) :
    Calls Try.prog 17 #[ptr t 0, .int .i64 x] w fun e w' => e = .returned (.bool true) ∧ (∃ S' T', Ss B w' t S' T' (q + 1) (insR x L)) ∧ Below B w w' := by
  have h0 : T.found (fun i => cten x (S.v i)) = 0 := by rcases h.fnd x with a | a; exact a.1; omega
  refine (Put_ok t ordk_ten h.inv x hx h0 hq w h.m h.ok).mono ?_
  rintro e w' ⟨rfl, S', ⟨T', P, Q, i1, i2, i3, i4, i5⟩, i6, i7, i8⟩
  have hs := h.m.m.blk.lt
  have h1 := i8.nb
  have h2 := i8.fb
  have h3 := h.bt
  have h4 := h.bn
  have h5 := h.bf
  refine ⟨rfl, ⟨S', T', i7, i1, i6.trans h.ord, ?_, h.bt, by omega, by omega⟩, h.below i8⟩
  have hL : L = P.map S.v ++ Q.map S.v := by rw [← h.lv]; unfold vals; rw [i2, List.map_append]
  rw [i5, hL, insR_split]
  · intro z hz; obtain ⟨m, hm, rfl⟩ := List.mem_map.1 hz; have := i3 m hm; omega
  · intro z hz; obtain ⟨m, hm, rfl⟩ := List.mem_map.1 hz; have := i4 m hm; omega
theorem Ss.put_old (h : Ss B w t S T q L) (x : Int) (hx : In64 x) (hq : q ≤ 400) (hf : 0 ≤ Proofs.Ytgdjihihjlbelaa.fnd x L) :
    Calls Try.prog 17 #[ptr t 0, .int .i64 x] w fun e w' => e = .returned (.bool false) ∧ Below w.heap.size w w' := by
  have h0 : T.found (fun i => cten x (S.v i)) ≠ 0 := by rcases h.fnd x with a | a; omega; exact a.1
  exact Put_old t S cten x T _ rfl h0 w h.m.m h.ok hx h.inv.ok.rep h.inv.v64 (by have := h.inv.sz; omega)
theorem Ss.next (h : Ss B w t S T q L) (x : Int) (hx : In64 x) :
    Calls Try.prog 22 #[ptr t 0, .int .i64 x] w fun e w' => e = .returned (.tuple #[.int .i64 ((L.find? fun y => decide (ten x < ten y)).getD 0), .bool (L.find? fun y => decide (ten x < ten y)).isSome]) ∧ Below w.heap.size w w' := by
  have e := h.inv.next ordk_ten x
  rw [h.lv] at e
  have := Next_is t S cten x T _ rfl _ rfl _ e.2 w h.m.m h.ok hx h.inv.l0 h.inv.ok.rep h.inv.v64
  rwa [e.1] at this
theorem Ss.prev (h : Ss B w t S T q L) (x : Int) (hx : In64 x) :
    Calls Try.prog 23 #[ptr t 0, .int .i64 x] w fun e w' => e = .returned (.tuple #[.int .i64 ((L.reverse.find? fun y => decide (ten y < ten x)).getD 0), .bool (L.reverse.find? fun y => decide (ten y < ten x)).isSome]) ∧ Below w.heap.size w w' := by
  have e := h.inv.prev ordk_ten x
  rw [h.lv] at e
  have := Prev_is t S cten x T _ rfl _ rfl _ e.2 w h.m.m h.ok hx h.inv.l0 h.inv.ok.rep h.inv.v64
  rwa [e.1] at this
theorem Ss.first (h : Ss B w t S T q L) (hq : q ≤ 400) :
    Calls Try.prog 24 #[ptr t 0] w fun e w' => e = .returned (.tuple #[.int .i64 (L.headD 0), .bool (!L.isEmpty)]) ∧ Below w.heap.size w w' := by
  have e := head_val h.inv T.no (fun _ hn => hn)
  have e3 : T.no.map S.v = L := h.lv
  rw [e3, ← end0_no] at e
  have hnl : ((T.down0).getD ((T.down0).length - 1) (0, 0)).1 < S.len := by
    rw [end0_no]
    cases hl : T.no with
    | nil => exact h.inv.l0
    | cons n l => exact (h.inv.ok.pos n (by rw [hl]; simp)).2
  have := First_is t S T _ rfl _ e.2 w h.m.m h.inv.l0 h.inv.ok.rep hnl (by have := h.inv.sz; omega)
  rwa [e.1] at this
theorem Ss.last (h : Ss B w t S T q L) (hq : q ≤ 400) :
    Calls Try.prog 25 #[ptr t 0] w fun e w' => e = .returned (.tuple #[.int .i64 (L.reverse.headD 0), .bool (!L.isEmpty)]) ∧ Below w.heap.size w w' := by
  have e := head_val h.inv T.no.reverse (fun _ hn => by simpa using hn)
  have e3 : T.no.reverse.map S.v = L.reverse := by rw [List.map_reverse]; exact congrArg _ h.lv
  rw [e3, ← end1_no, List.isEmpty_reverse] at e
  have hnl : ((T.down1).getD ((T.down1).length - 1) (0, 0)).1 < S.len := by
    rw [end1_no]
    cases hl : T.no.reverse with
    | nil => exact h.inv.l0
    | cons n l => exact (h.inv.ok.pos n (by rw [← List.mem_reverse, hl]; simp)).2
  have := Last_is t S T _ rfl _ e.2 w h.m.m h.inv.l0 h.inv.ok.rep hnl (by have := h.inv.sz; omega)
  rwa [e.1] at this
theorem Ss.check (h : Ss B w t S T q L) (hq : q ≤ 400) :
    Calls Try.prog 19 #[ptr t 0] w fun e w' => e = .returned (.bool true) ∧ TM2 w' t S ∧ Fr t S S w w' := h.inv.check ordk_ten hq t w h.m h.ok
theorem Ss.tall (h : Ss B w t S T q L) (n : Int) (hn : n = L.length) :
    Calls Try.prog 20 #[ptr t 0] w fun e w' => e = .returned (.int .i64 n) ∧ Below w.heap.size w w' := by
  have e : S.n = n := by rw [h.inv.n, h.len, hn]
  rw [← e]; exact Len_is t S w h.m.m
theorem Ss.deep (h : Ss B w t S T q L) (d : Int) (hd : d = T.ht) :
    Calls Try.prog 12 #[ptr t 0] w fun e w' => e = .returned (.int .i64 d) ∧ Below w.heap.size w w' := by
  have e : S.d S.root = d := by rw [Ok.d h.inv.d0 h.inv.ok, hd]
  rw [← e]; exact Deep_is t S w h.m.m h.inv.root
theorem Ss.new (nb : Nat) (hm : TM2 w t (TS.new (.func (.func 9) #[] #[]) nb)) (ht : B ≤ t) (hn : B ≤ nb) : Ss B w t (TS.new (.func (.func 9) #[] #[]) nb) .nil 0 [] := by
  refine ⟨hm, ⟨rfl, trivial, List.nodup_nil, Nat.zero_lt_one, rfl, rfl, ?_, ?_, ?_, ?_, rfl, List.Pairwise.nil, ?_, Nat.le_refl _, Nat.le_refl _, Nat.le_refl _⟩, rfl, rfl, ht, hn, hn⟩
  · intro i hi s hs; exact Nat.zero_lt_one
  · intro i hi; exact ⟨by show (0 : Int) ≤ 0; omega, by show (0 : Int) ≤ _; omega⟩
  · intro j hj; exact absurd hj (Nat.not_lt_zero _)
  · intro i j hi; exact absurd hi (Nat.not_lt_zero _)
  · intro i hi; show In64 0; unfold In64; omega
end
end Go.Proofs.Ytgdjihihjlbelaa

namespace Go.Proofs.Ytgdjihihjlbelaa
open Go.RowKit

theorem deep3 {T : Tr} (ha : Avl T) (hs : T.size = 3) : T.ht = 2 := by
  have h1 := least_size T ha
  have h2 := size_ht T
  rw [hs] at h1 h2
  have h3 : T.ht < 3 := by
    rcases Nat.lt_or_ge T.ht 3 with h | h
    · exact h
    · exfalso
      have hm : ∀ a b, a ≤ b → least a ≤ least b := by
        intro a b hab
        induction hab with
        | refl => exact Nat.le_refl _
        | step _ ih => exact Nat.le_trans ih (least_mono _)
      have := hm 3 _ h
      have h4 : least 3 = 4 := rfl
      omega
  have h5 : ¬ T.ht = 0 := fun h => by rw [h] at h2; omega
  have h6 : ¬ T.ht = 1 := fun h => by rw [h] at h2; omega
  omega
set_option maxRecDepth 100000 in
set_option maxHeartbeats 2000000 in
theorem awake_is (w : World) :
    Calls Try.prog 10 #[] w fun e w' => e = .returned (.bool true) ∧ Below w.heap.size w w' := by
  go_enter Try.func10, Try.ntmps10
  go_wp2_with fail
  refine (New_is 9 w).mono ?_
  rintro e W1 ⟨t, nb, rfl, hm, ht, hnb, hb1⟩
  have S0 := Lib.hid (Ss.new (B := w.heap.size) nb hm ht hnb)
  have z1 := hb1.size
  clear hm
  go_wp2_with fail
  refine (S0.out.put_new 50 (by unfold In64; omega) (by omega) rfl).mono ?_
  rintro e W2 ⟨rfl, ⟨S1, T1, hs⟩, hb⟩
  have hb2 := hb1.trans hb
  have S1' := Lib.hid hs
  clear hs hb hb1 S0 z1
  go_wp2_with fail
  refine (S1'.out.put_new 30 (by unfold In64; omega) (by omega) (by decide)).mono ?_
  rintro e W3 ⟨rfl, ⟨S2, T2, hs⟩, hb⟩
  have hb3 := hb2.trans hb
  have S2' := Lib.hid hs
  clear hs hb hb2 S1'
  go_wp2_with fail
  refine (S2'.out.put_new 80 (by unfold In64; omega) (by omega) (by decide)).mono ?_
  rintro e W4 ⟨rfl, ⟨S3, T3, hs⟩, hb⟩
  have hb4 := hb3.trans hb
  have eL : insR 80 (insR 30 (insR 50 [])) = [30, 50, 80] := by decide
  rw [eL] at hs
  have S3' := Lib.hid hs
  clear hs hb hb3 S2' eL
  go_wp2_with fail
  refine (S3'.out.put_old 55 (by unfold In64; omega) (by omega) (by decide)).mono ?_
  rintro e W5 ⟨rfl, hb⟩
  have S4 := Lib.hid (S3'.out.of hb)
  have hb5 := hb4.trans (hb.mono hb4.size)
  clear hb hb4 S3'
  go_wp2_with fail
  refine (S4.out.next 50 (by unfold In64; omega)).mono ?_
  rintro e W6 ⟨he, hb⟩
  have he' : e = .returned (.tuple #[.int .i64 80, .bool true]) := he
  subst he'
  have S5 := Lib.hid (S4.out.of hb)
  have hb6 := hb5.trans (hb.mono hb5.size)
  clear hb hb5 S4 he
  go_wp2_with fail
  refine (S5.out.next 40 (by unfold In64; omega)).mono ?_
  rintro e W7 ⟨he, hb⟩
  have he' : e = .returned (.tuple #[.int .i64 50, .bool true]) := he
  subst he'
  have S6 := Lib.hid (S5.out.of hb)
  have hb7 := hb6.trans (hb.mono hb6.size)
  clear hb hb6 S5 he
  go_wp2_with fail
  refine (S6.out.tall 3 rfl).mono ?_
  rintro e W8 ⟨rfl, hb⟩
  have S7 := Lib.hid (S6.out.of hb)
  have hb8 := hb7.trans (hb.mono hb7.size)
  clear hb hb7 S6
  go_wp2_with fail
  refine (S7.out.check (by omega)).mono ?_
  rintro e W9 ⟨rfl, hm, hf⟩
  have S8 := Lib.hid (show Ss w.heap.size W9 t S3 T3 _ _ from ⟨hm, S7.out.inv, S7.out.ord, S7.out.lv, S7.out.bt, S7.out.bn, S7.out.bf⟩)
  have hb9 := hb8.trans (S7.out.below hf)
  clear hm hf hb8 S7
  go_wp2_with fail
  refine (S8.out.deep 2 (by rw [deep3 S8.out.inv.avl S8.out.len]; rfl)).mono ?_
  rintro e W10 ⟨rfl, hb⟩
  have hb10 := hb9.trans (hb.mono hb9.size)
  clear hb hb9 S8
  go_wp2
  go_ret
  exact ⟨rfl, hb10⟩
end Go.Proofs.Ytgdjihihjlbelaa

namespace Go.Proofs.Ytgdjihihjlbelaa
open Go.RowKit

/-- a slice of calls -/
structure Ops (w : World) (ao : Option Addr) (n cap : Nat) (K X : Nat → Int) : Prop where
  ptr : 0 < n → ∃ a, ao = some a ∧ a.block < w.heap.size ∧ ∀ i, i < n → w.cell? (a.add (i * 2)) = some (.int .i64 (K i)) ∧ w.cell? ((a.add (i * 2)).add 1) = some (.int .i64 (X i))
  capl : n ≤ cap
  capb : cap ≤ 9223372036854775807
  x64 : ∀ i, i < n → In64 (X i)
theorem Ops.at {w wr : World} {ao : Option Addr} {n cap : Nat} {K X : Nat → Int} (h : Ops w ao n cap K X) (hb : Below w.heap.size w wr) {i : Nat} (hi : i < n) :
    ∃ a, ao = some a ∧ wr.cell? (a.add (i * 2)) = some (.int .i64 (K i)) ∧ wr.cell? { block := (a.add (i * 2)).block, off := (a.add (i * 2)).off + 1 } = some (.int .i64 (X i)) ∧ In64 (X i) := by
  obtain ⟨a, h1, h2, h3⟩ := h.ptr (by omega)
  have e1 : ∀ k, (a.add k).block = a.block := fun k => by unfold Addr.add; split <;> rfl
  have e2 : ∀ k l, ((a.add k).add l).block = a.block := fun k l => by unfold Addr.add; split <;> split <;> rfl
  refine ⟨a, h1, ?_, ?_, h.x64 i hi⟩
  · rw [hb.cell (by rw [e1]; exact h2)]; exact (h3 i hi).1
  · have : wr.cell? ((a.add (i * 2)).add 1) = some (.int .i64 (X i)) := by rw [hb.cell (by rw [e2]; exact h2)]; exact (h3 i hi).2
    exact this
theorem St.new {B : Nat} {w : World} {t : Nat} (nb : Nat) (hm : TM2 w t (TS.new (.func (.func 9) #[] #[]) nb)) (ht : B ≤ t) (hn : B ≤ nb) :
    St B w t (TS.new (.func (.func 9) #[] #[]) nb) .nil 0 (.slice none 0 0) [] := by
  have h := Ss.new nb hm ht hn
  exact ⟨h.m, h.inv, h.ord, IL.nil _ _, h.lv, (fun k hk => absurd (hk : (none : Option Nat) = some k) nofun), h.bt, h.bn, h.bf⟩
end Go.Proofs.Ytgdjihihjlbelaa

namespace Go.Proofs.Ytgdjihihjlbelaa
open Go.RowKit Go.Shelf
attribute [local go_sem] Oper.semAt_some

theorem St.val {B : Nat} {w : World} {t : Nat} {S : TS} {T : Tr} {q : Nat} {v : Value} {L : List Int} (h : St B w t S T q v L) {k : Nat} (hk : k < T.size) : L[k]? = some (S.v (T.ino.getD k 0)) := by
  rw [← h.lv, ← no_ino]; unfold vals
  have hl : k < T.no.length := by rw [Tr.no_len]; exact hk
  rw [List.getElem?_map, List.getD_eq_getElem?_getD, List.getElem?_eq_getElem hl]; rfl
end Go.Proofs.Ytgdjihihjlbelaa

namespace Go.Proofs.Ytgdjihihjlbelaa
open Go.RowKit

theorem one_is (x : Int) (ok : Bool) (w : World) :
    Calls Try.prog 21 #[.int .i64 x, .bool ok] w fun e w' => e = .returned (.func (.func 40) #[] #[ptr (w.heap.size + 1) 0, ptr w.heap.size 0]) ∧ Blk w' w.heap.size #[.int .i64 x] 3 ∧ Blk w' (w.heap.size + 1) #[.bool ok] 4 ∧ Below w.heap.size w w' := by
  go_enter Try.func21, Try.ntmps21
  go_wp2
  go_ret
  exact ⟨rfl, (Blk.new _ _ _).alloc _, Blk.new1 _ _ _ _, below_a2 _ _ _⟩
theorem run_one1 : ∀ args w, (callFunc 40 args).run Try.prog w = .ok (.enter 40 args) w := fun args w => by go_simp
theorem one1_some (bn bo : Nat) (x : Int) (a : Addr) (cap : Nat) (w : World) (h1 : Blk w bn #[.int .i64 x] 3) (h2 : Blk w bo #[.bool true] 4) (h3 : w.cell? a = some (.int .i64 x)) :
    Calls Try.prog 40 #[.slice (some a) 1 cap, ptr bo 0, ptr bn 0] w fun e w' => e = .returned (.bool true) ∧ Below w.heap.size w w' := by
  have c1 := h1.cell 0
  have c2 := h2.cell 0
  have h3' : w.cell? (a.add 0) = some (.int .i64 x) := by rw [show a.add 0 = a by cases a; unfold Addr.add; split <;> simp_all]; exact h3
  simp only [List.getElem?_toArray, List.getElem?_cons_zero] at c1 c2
  clear h1 h2
  go_enter Try.func40, Try.ntmps40
  go_wp2
  go_region
  go_wp2
  go_ret
  exact ⟨rfl, (Below.refl _ _).drew⟩
theorem one1_none (bn bo : Nat) (ao : Option Addr) (cap : Nat) (w : World) (h1 : Blk w bn #[.int .i64 0] 3) (h2 : Blk w bo #[.bool false] 4) :
    Calls Try.prog 40 #[.slice ao 0 cap, ptr bo 0, ptr bn 0] w fun e w' => e = .returned (.bool true) ∧ Below w.heap.size w w' := by
  have c1 := h1.cell 0
  have c2 := h2.cell 0
  simp only [List.getElem?_toArray, List.getElem?_cons_zero] at c1 c2
  clear h1 h2
  go_enter Try.func40, Try.ntmps40
  go_wp2
  go_region
  go_wp2
  go_ret
  exact ⟨rfl, (Below.refl _ _).drew⟩
end Go.Proofs.Ytgdjihihjlbelaa

namespace Go.Proofs.Ytgdjihihjlbelaa
open Go.RowKit

/-- a slice of one number or none -/
def Sl1 (w : World) (v : Value) (o : Option Int) : Prop := ∃ ao n cap, v = .slice ao n cap ∧ ((o = none ∧ n = 0) ∨ ∃ a y, o = some y ∧ ao = some a ∧ n = 1 ∧ a.block < w.heap.size ∧ w.cell? a = some (.int .i64 y))
theorem Sl1.of {w w' : World} {v : Value} {o : Option Int} (h : Sl1 w v o) (hb : Below w.heap.size w w') : Sl1 w' v o := by
  obtain ⟨ao, n, cap, rfl, h | ⟨a, y, h1, h2, h3, h4, h5⟩⟩ := h
  · exact ⟨ao, n, cap, rfl, .inl h⟩
  · exact ⟨ao, n, cap, rfl, .inr ⟨a, y, h1, h2, h3, Nat.lt_of_lt_of_le h4 hb.size, (hb.cell h4).trans h5⟩⟩
theorem IL.sl1 {w : World} {base : Nat} {v : Value} {o : Option Int} (h : IL w base v o.toList) : Sl1 w v o := by
  obtain ⟨a, cap, rfl, h1, h2, h3⟩ := h.val
  cases o with
  | none => exact ⟨a, 0, cap, rfl, .inl ⟨rfl, rfl⟩⟩
  | some y =>
    obtain ⟨g, rfl, h4, h5, h6⟩ := h3 (by show 0 < 1; omega)
    exact ⟨_, 1, cap, rfl, .inr ⟨_, y, rfl, rfl, rfl, h4, h6 0 (by show 0 < 1; omega)⟩⟩
theorem one1_opt (bn bo : Nat) (o : Option Int) (v : Value) (w : World) (h1 : Blk w bn #[.int .i64 (o.getD 0)] 3) (h2 : Blk w bo #[.bool o.isSome] 4) (h3 : Sl1 w v o) :
    Calls Try.prog 40 #[v, ptr bo 0, ptr bn 0] w fun e w' => e = .returned (.bool true) ∧ Below w.heap.size w w' := by
  obtain ⟨ao, n, cap, rfl, ⟨rfl, rfl⟩ | ⟨a, y, rfl, rfl, rfl, h4, h5⟩⟩ := h3
  · exact one1_none bn bo ao cap w h1 h2
  · exact one1_some bn bo y a cap w h1 h2 h5
def nxt (x : Int) (L : List Int) : Option Int := L.find? fun y => decide (ten x < ten y)
def prv (x : Int) (L : List Int) : Option Int := L.reverse.find? fun y => decide (ten y < ten x)
theorem nxt_step (x y : Int) (A : List Int) : nxt x (A ++ [y]) = if nxt x A = none ∧ ten x < ten y then some y else nxt x A := by
  unfold nxt
  rw [List.find?_append]
  cases h : A.find? fun y => decide (ten x < ten y) with
  | some u => simp
  | none =>
    by_cases hy : ten x < ten y
    · rw [List.find?_cons_of_pos (by simpa using hy)]; simp [hy]
    · rw [List.find?_cons_of_neg (by simpa using hy)]; simp [hy]
theorem prv_step (x y : Int) (A : List Int) : prv x (A ++ [y]) = if ten y < ten x then some y else prv x A := by
  unfold prv
  rw [List.reverse_append, List.reverse_cons, List.reverse_nil, List.nil_append, List.singleton_append]
  by_cases hy : ten y < ten x
  · rw [List.find?_cons_of_pos (by simpa using hy), if_pos hy]
  · rw [List.find?_cons_of_neg (by simpa using hy), if_neg hy]
theorem Ss.nxt {B : Nat} {w : World} {t : Nat} {S : TS} {T : Tr} {q : Nat} {L : List Int} (h : Ss B w t S T q L) (x : Int) (hx : In64 x) :
    Calls Try.prog 22 #[ptr t 0, .int .i64 x] w fun e w' => e = .returned (.tuple #[.int .i64 ((Proofs.Ytgdjihihjlbelaa.nxt x L).getD 0), .bool (Proofs.Ytgdjihihjlbelaa.nxt x L).isSome]) ∧ Below w.heap.size w w' := h.next x hx
theorem Ss.prv {B : Nat} {w : World} {t : Nat} {S : TS} {T : Tr} {q : Nat} {L : List Int} (h : Ss B w t S T q L) (x : Int) (hx : In64 x) :
    Calls Try.prog 23 #[ptr t 0, .int .i64 x] w fun e w' => e = .returned (.tuple #[.int .i64 ((Proofs.Ytgdjihihjlbelaa.prv x L).getD 0), .bool (Proofs.Ytgdjihihjlbelaa.prv x L).isSome]) ∧ Below w.heap.size w w' := h.prev x hx
theorem Ss.fst {B : Nat} {w : World} {t : Nat} {S : TS} {T : Tr} {q : Nat} {L : List Int} (h : Ss B w t S T q L) (hq : q ≤ 400) :
    Calls Try.prog 24 #[ptr t 0] w fun e w' => e = .returned (.tuple #[.int .i64 (L.head?.getD 0), .bool L.head?.isSome]) ∧ Below w.heap.size w w' := by
  have := h.first hq
  cases L <;> exact this
theorem Ss.lst {B : Nat} {w : World} {t : Nat} {S : TS} {T : Tr} {q : Nat} {L : List Int} (h : Ss B w t S T q L) (hq : q ≤ 400) :
    Calls Try.prog 25 #[ptr t 0] w fun e w' => e = .returned (.tuple #[.int .i64 (L.getLast?.getD 0), .bool L.getLast?.isSome]) ∧ Below w.heap.size w w' := by
  have h1 := h.last hq
  have e1 : L.reverse.headD 0 = L.getLast?.getD 0 := by rw [← List.head?_reverse, List.headD_eq_head?_getD]
  have e2 : (!L.isEmpty) = L.getLast?.isSome := by cases L <;> simp
  rwa [e1, e2] at h1
set_option maxRecDepth 100000 in
set_option maxHeartbeats 2000000 in
theorem AvlNear_any (ao : Option Addr) (n cap : Nat) (K X : Nat → Int) (x : Int) (w : World) (h : Ops w ao n cap K X) (hx64 : In64 x) :
    Calls Try.prog 6 #[.slice ao n cap, .int .i64 x] w fun e w' => e = .returned (.bool true) ∧ Below w.heap.size w w' := by
  have hcl := h.capl
  have hcb := h.capb
  have HO := Lib.hid h
  clear h
  go_enter Try.func6, Try.ntmps6
  go_wp2_with fail
  refine (New_is 9 w).mono ?_
  rintro e W1 ⟨t, nb, rfl, hm, ht, hnb, hb1⟩
  have S0 := Lib.hid (St.new (B := w.heap.size) nb hm ht hnb)
  clear hm
  by_cases hbig : 150 < n
  · go_wp2_with fail
    refine (awake_is W1).mono ?_
    rintro e W2 ⟨rfl, hb⟩
    have hb2 := hb1.trans (hb.mono hb1.size)
    clear hb hb1 S0
    go_wp2
    go_ret
    exact ⟨rfl, hb2⟩
  · go_wp2_with fail
    go_loopg [6, 30] n (fun gk s6 s30 wr => ∃ (i : Nat) (L : List Int) (S : TS) (T : Tr), s30 = .int .i64 i ∧ i ≤ n ∧ n - i ≤ gk ∧ Hid (St w.heap.size wr t S T i s6 L) ∧ Below w.heap.size w wr)
    case atStart => exact ⟨0, [], _, _, rfl, Nat.zero_le _, by omega, S0, hb1⟩
    case round =>
      obtain ⟨i, L, S, T, rfl, hi, hg, hS, hb⟩ := hrel
      by_cases hlt : i < n
      · obtain ⟨a, rfl, o0, o1, hx⟩ := HO.out.at hb hlt
        have hi200 : i ≤ 400 := by omega
        clear S0
        go_wp2_with fail
        refine calls_w ?_
        intro V hV
        have hbV : Below wr.heap.size wr V := by rw [hV]; exact below_a1 _ _
        have S1 := Lib.hid (hS.out.of hbV)
        have hb2 := hb.trans (hbV.mono hb.size)
        clear hV hbV hS o0 o1
        refine (step_is w.heap.size t S T i u6 L (K i) (X i) V S1.out hx hi200 hb2.size).mono ?_
        rintro e W2 ⟨v', L', S', T', rfl, hs, hn, _⟩
        have S2 := Lib.hid hs
        have hb3 := hb2.trans hn
        clear hs hn hb2 S1 hb
        go_wp2_with fail
        go_roundg (n - (i + 1))
        case measure => omega
        case rel => exact ⟨i + 1, L', S', T', by norm_cast, by omega, Nat.le_refl _, S2, hb3⟩
      · clear S0
        have hi4 : i ≤ 400 := by omega
        obtain ⟨al, lc, rfl, v1, v2, v3⟩ := hS.out.il.val
        obtain ⟨m, hm⟩ : ∃ m, L.length = m := ⟨_, rfl⟩
        have hm4 : m ≤ 400 := by have := hS.out.len; have := hS.out.inv.sz; omega
        rw [hm] at v1
        have HM := Lib.hid hm
        have H64 := Lib.hid hS.out.l64
        rw [hm]
        clear hm v3
        go_wp2_with fail
        go_loopg [9, 10, 44] m (fun gk2 s9 s10 s44 w2 => ∃ k : Nat, s44 = .int .i64 k ∧ k ≤ m ∧ m - k ≤ gk2 ∧ Hid (IL w2 w.heap.size s9 (nxt x (L.take k)).toList) ∧ Hid (nxt x (L.take k) = none → s9 = .slice none 0 0) ∧ Hid (Sl1 w2 s10 (prv x (L.take k))) ∧ Hid (St w.heap.size w2 t S T i (.slice al L.length lc) L) ∧ Below w.heap.size w w2)
        case atStart => exact ⟨0, rfl, Nat.zero_le _, by omega, Lib.hid (IL.nil _ _), Lib.hid (fun _ => rfl), Lib.hid ⟨none, 0, 0, rfl, .inl ⟨rfl, rfl⟩⟩, hS, hb⟩
        case round =>
          clear hS hb
          obtain ⟨k, rfl, hk, hg2, hN, hZ, hP, hS, hb⟩ := hrel
          by_cases hlt2 : k < m
          · have hkL : k < L.length := by rw [HM.out]; exact hlt2
            obtain ⟨al2, lc2, e6, e7, e8, e9⟩ := hS.out.il.val
            obtain ⟨rfl, rfl⟩ : al = al2 ∧ lc = lc2 := by injection e6 with a1 a2 a3; exact ⟨a1, a3⟩
            obtain ⟨g, rfl, hgl, hgb, hcell⟩ := e9 (by omega)
            obtain ⟨y, hy0, hy1, hy2, hy3⟩ := cell_at hcell (k := k) hkL
            have hy64 : In64 y := H64.out y (List.mem_of_getElem? hy0)
            have e1 : L.take (k + 1) = L.take k ++ [y] := by
              rw [List.take_succ_eq_append_getElem hkL]
              rw [List.getElem?_eq_getElem hkL] at hy0; rw [Option.some.inj hy0]
            have eN := nxt_step x y (L.take k)
            have eP := prv_step x y (L.take k)
            rw [← e1] at eN eP
            obtain ⟨N, hNe⟩ : ∃ N, nxt x (L.take k) = N := ⟨_, rfl⟩
            obtain ⟨Pv, hPe⟩ : ∃ P, prv x (L.take k) = P := ⟨_, rfl⟩
            rw [hNe] at hN eN hZ
            rw [hPe] at hP eP
            clear e6 e7 e8 e9 hcell hy0 hy1 hy2 e1 hNe hPe
            obtain ⟨pa, pn, pc, rfl, hp⟩ := hP.out
            have HP := Lib.hid (show Sl1 _ _ _ from ⟨pa, pn, pc, rfl, hp⟩)
            clear hp hP
            by_cases hA : ten x < ten y
            · have hc : cten y x = 1 := by unfold cten; rw [if_neg (by omega), if_pos hA]
              rw [if_neg (by omega)] at eP
              have HC := Lib.hid hc
              have HEP := Lib.hid eP
              cases N with
              | none =>
                rw [if_pos ⟨rfl, hA⟩] at eN
                have HEN := Lib.hid eN
                clear eN eP hc hA
                have hz := hZ.out rfl
                subst hz
                go_wp2_with fail
                refine (tens_is y x hy64 hx64 _).mono ?_
                rintro e W2 ⟨rfl, hn⟩
                rw [HC.out]
                have hN2 := Lib.hid (hN.out.of hn)
                have HP2 := Lib.hid (HP.out.of hn)
                have S2 := Lib.hid (hS.out.of hn)
                have hb2 := hb.trans (hn.mono hb.size)
                clear hn hN HP hS hb
                obtain ⟨i0, hi', hz0, hz1, hz2⟩ := info_parts info_int
                go_wp2_with (at_builtin; refine wpList_append_own _ rfl _ _ 27 rfl w.heap.size 3 i0 (.int .i64 0) 1 8 Try.underlying27 hi' hz0 hz1 hz2 rfl (by decide) _ 0 [] rfl (hN2.out.of ((Below.refl _ _).alloc (Nat.le_refl _) _)) ⟨W2.heap.size, 0, none⟩ 1 1 [.int .i64 y] rfl rfl ?c1 ?c2 ?c3 ?c4 ?c5 ?_)
                case c1 =>
                  intro k u hk
                  match k, hk with
                  | 0, hk => simp at hk; subst hk; rw [addz]; exact cell_newz rfl _ _
                case c2 => intro u hu; simp at hu; subst hu; rfl
                case c3 => unfold maxLen; omega
                case c4 => omega
                case c5 => have := hb2.size; simp; omega
                intro v1 w5 own1 gr1 _
                have hn : Below W2.heap.size W2 w5 := ((Below.refl _ _).alloc (Nat.le_refl _) _).grown gr1 (by simp) (fun k hk => by cases hk)
                have O5 : Hid (IL w5 w.heap.size v1 (some y).toList) := own1
                have HP5 := Lib.hid (HP2.out.of hn)
                have S5 := Lib.hid (S2.out.of hn)
                have hb5 := hb2.trans (hn.mono hb2.size)
                clear own1 gr1 hn hN2 HP2 S2 hb2
                go_wp2_with fail
                refine (tens_is y x hy64 hx64 _).mono ?_
                rintro e W3 ⟨rfl, hn⟩
                rw [HC.out]
                have hN3 := Lib.hid (O5.out.of hn)
                have HP3 := Lib.hid (HP5.out.of hn)
                have S3 := Lib.hid (S5.out.of hn)
                have hb3 := hb5.trans (hn.mono hb5.size)
                clear hn O5 HP5 S5 hb5
                go_wp2_with fail
                go_roundg (m - (k + 1))
                case measure => omega
                case rel => exact ⟨k + 1, by norm_cast, by omega, Nat.le_refl _, by rw [HEN.out]; exact hN3, Lib.hid (fun h => by rw [HEN.out] at h; cases h), by rw [HEP.out]; exact HP3, S3, hb3⟩
              | some u =>
                rw [if_neg (by rintro ⟨h, _⟩; cases h)] at eN
                have HEN := Lib.hid eN
                clear eN eP hc hA
                obtain ⟨an, cn, rfl, n1, n2, n3⟩ := hN.out.val
                replace n1 : 1 ≤ cn := n1
                clear n3
                go_wp2_with fail
                refine (tens_is y x hy64 hx64 _).mono ?_
                rintro e W2 ⟨rfl, hn⟩
                rw [HC.out]
                have hN2 := Lib.hid (hN.out.of hn)
                have HP2 := Lib.hid (HP.out.of hn)
                have S2 := Lib.hid (hS.out.of hn)
                have hb2 := hb.trans (hn.mono hb.size)
                clear hn hN HP hS hb
                go_wp2_with fail
                refine (tens_is y x hy64 hx64 _).mono ?_
                rintro e W3 ⟨rfl, hn⟩
                rw [HC.out]
                have hN3 := Lib.hid (hN2.out.of hn)
                have HP3 := Lib.hid (HP2.out.of hn)
                have S3 := Lib.hid (S2.out.of hn)
                have hb3 := hb2.trans (hn.mono hb2.size)
                clear hn hN2 HP2 S2 hb2
                go_wp2_with fail
                go_roundg (m - (k + 1))
                case measure => omega
                case rel => exact ⟨k + 1, by norm_cast, by omega, Nat.le_refl _, by rw [HEN.out]; exact hN3, Lib.hid (fun h => by rw [HEN.out] at h; cases h), by rw [HEP.out]; exact HP3, S3, hb3⟩
            · rw [if_neg (fun h => hA h.2)] at eN
              have HEN := Lib.hid eN
              by_cases hB : ten y < ten x
              · have hc : cten y x = -1 := by unfold cten; rw [if_pos hB]
                rw [if_pos hB] at eP
                have HC := Lib.hid hc
                have HEP := Lib.hid eP
                clear eN eP hc hA hB
                go_wp2_with fail
                refine (tens_is y x hy64 hx64 _).mono ?_
                rintro e W2 ⟨rfl, hn⟩
                rw [HC.out]
                have hN2 := Lib.hid (hN.out.of hn)
                have HP2 := Lib.hid (HP.out.of hn)
                have S2 := Lib.hid (hS.out.of hn)
                have hb2 := hb.trans (hn.mono hb.size)
                clear hn hN HP hS hb
                go_wp2_with fail
                refine (tens_is y x hy64 hx64 _).mono ?_
                rintro e W3 ⟨rfl, hn⟩
                rw [HC.out]
                have hN3 := Lib.hid (hN2.out.of hn)
                have HP3 := Lib.hid (HP2.out.of hn)
                have S3 := Lib.hid (S2.out.of hn)
                have hb3 := hb2.trans (hn.mono hb2.size)
                clear hn hN2 HP2 S2 hb2
                go_wp2_with fail
                have hn : Below W3.heap.size W3 (W3.alloc (.cells #[.int .i64 y] 3)) := below_a1 _ _
                have hN4 := Lib.hid (hN3.out.of hn)
                have S4 := Lib.hid (S3.out.of hn)
                have hb4 := hb3.trans (hn.mono hb3.size)
                have HP4 : Hid (Sl1 (W3.alloc (.cells #[.int .i64 y] 3)) (.slice (some ⟨W3.heap.size, 0, none⟩) 1 1) (some y)) := Lib.hid ⟨_, 1, 1, rfl, .inr ⟨_, y, rfl, rfl, rfl, (Blk.new W3 _ _).lt, (Blk.new W3 _ _).cell 0⟩⟩
                go_roundg (m - (k + 1))
                case measure => omega
                case rel => exact ⟨k + 1, by norm_cast, by omega, Nat.le_refl _, by rw [HEN.out]; exact hN4, by rw [HEN.out]; exact hZ, by rw [HEP.out]; exact HP4, S4, hb4⟩
              · have hc : cten y x = 0 := by unfold cten; rw [if_neg hB, if_neg hA]
                rw [if_neg hB] at eP
                have HC := Lib.hid hc
                have HEP := Lib.hid eP
                clear eN eP hc hA hB
                go_wp2_with fail
                refine (tens_is y x hy64 hx64 _).mono ?_
                rintro e W2 ⟨rfl, hn⟩
                rw [HC.out]
                have hN2 := Lib.hid (hN.out.of hn)
                have HP2 := Lib.hid (HP.out.of hn)
                have S2 := Lib.hid (hS.out.of hn)
                have hb2 := hb.trans (hn.mono hb.size)
                clear hn hN HP hS hb
                go_wp2_with fail
                refine (tens_is y x hy64 hx64 _).mono ?_
                rintro e W3 ⟨rfl, hn⟩
                rw [HC.out]
                have hN3 := Lib.hid (hN2.out.of hn)
                have HP3 := Lib.hid (HP2.out.of hn)
                have S3 := Lib.hid (S2.out.of hn)
                have hb3 := hb2.trans (hn.mono hb2.size)
                clear hn hN2 HP2 S2 hb2
                go_wp2_with fail
                go_roundg (m - (k + 1))
                case measure => omega
                case rel => exact ⟨k + 1, by norm_cast, by omega, Nat.le_refl _, by rw [HEN.out]; exact hN3, by rw [HEN.out]; exact hZ, by rw [HEP.out]; exact HP3, S3, hb3⟩
          · have hkm : k = m := by omega
            subst hkm
            have eT : L.take k = L := List.take_of_length_le (by rw [HM.out]; omega)
            rw [eT] at hN hP
            have HN := Lib.hid (hN.out.sl1)
            clear hN hZ eT
            by_cases h0 : 0 < k
            · obtain ⟨al2, lc2, e6, e7, e8, e9⟩ := hS.out.il.val
              obtain ⟨rfl, rfl⟩ : al = al2 ∧ lc = lc2 := by injection e6 with a1 a2 a3; exact ⟨a1, a3⟩
              obtain ⟨g, rfl, hgl, hgb, hcell⟩ := e9 (by rw [HM.out]; exact h0)
              have F1 : Hid (Sl1 wr (.slice (some ⟨g, 0, none⟩) 1 lc) L.head?) := by
                obtain ⟨y, q0, q1, q2, q3⟩ := cell_at hcell (k := 0) (by rw [HM.out]; exact h0)
                refine Lib.hid ⟨_, 1, lc, rfl, .inr ⟨_, y, ?_, rfl, rfl, hgl, q3⟩⟩
                rw [← q0, List.head?_eq_getElem?]
              have F2 : Hid (Sl1 wr (.slice (some ⟨g, k - 1, none⟩) (k - (k - 1)) (lc - (k - 1))) L.getLast?) := by
                obtain ⟨y, q0, q1, q2, q3⟩ := cell_at hcell (k := k - 1) (by rw [HM.out]; omega)
                refine Lib.hid ⟨_, _, _, rfl, .inr ⟨_, y, ?_, rfl, by omega, hgl, q3⟩⟩
                rw [← q0, List.getLast?_eq_getElem?, HM.out]
              clear e6 e7 e8 e9 hcell
              have HP := hP
              have hk1 : ¬ k = 0 := by omega
              clear hP
              go_wp2_with fail
              go_region
              go_wp2_with fail
              have SAx := hS
              have NAx := HN
              have PAx := HP
              have FAx := F1
              have EAx := F2
              have bAx := hb
              have hrun := run_one1
              clear hS HN HP F1 F2 hb
              refine calls_w ?_
              intro Z0 hZ0
              have hn : Below wr.heap.size wr Z0 := by rw [hZ0]; exact (Below.refl _ _).drew
              have SA0 := Lib.hid (SAx.out.of hn)
              have NA0 := Lib.hid (NAx.out.of hn)
              have PA0 := Lib.hid (PAx.out.of hn)
              have FA0 := Lib.hid (FAx.out.of hn)
              have EA0 := Lib.hid (EAx.out.of hn)
              have bA0 := bAx.trans (hn.mono bAx.size)
              clear hn hZ0 SAx NAx PAx FAx EAx bAx
              refine (SA0.out.ss.nxt x hx64).mono ?_
              rintro e Z1 ⟨rfl, hn⟩
              have SA1 := Lib.hid (SA0.out.of hn)
              have NA1 := Lib.hid (NA0.out.of hn)
              have PA1 := Lib.hid (PA0.out.of hn)
              have FA1 := Lib.hid (FA0.out.of hn)
              have EA1 := Lib.hid (EA0.out.of hn)
              have bA1 := bA0.trans (hn.mono bA0.size)
              clear hn SA0 NA0 PA0 FA0 EA0 bA0
              go_wp2_with fail
              refine (one_is _ _ Z1).mono ?_
              rintro e Z2 ⟨rfl, k1, k2, hn⟩
              have SA2 := Lib.hid (SA1.out.of hn)
              have NA2 := Lib.hid (NA1.out.of hn)
              have PA2 := Lib.hid (PA1.out.of hn)
              have FA2 := Lib.hid (FA1.out.of hn)
              have EA2 := Lib.hid (EA1.out.of hn)
              have bA2 := bA1.trans (hn.mono bA1.size)
              clear hn SA1 NA1 PA1 FA1 EA1 bA1
              have K1 := Lib.hid k1
              have K2 := Lib.hid k2
              clear k1 k2
              go_wp2_with fail
              refine (one1_opt _ _ (nxt x L) _ Z2 K1.out K2.out NA2.out).mono ?_
              rintro e Z3 ⟨rfl, hn⟩
              have SA3 := Lib.hid (SA2.out.of hn)
              have NA3 := Lib.hid (NA2.out.of hn)
              have PA3 := Lib.hid (PA2.out.of hn)
              have FA3 := Lib.hid (FA2.out.of hn)
              have EA3 := Lib.hid (EA2.out.of hn)
              have bA3 := bA2.trans (hn.mono bA2.size)
              clear hn SA2 NA2 PA2 FA2 EA2 bA2
              clear K1 K2
              go_wp2_with fail
              refine (SA3.out.ss.prv x hx64).mono ?_
              rintro e Z4 ⟨rfl, hn⟩
              have SA4 := Lib.hid (SA3.out.of hn)
              have NA4 := Lib.hid (NA3.out.of hn)
              have PA4 := Lib.hid (PA3.out.of hn)
              have FA4 := Lib.hid (FA3.out.of hn)
              have EA4 := Lib.hid (EA3.out.of hn)
              have bA4 := bA3.trans (hn.mono bA3.size)
              clear hn SA3 NA3 PA3 FA3 EA3 bA3
              go_wp2_with fail
              refine (one_is _ _ Z4).mono ?_
              rintro e Z5 ⟨rfl, k1, k2, hn⟩
              have SA5 := Lib.hid (SA4.out.of hn)
              have NA5 := Lib.hid (NA4.out.of hn)
              have PA5 := Lib.hid (PA4.out.of hn)
              have FA5 := Lib.hid (FA4.out.of hn)
              have EA5 := Lib.hid (EA4.out.of hn)
              have bA5 := bA4.trans (hn.mono bA4.size)
              clear hn SA4 NA4 PA4 FA4 EA4 bA4
              have K1 := Lib.hid k1
              have K2 := Lib.hid k2
              clear k1 k2
              go_wp2_with fail
              refine (one1_opt _ _ (prv x L) _ Z5 K1.out K2.out PA5.out).mono ?_
              rintro e Z6 ⟨rfl, hn⟩
              have SA6 := Lib.hid (SA5.out.of hn)
              have NA6 := Lib.hid (NA5.out.of hn)
              have PA6 := Lib.hid (PA5.out.of hn)
              have FA6 := Lib.hid (FA5.out.of hn)
              have EA6 := Lib.hid (EA5.out.of hn)
              have bA6 := bA5.trans (hn.mono bA5.size)
              clear hn SA5 NA5 PA5 FA5 EA5 bA5
              clear K1 K2
              go_wp2_with fail
              refine (SA6.out.ss.fst hi4).mono ?_
              rintro e Z7 ⟨rfl, hn⟩
              have SA7 := Lib.hid (SA6.out.of hn)
              have NA7 := Lib.hid (NA6.out.of hn)
              have PA7 := Lib.hid (PA6.out.of hn)
              have FA7 := Lib.hid (FA6.out.of hn)
              have EA7 := Lib.hid (EA6.out.of hn)
              have bA7 := bA6.trans (hn.mono bA6.size)
              clear hn SA6 NA6 PA6 FA6 EA6 bA6
              go_wp2_with fail
              refine (one_is _ _ Z7).mono ?_
              rintro e Z8 ⟨rfl, k1, k2, hn⟩
              have SA8 := Lib.hid (SA7.out.of hn)
              have NA8 := Lib.hid (NA7.out.of hn)
              have PA8 := Lib.hid (PA7.out.of hn)
              have FA8 := Lib.hid (FA7.out.of hn)
              have EA8 := Lib.hid (EA7.out.of hn)
              have bA8 := bA7.trans (hn.mono bA7.size)
              clear hn SA7 NA7 PA7 FA7 EA7 bA7
              have K1 := Lib.hid k1
              have K2 := Lib.hid k2
              clear k1 k2
              go_wp2_with fail
              refine (one1_opt _ _ (L.head?) _ Z8 K1.out K2.out FA8.out).mono ?_
              rintro e Z9 ⟨rfl, hn⟩
              have SA9 := Lib.hid (SA8.out.of hn)
              have NA9 := Lib.hid (NA8.out.of hn)
              have PA9 := Lib.hid (PA8.out.of hn)
              have FA9 := Lib.hid (FA8.out.of hn)
              have EA9 := Lib.hid (EA8.out.of hn)
              have bA9 := bA8.trans (hn.mono bA8.size)
              clear hn SA8 NA8 PA8 FA8 EA8 bA8
              clear K1 K2
              go_wp2_with fail
              refine (SA9.out.ss.lst hi4).mono ?_
              rintro e Z10 ⟨rfl, hn⟩
              have SA10 := Lib.hid (SA9.out.of hn)
              have NA10 := Lib.hid (NA9.out.of hn)
              have PA10 := Lib.hid (PA9.out.of hn)
              have FA10 := Lib.hid (FA9.out.of hn)
              have EA10 := Lib.hid (EA9.out.of hn)
              have bA10 := bA9.trans (hn.mono bA9.size)
              clear hn SA9 NA9 PA9 FA9 EA9 bA9
              go_wp2_with fail
              refine (one_is _ _ Z10).mono ?_
              rintro e Z11 ⟨rfl, k1, k2, hn⟩
              have SA11 := Lib.hid (SA10.out.of hn)
              have NA11 := Lib.hid (NA10.out.of hn)
              have PA11 := Lib.hid (PA10.out.of hn)
              have FA11 := Lib.hid (FA10.out.of hn)
              have EA11 := Lib.hid (EA10.out.of hn)
              have bA11 := bA10.trans (hn.mono bA10.size)
              clear hn SA10 NA10 PA10 FA10 EA10 bA10
              have K1 := Lib.hid k1
              have K2 := Lib.hid k2
              clear k1 k2
              go_wp2_with fail
              refine (one1_opt _ _ (L.getLast?) _ Z11 K1.out K2.out EA11.out).mono ?_
              rintro e Z12 ⟨rfl, hn⟩
              have SA12 := Lib.hid (SA11.out.of hn)
              have NA12 := Lib.hid (NA11.out.of hn)
              have PA12 := Lib.hid (PA11.out.of hn)
              have FA12 := Lib.hid (FA11.out.of hn)
              have EA12 := Lib.hid (EA11.out.of hn)
              have bA12 := bA11.trans (hn.mono bA11.size)
              clear hn SA11 NA11 PA11 FA11 EA11 bA11
              clear K1 K2
              go_wp2_with fail
              refine (awake_is Z12).mono ?_
              rintro e Z13 ⟨rfl, hn⟩
              have bA13 := bA12.trans (hn.mono bA12.size)
              clear hn bA12 SA12 NA12 PA12 FA12 EA12
              go_wp2
              go_ret
              exact ⟨rfl, bA13⟩
            · have hk0 : k = 0 := by omega
              subst hk0
              have hL0 : L = [] := List.eq_nil_of_length_eq_zero HM.out
              have F1 : Hid (Sl1 wr (.slice none 0 0) L.head?) := by rw [hL0]; exact Lib.hid ⟨none, 0, 0, rfl, .inl ⟨rfl, rfl⟩⟩
              have F2 : Hid (Sl1 wr (.slice none 0 0) L.getLast?) := by rw [hL0]; exact Lib.hid ⟨none, 0, 0, rfl, .inl ⟨rfl, rfl⟩⟩
              have HP := hP
              clear hP hL0
              have SA0 := hS
              have NA0 := HN
              have PA0 := HP
              have FA0 := F1
              have EA0 := F2
              have bA0 := hb
              have hrun := run_one1
              clear hS HN HP F1 F2 hb
              go_wp2_with fail
              refine (SA0.out.ss.nxt x hx64).mono ?_
              rintro e Z1 ⟨rfl, hn⟩
              have SA1 := Lib.hid (SA0.out.of hn)
              have NA1 := Lib.hid (NA0.out.of hn)
              have PA1 := Lib.hid (PA0.out.of hn)
              have FA1 := Lib.hid (FA0.out.of hn)
              have EA1 := Lib.hid (EA0.out.of hn)
              have bA1 := bA0.trans (hn.mono bA0.size)
              clear hn SA0 NA0 PA0 FA0 EA0 bA0
              go_wp2_with fail
              refine (one_is _ _ Z1).mono ?_
              rintro e Z2 ⟨rfl, k1, k2, hn⟩
              have SA2 := Lib.hid (SA1.out.of hn)
              have NA2 := Lib.hid (NA1.out.of hn)
              have PA2 := Lib.hid (PA1.out.of hn)
              have FA2 := Lib.hid (FA1.out.of hn)
              have EA2 := Lib.hid (EA1.out.of hn)
              have bA2 := bA1.trans (hn.mono bA1.size)
              clear hn SA1 NA1 PA1 FA1 EA1 bA1
              have K1 := Lib.hid k1
              have K2 := Lib.hid k2
              clear k1 k2
              go_wp2_with fail
              refine (one1_opt _ _ (nxt x L) _ Z2 K1.out K2.out NA2.out).mono ?_
              rintro e Z3 ⟨rfl, hn⟩
              have SA3 := Lib.hid (SA2.out.of hn)
              have NA3 := Lib.hid (NA2.out.of hn)
              have PA3 := Lib.hid (PA2.out.of hn)
              have FA3 := Lib.hid (FA2.out.of hn)
              have EA3 := Lib.hid (EA2.out.of hn)
              have bA3 := bA2.trans (hn.mono bA2.size)
              clear hn SA2 NA2 PA2 FA2 EA2 bA2
              clear K1 K2
              go_wp2_with fail
              refine (SA3.out.ss.prv x hx64).mono ?_
              rintro e Z4 ⟨rfl, hn⟩
              have SA4 := Lib.hid (SA3.out.of hn)
              have NA4 := Lib.hid (NA3.out.of hn)
              have PA4 := Lib.hid (PA3.out.of hn)
              have FA4 := Lib.hid (FA3.out.of hn)
              have EA4 := Lib.hid (EA3.out.of hn)
              have bA4 := bA3.trans (hn.mono bA3.size)
              clear hn SA3 NA3 PA3 FA3 EA3 bA3
              go_wp2_with fail
              refine (one_is _ _ Z4).mono ?_
              rintro e Z5 ⟨rfl, k1, k2, hn⟩
              have SA5 := Lib.hid (SA4.out.of hn)
              have NA5 := Lib.hid (NA4.out.of hn)
              have PA5 := Lib.hid (PA4.out.of hn)
              have FA5 := Lib.hid (FA4.out.of hn)
              have EA5 := Lib.hid (EA4.out.of hn)
              have bA5 := bA4.trans (hn.mono bA4.size)
              clear hn SA4 NA4 PA4 FA4 EA4 bA4
              have K1 := Lib.hid k1
              have K2 := Lib.hid k2
              clear k1 k2
              go_wp2_with fail
              refine (one1_opt _ _ (prv x L) _ Z5 K1.out K2.out PA5.out).mono ?_
              rintro e Z6 ⟨rfl, hn⟩
              have SA6 := Lib.hid (SA5.out.of hn)
              have NA6 := Lib.hid (NA5.out.of hn)
              have PA6 := Lib.hid (PA5.out.of hn)
              have FA6 := Lib.hid (FA5.out.of hn)
              have EA6 := Lib.hid (EA5.out.of hn)
              have bA6 := bA5.trans (hn.mono bA5.size)
              clear hn SA5 NA5 PA5 FA5 EA5 bA5
              clear K1 K2
              go_wp2_with fail
              refine (SA6.out.ss.fst hi4).mono ?_
              rintro e Z7 ⟨rfl, hn⟩
              have SA7 := Lib.hid (SA6.out.of hn)
              have NA7 := Lib.hid (NA6.out.of hn)
              have PA7 := Lib.hid (PA6.out.of hn)
              have FA7 := Lib.hid (FA6.out.of hn)
              have EA7 := Lib.hid (EA6.out.of hn)
              have bA7 := bA6.trans (hn.mono bA6.size)
              clear hn SA6 NA6 PA6 FA6 EA6 bA6
              go_wp2_with fail
              refine (one_is _ _ Z7).mono ?_
              rintro e Z8 ⟨rfl, k1, k2, hn⟩
              have SA8 := Lib.hid (SA7.out.of hn)
              have NA8 := Lib.hid (NA7.out.of hn)
              have PA8 := Lib.hid (PA7.out.of hn)
              have FA8 := Lib.hid (FA7.out.of hn)
              have EA8 := Lib.hid (EA7.out.of hn)
              have bA8 := bA7.trans (hn.mono bA7.size)
              clear hn SA7 NA7 PA7 FA7 EA7 bA7
              have K1 := Lib.hid k1
              have K2 := Lib.hid k2
              clear k1 k2
              go_wp2_with fail
              refine (one1_opt _ _ (L.head?) _ Z8 K1.out K2.out FA8.out).mono ?_
              rintro e Z9 ⟨rfl, hn⟩
              have SA9 := Lib.hid (SA8.out.of hn)
              have NA9 := Lib.hid (NA8.out.of hn)
              have PA9 := Lib.hid (PA8.out.of hn)
              have FA9 := Lib.hid (FA8.out.of hn)
              have EA9 := Lib.hid (EA8.out.of hn)
              have bA9 := bA8.trans (hn.mono bA8.size)
              clear hn SA8 NA8 PA8 FA8 EA8 bA8
              clear K1 K2
              go_wp2_with fail
              refine (SA9.out.ss.lst hi4).mono ?_
              rintro e Z10 ⟨rfl, hn⟩
              have SA10 := Lib.hid (SA9.out.of hn)
              have NA10 := Lib.hid (NA9.out.of hn)
              have PA10 := Lib.hid (PA9.out.of hn)
              have FA10 := Lib.hid (FA9.out.of hn)
              have EA10 := Lib.hid (EA9.out.of hn)
              have bA10 := bA9.trans (hn.mono bA9.size)
              clear hn SA9 NA9 PA9 FA9 EA9 bA9
              go_wp2_with fail
              refine (one_is _ _ Z10).mono ?_
              rintro e Z11 ⟨rfl, k1, k2, hn⟩
              have SA11 := Lib.hid (SA10.out.of hn)
              have NA11 := Lib.hid (NA10.out.of hn)
              have PA11 := Lib.hid (PA10.out.of hn)
              have FA11 := Lib.hid (FA10.out.of hn)
              have EA11 := Lib.hid (EA10.out.of hn)
              have bA11 := bA10.trans (hn.mono bA10.size)
              clear hn SA10 NA10 PA10 FA10 EA10 bA10
              have K1 := Lib.hid k1
              have K2 := Lib.hid k2
              clear k1 k2
              go_wp2_with fail
              refine (one1_opt _ _ (L.getLast?) _ Z11 K1.out K2.out EA11.out).mono ?_
              rintro e Z12 ⟨rfl, hn⟩
              have SA12 := Lib.hid (SA11.out.of hn)
              have NA12 := Lib.hid (NA11.out.of hn)
              have PA12 := Lib.hid (PA11.out.of hn)
              have FA12 := Lib.hid (FA11.out.of hn)
              have EA12 := Lib.hid (EA11.out.of hn)
              have bA12 := bA11.trans (hn.mono bA11.size)
              clear hn SA11 NA11 PA11 FA11 EA11 bA11
              clear K1 K2
              go_wp2_with fail
              refine (awake_is Z12).mono ?_
              rintro e Z13 ⟨rfl, hn⟩
              have bA13 := bA12.trans (hn.mono bA12.size)
              clear hn bA12 SA12 NA12 PA12 FA12 EA12
              go_wp2
              go_ret
              exact ⟨rfl, bA13⟩
end Go.Proofs.Ytgdjihihjlbelaa

namespace Go.Proofs.Ytgdjihihjlbelaa
open Go.ChangeShapes Go.WideShapes Go.ChangeAt Go.RowKit

theorem own : ownKnob Try.prog.godebug = none := by kernel_rfl
theorem laidOut : laidOutB Try.prog = true := by kernel_rfl
theorem in64_wf {x : Int} (h : (Lit.int .i64 x).wf = true) : In64 x := by
  simp [Lit.wf, IntKind.min, IntKind.max, IntKind.signed, IntKind.bits] at h
  unfold In64; omega
theorem blk_add (a : Addr) (n : Nat) : (a.add n).block = a.block := by unfold Addr.add; split <;> rfl
section
variable {H : Type} {enc : TypeId × Value → H} {w : World} {base : Nat} {held : Bool}
set_option maxRecDepth 100000 in
theorem open_ops {r : Reach} {b0 : Nat} {v : Value} {d : DataW H} {p : List MemPlace} (hv : Value.okWide Try.prog w r b0 22 v) (h : DataW.Trod enc Try.prog w base (fun _ => true) held 22 v d p) :
    ∃ ao n cap K X, v = .slice ao n cap ∧ Ops w ao n cap K X := by
  obtain ⟨ao, n, cap, rfl⟩ := okWide_slice Try.underlying22 hv
  obtain ⟨fuel, hf⟩ := h
  have hC : Try.prog.cellsOf 29 = 2 := by kernel_rfl
  have hC1 : Try.prog.cellsOf 3 = 1 := by kernel_rfl
  rcases Go.Deep.open_slice_pairs Try.underlying22 Try.underlying29 hC rfl rfl hC1 hC1 hf with ⟨hc, hx⟩ | ⟨a, len, c2, m, k, V0, V1, D0, D1, P0, P1, hc, _, hl, hm, hmm, hx, hall⟩
  · obtain ⟨rfl, rfl, rfl⟩ : ao = none ∧ n = 0 ∧ cap = 0 := by simpa [Value.cells] using hc
    exact ⟨none, 0, 0, fun _ => 0, fun _ => 0, rfl, fun h => absurd h (by omega), Nat.le_refl _, by omega, fun i h => absurd h (by omega)⟩
  · obtain ⟨rfl, rfl, rfl⟩ : ao = some a ∧ n = len ∧ cap = c2 := by simpa [Value.cells] using hc
    have hmc : m = cap := by rw [hmm]; rfl
    have key : ∀ i, i < n → ∃ y : Int × Int, V0 i = .int .i64 y.1 ∧ V1 i = .int .i64 y.2 ∧ In64 y.2 := by
      intro i hi
      obtain ⟨_, _, t0, t1⟩ := hall i (by omega)
      obtain ⟨a0, e0, _, g0⟩ := DataW.trod_int Try.underlying3 t0
      obtain ⟨a1, e1, _, g1⟩ := DataW.trod_int Try.underlying3 t1
      exact ⟨(a0, a1), by simpa using e0, by simpa using e1, in64_wf g1⟩
    refine ⟨some a, n, cap, fun i => if h : i < n then (key i h).choose.1 else 0, fun i => if h : i < n then (key i h).choose.2 else 0, rfl, fun h0 => ⟨a, rfl, ?_, fun i hi => ?_⟩, hl, hm, fun i hi => ?_⟩
    · have := (hall 0 (by omega)).1
      have := World.block_lt_of_cell? _ _ this
      rwa [blk_add] at this
    · have e0 := (hall i (by omega)).1
      have e1 := (hall i (by omega)).2.1
      rw [(key i hi).choose_spec.1] at e0
      rw [(key i hi).choose_spec.2.1] at e1
      simp only [dif_pos hi]
      exact ⟨e0, by rw [Go.Deep.add_add]; exact e1⟩
    · simp only [dif_pos hi]
      exact (key i hi).choose_spec.2.2
end
end Go.Proofs.Ytgdjihihjlbelaa

namespace Go.Proofs.Ytgdjihihjlbelaa
open Go.ChangeShapes Go.WideShapes Go.ChangeAt Go.RowKit

set_option maxRecDepth 100000 in
set_option maxHeartbeats 1000000 in
theorem avlNear_lifted (os : Os) (started : os.Started) (H : Type) (enc : TypeId × Value → H) :
    ReturnsInHanded {} Try.checked os 6 .any (Rows.avlNearSpec.pre6 enc Try.prog Try.f6 Rows.avlNearRow.domain false) (Rows.avlNearSpec.post enc Try.prog Try.f6 false true false false) := by
  refine returnsInHanded_of_change (C := Try.checked) own started (by kernel_rfl) Try.func6
    (ChangeSpec.witness6 (enc := enc) (C := Try.checked) false ⟨#[], #[.slice none 0 0, .int .i64 0], []⟩ 8 (by kernel_rfl) (by kernel_rfl) (by kernel_rfl) (by kernel_rfl)) ?_
  intro W base args ds gs before hval0 hW hcnd _
  have hval : ∀ (j : Nat) t v, Try.f6.params[j]? = some t → args[j]? = some v → Value.okWide Try.prog W .any base t v := hval0
  have hW' := hW
  obtain ⟨p, q, hA0, hV, rfl, hfz, hnd⟩ := hW
  have hA : DataW.TrodAll enc Try.prog W 0 (fun _ => true) true Try.f6.params.toList args.toList ds p := hA0
  rw [Try.params6] at hA hval
  obtain ⟨v0, vs0, d0, ds0, p0, q0, hargs, rfl, rfl, h0, r0⟩ := trodAll_cons hA
  obtain ⟨v1, vs1, d1, ds1, p1, q1, rfl, rfl, rfl, h1, r1⟩ := trodAll_cons r0
  obtain ⟨rfl, rfl, rfl⟩ := trodAll_nil r1
  obtain rfl : args = #[v0, v1] := by cases args; simp_all
  obtain ⟨rfl, rfl⟩ := trodVars_none hV
  have k0 := h0
  have lt0 : ∀ x ∈ p0, x.block < W.heap.size := by obtain ⟨m, hm⟩ := k0; exact DataW.trod_lt m _ _ _ hm
  obtain ⟨ao0, n0, cap0, K0, X0, rfl, io0⟩ := open_ops (hval 0 22 v0 rfl rfl) h0
  obtain ⟨x1, rfl, rfl, rfl, wx1⟩ := open_int Try.underlying3 (hval 1 3 v1 rfl rfl) h1
  have ix1 := in64_wf wx1
  clear hA0 hval0
  refine (AvlNear_any ao0 n0 cap0 K0 X0 x1 W io0 ix1).mono fun e W' ⟨he, bel⟩ => ?_
  subst he
  exact ⟨_, rfl, _, _, _, [], _, [], hW', trodAll_mk1 (shut_bool Try.underlying4 _), (trodAll_cons_mk (Below.trod laidOut (by kernel_rfl) (of_decide_eq_true (by kernel_rfl)) k0 bel lt0) (trodAll_cons_mk (shut_int Try.underlying3 wx1) trodAll_mk0)), rfl, bel.frame _, fun h => by cases h⟩

theorem avlNear_holds : Rows.AvlNearSaid :=
  OpenClaim.holds_of_wide 6 Try.f6 rfl rfl rfl rfl rfl rfl rfl ⟨rfl, rfl, rfl, rfl, rfl⟩ rfl rfl rfl rfl rfl (by kernel_rfl) Try.func6 (by kernel_rfl)
    (of_decide_eq_true (by kernel_rfl)) (by unfold Func.isWrapper; rw [if_neg (by decide +kernel)]; exact ⟨rfl, rfl⟩)
    (fun os started H enc _ => avlNear_lifted os started H enc)
#print axioms avlNear_holds
end Go.Proofs.Ytgdjihihjlbelaa

