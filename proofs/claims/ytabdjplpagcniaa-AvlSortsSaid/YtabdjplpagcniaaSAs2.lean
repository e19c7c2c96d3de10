/- My texts AvI, AvJ, RegJ, AvK, RegK, AvL, AvT, AvU, AvV, AvW, AvX, AvM, AvN, AvO, AvS, AvP, AvQ, AvY, AvZ, Avb, Avd, Ave, Avf, Avg, joined: what the last one needs of them. Conditions: as each lemma says. -/
import Derived.Test.YtabdjplpagcniaaSAs1
import Derived.KernelRfl
import Derived.StillTail
import Derived.OrdersHeld
import Derived.Deep.Quiet
import Derived.Below
import Derived.WalkKit
import Derived.Test.YtabdjplpagcniaaProg
import Derived.WalkSpells
import Derived.StillTactics
import Derived.Laws.Pointers
import Derived.Deep.RegionHeld3
import Derived.RowKit3
import Derived.Deep.QuietTactic
import Derived.BigQuiet
import Derived.BigRegion
import Derived.Deep.LoopGhost
import Derived.Deep.DeepFit
import Derived.Deep.DeepCutAuto
import Derived.OwnWalk
import Derived.Lib.Hide
import Derived.RangeFuncNested
import Derived.RangeFuncBound
import Derived.RangeFuncCalls
import Derived.RangeFuncLeaves
import Derived.Shelf.Abstract
import Derived.Shelf.RegionOpen
import Derived.OwnWalkIn
import Derived.TacticsInMore
import Derived.LoopNIn
import Derived.LoopIn
import Derived.Deep.DeepAppendRoom
import Derived.Sort.LoopGhostIn
import Derived.ProofKit
import Derived.OpenShut
import Derived.ChangeOld
import Derived.Deep.SlicePairs
namespace Go.Proofs.Ytabdjplpagcniaa
open Go.RowKit

/-- the set lies at block t, its free nodes' block is there -/
structure TM2 (w : World) (t : Nat) (S : TS) : Prop where
  m : TM w t S
  lf : S.fb < w.heap.size
theorem TM2.of {w w' : World} {t : Nat} {S : TS} (h : TM2 w t S) (hb : Below w.heap.size w w') : TM2 w' t S := ⟨h.m.of hb, Nat.lt_of_lt_of_le h.lf hb.size⟩
/-- a set with a fresh node -/
def TS.fresh (S : TS) (x : Int) (g cap : Nat) : TS := if 0 < S.fl then ({ S with fl := S.fl - 1 } : TS).put S.fri x 1 else ({ S with nb := g, cap := cap, len := S.len + 1 } : TS).put S.fri x 1
theorem fresh_any (t : Nat) (S : TS) (x : Int) (i : Nat) (hi : S.fri = i) (w : World) (h : TM2 w t S) (hlen : S.len < 1000000) (hfr : ∀ j, j < S.fl → S.fr j < S.len) :
    Calls Try.prog 36 #[ptr t 0, .int .i64 x] w fun e w' => e = .returned (.int .i64 i) ∧ ∃ g cap, TM2 w' t (S.fresh x g cap) ∧ Fr t S (S.fresh x g cap) w w' := by
  by_cases hf : 0 < S.fl
  · have e1 : S.fri = S.fr (S.fl - 1) := if_pos hf
    have e2 : ∀ g cap, S.fresh x g cap = ({ S with fl := S.fl - 1 } : TS).put S.fri x 1 := fun g cap => if_pos hf
    refine (fresh_free t S x i w h.m hf (e1.symm.trans hi) (by rw [← hi, e1]; exact hfr _ (by omega))).mono ?_
    rintro e w' ⟨rfl, h1, h2⟩
    refine ⟨rfl, 0, 0, ?_⟩
    rw [e2, hi]
    exact ⟨⟨h1, Nat.lt_of_lt_of_le h.lf h2.size⟩, .ofOut h2 rfl rfl⟩
  · have e1 : S.fri = S.len := if_neg hf
    have e2 : ∀ g cap, S.fresh x g cap = ({ S with nb := g, cap := cap, len := S.len + 1 } : TS).put S.fri x 1 := fun g cap => if_neg hf
    obtain rfl : S.len = i := e1.symm.trans hi
    refine (fresh_new t S x w h.m (by omega) hlen).mono ?_
    rintro e w' ⟨rfl, g, cap, h1, h2⟩
    refine ⟨rfl, g, cap, ?_⟩
    rw [e2, e1]
    exact ⟨⟨h1, Nat.lt_of_lt_of_le h.lf h2.out.size⟩, h2⟩
theorem TM.setN {w : World} {t : Nat} {S : TS} (h : TM w t S) (r : Nat) : TM (w.setCell ⟨t, 4, none⟩ (.int .i64 r)) t { S with n := r } := by
  refine ⟨?_, ?_, ?_, ?_⟩
  · exact h.blk.put 4 (.int .i64 r)
  · exact h.row.setNe h.tn.symm _ _ _
  · rcases h.fre with a | ⟨a, b, c, d⟩
    · exact .inl a
    · exact .inr ⟨a, b.setNe c.symm _ _ _, c, d⟩
  · exact h.tn
theorem WayO.out {w w' : World} {base : Nat} {v : Value} {l : List (Nat × Nat)} {L : List Nat} (h : WayO w base v l) (ho : OutL L w w') (hL : ∀ k ∈ L, k < base) : WayO w' base v l := by
  refine ⟨h.1, h.2.imp id ?_⟩
  rintro ⟨g, cap, cur, rfl, hbg, hg, r⟩
  exact ⟨g, cap, cur, rfl, hbg, (ho.block _ (Array.getElem?_eq_some_iff.1 hg).1 fun hm => by have := hL _ hm; omega).trans hg, r⟩
/-- a way goes through nodes -/
theorem Tr.way_ok {S : TS} (f : Nat → Int) : ∀ {j : Nat} {T : Tr}, Rep S j T → ∀ s ∈ T.way f, s.1 < S.len ∧ s.2 < 2
  | _, .nil, _, _, hs => by cases hs
  | _, .nd i l r, h, s, hs => by
    replace hs : s ∈ (if f i = 0 then [] else if f i < 0 then (i, 0) :: l.way f else (i, 1) :: r.way f) := hs
    split at hs
    · cases hs
    · split at hs
      · rcases List.mem_cons.1 hs with rfl | hs
        · exact ⟨h.2.2.1, by show 0 < 2; decide⟩
        · exact Tr.way_ok f h.2.2.2.1 s hs
      · rcases List.mem_cons.1 hs with rfl | hs
        · exact ⟨h.2.2.1, by show 1 < 2; decide⟩
        · exact Tr.way_ok f h.2.2.2.2 s hs
theorem fresh_sm (S : TS) (x : Int) (g cap : Nat) : (S.fresh x g cap).fb = S.fb ∧ (S.fresh x g cap).n = S.n ∧ (S.fresh x g cap).root = S.root ∧ (S.fresh x g cap).ord = S.ord ∧ S.len ≤ (S.fresh x g cap).len ∧ (S.fresh x g cap).len ≤ S.len + 1 := by
  unfold TS.fresh; split <;> refine ⟨rfl, rfl, rfl, rfl, ?_, ?_⟩ <;> simp [TS.put]
theorem fresh_i (S : TS) (x : Int) (g cap : Nat) (hfr : ∀ j, j < S.fl → S.fr j < S.len) : S.fri < (S.fresh x g cap).len := by
  unfold TS.fresh TS.fri; split
  · exact hfr _ (by omega)
  · simp [TS.put]
theorem KB.put {S : TS} (h : KB S) (h0 : 0 < S.len) (i : Nat) (x d : Int) : KB (S.put i x d) := by
  intro j hj s hs
  show upd S.k i (fun _ => 0) j s < S.len
  unfold upd; split
  · exact h0
  · exact h j hj s hs
theorem KB.fresh {S : TS} (h : KB S) (h0 : 0 < S.len) (x : Int) (g cap : Nat) : KB (S.fresh x g cap) := by
  unfold TS.fresh; split
  · exact KB.put (S := { S with fl := S.fl - 1 }) h h0 _ _ _
  · rename_i hf
    intro j hj s hs
    have e1 : S.fri = S.len := if_neg hf
    rw [e1]
    show upd S.k S.len (fun _ => 0) j s < S.len + 1
    unfold upd; split
    · exact Nat.succ_pos _
    · have hj' : j < S.len + 1 := hj
      exact Nat.lt_succ_of_lt (h j (by omega) s hs)
theorem DL.put {S : TS} {B : Int} (h : DL S B) (i : Nat) (x d : Int) (h0 : 0 ≤ d) (hd : d ≤ B) : DL (S.put i x d) B := by
  intro j hj
  show 0 ≤ upd S.d i d j ∧ upd S.d i d j ≤ B
  unfold upd; split
  · exact ⟨h0, hd⟩
  · exact h j hj
theorem DL.fresh {S : TS} {B : Int} (h : DL S B) (hB : 1 ≤ B) (x : Int) (g cap : Nat) : DL (S.fresh x g cap) B := by
  unfold TS.fresh; split
  · exact DL.put (S := { S with fl := S.fl - 1 }) h _ _ _ (by decide) hB
  · rename_i hf
    intro j hj
    have e1 : S.fri = S.len := if_neg hf
    rw [e1]
    show 0 ≤ upd S.d S.len 1 j ∧ upd S.d S.len 1 j ≤ B
    have hj' : j < S.len + 1 := hj
    unfold upd; split
    · omega
    · exact h j (by omega)
theorem hang_sm (S : TS) (l : List (Nat × Nat)) (i : Nat) : (S.hang l i).nb = S.nb ∧ (S.hang l i).fb = S.fb ∧ (S.hang l i).n = S.n ∧ (S.hang l i).len = S.len ∧ (S.hang l i).fl = S.fl ∧ (S.hang l i).fr = S.fr ∧ (S.hang l i).ord = S.ord ∧ (S.hang l i).fcap = S.fcap ∧ (S.hang l i).cap = S.cap := by
  have h := Sm.hgo S i l l.length
  exact ⟨h.2.1, h.2.2.1, h.2.2.2.2.2.2.2.2.2, h.1, h.2.2.2.2.2.2.1, h.2.2.2.2.2.2.2.1, h.2.2.2.2.1, h.2.2.2.1, h.2.2.2.2.2.1⟩

set_option maxRecDepth 100000 in
set_option maxHeartbeats 400000 in
theorem Put_old (t : Nat) (S : TS) (c : Int → Int → Int) (x : Int) (T : Tr) (f : Nat → Int) (hf : f = fun i => c x (S.v i)) (hn : T.found f ≠ 0) (w : World) (h : TM w t S) (ho : OrdOk S.ord c) (hx : In64 x) (hR : Rep S S.root T) (hv : ∀ i, i < S.len → In64 (S.v i)) (hs : T.size ≤ 1000000) :
    Calls Try.prog 17 #[ptr t 0, .int .i64 x] w fun e w' => e = .returned (.bool false) ∧ Below w.heap.size w w' := by
  obtain ⟨n, hn'⟩ : ∃ n, T.found f = n := ⟨_, rfl⟩
  rw [hn'] at hn
  have HC := Lib.hid (way_is t S c x T f hf _ rfl n hn' w h ho hx hR hv hs)
  have h0 : ¬ ((n : Int) = 0) := by omega
  clear h hn hR hf ho hv hn'
  go_enter Try.func17, Try.ntmps17
  go_wp2_with fail
  refine HC.out.mono ?_
  rintro e w1 ⟨v, rfl, hO, hb⟩
  clear HC hO
  go_wp2
  go_ret
  exact ⟨rfl, hb⟩

set_option maxRecDepth 100000 in
set_option maxHeartbeats 400000 in
theorem Put_new (t : Nat) (S : TS) (c : Int → Int → Int) (x : Int) (T : Tr) (f : Nat → Int) (hf : f = fun i => c x (S.v i)) (hn : T.found f = 0) (l : List (Nat × Nat)) (hl : T.way f = l) (B : Int) (w : World) (h : TM2 w t S) (ho : OrdOk S.ord c) (hx : In64 x) (hR : Rep S S.root T) (hv : ∀ i, i < S.len → In64 (S.v i)) (hs : T.size < 1000000)
    (h0 : 0 < S.len) (hlen : S.len < 1000000) (hfr : ∀ j, j < S.fl → S.fr j < S.len) (hk : KB S) (hd : DL S B) (hB1 : 1 ≤ B) (hB : B < 1000000) (hsn : S.n < 1000000) :
    Calls Try.prog 17 #[ptr t 0, .int .i64 x] w fun e w' => e = .returned (.bool true) ∧ ∃ g cap S', S' = { (S.fresh x g cap).hang l S.fri with n := S.n + 1 } ∧ TM2 w' t S' ∧ Fr t S S' w w' := by
  have HC := Lib.hid (way_is t S c x T f hf l hl 0 hn w h.m ho hx hR hv (by omega))
  have hll : l.length < 1000000 := by rw [← hl]; exact Nat.lt_of_le_of_lt (Tr.way_len f T) hs
  have hok : ∀ s ∈ l, s.1 < S.len ∧ s.2 < 2 := by rw [← hl]; exact Tr.way_ok f hR
  have lt := h.m.blk.lt
  have ln := h.m.row.lt
  have lf := h.lf
  have HT := Lib.hid h
  have HK := Lib.hid (And.intro hk hd)
  have HO := Lib.hid hok
  obtain ⟨i, hi⟩ : ∃ i, S.fri = i := ⟨_, rfl⟩
  rw [hi]
  clear h hn hR hf ho hv hl hk hd hok
  go_enter Try.func17, Try.ntmps17
  go_wp2_with fail
  refine HC.out.mono ?_
  rintro e w1 ⟨v, rfl, hO, hb⟩
  have T1 := Lib.hid (HT.out.of hb)
  have O1 := Lib.hid hO
  clear HC hO
  go_wp2_with fail
  refine (fresh_any t S x i hi _ T1.out hlen hfr).mono ?_
  rintro e w2 ⟨rfl, g, cap, T2, F2⟩
  obtain ⟨S1, hS1⟩ : ∃ S1, S.fresh x g cap = S1 := ⟨_, rfl⟩
  have s1 := fresh_sm S x g cap
  have s2 := fresh_i S x g cap hfr
  have s3 := HK.out.1.fresh h0 x g cap
  have s4 := HK.out.2.fresh hB1 x g cap
  rw [hS1] at s1 s2 s3 s4 T2 F2
  rw [hi] at s2
  have O2 := (O1.out.out F2.out (by simp; omega)).way
  have HS := Lib.hid hS1
  have H1 := Lib.hid (And.intro s3 s4)
  have F2 := Lib.hid F2
  have T2 := Lib.hid T2
  have S1_ := Lib.hid s1
  have hsz := hb.size
  have FB := Lib.hid hb
  clear hS1 s1 s3 s4 T1 O1 hb
  go_wp2_with fail
  refine (hang_any t S1 v l i B _ T2.out.m O2 (fun s hs => ⟨Nat.lt_of_lt_of_le (HO.out s hs).1 S1_.out.2.2.2.2.1, (HO.out s hs).2⟩) hll H1.out.2 (by omega) H1.out.1 s2).mono ?_
  rintro e w3 ⟨rfl, T3, o3⟩
  have hsm := hang_sm S1 l i
  obtain ⟨S2, hS2⟩ : ∃ S2, S1.hang l i = S2 := ⟨_, rfl⟩
  rw [hS2] at T3 hsm
  have c4 := T3.c4
  have f4 := T3.blk.free 4
  have lt3 := T3.blk.lt
  rw [show S2.n = S.n from hsm.2.2.1.trans S1_.out.2.1] at c4
  have F3 : Fr t S1 S2 w2 w3 := .ofOut o3 hsm.1 hsm.2.1
  have F4 : Hid (Fr t S { S2 with n := S.n + 1 } w (w3.setCell ⟨t, 4, none⟩ (.int .i64 (S.n + 1 : Nat)))) := by
    have F5 := ((Fr.ofBelow (t := t) (S := S) FB.out).trans F2.out).trans F3
    exact Lib.hid ⟨F5.out.set (by simp) 4 none _, F5.nb, F5.fb⟩
  have T4 : Hid (TM2 (w3.setCell ⟨t, 4, none⟩ (.int .i64 (S.n + 1 : Nat))) t { S2 with n := S.n + 1 }) := Lib.hid ⟨T3.setN _, by show S2.fb < _; rw [hsm.2.1, S1_.out.1]; have := o3.size; have := F2.out.out.size; simp; omega⟩
  have HS2 := Lib.hid hS2
  clear hsm hS2 T3 o3 F3 T2 F2 O2 FB H1 HO HT HK
  obtain ⟨n1, hn1⟩ : ∃ n1, S.n + 1 = n1 := ⟨_, rfl⟩
  have hw1 : wrap64 ((S.n : Int) + 1) = (n1 : Int) := by rw [wrap64_id (by unfold In64; omega)]; omega
  rw [hn1] at T4 F4
  have HN := Lib.hid hn1
  clear hn1 hlen hfr hsn hB hB1 h0 hs hll lt ln lf s2 hsz
  go_wp2
  go_ret
  exact ⟨rfl, g, cap, { S2 with n := n1 }, by rw [HN.out, HS.out, HS2.out], T4.out, F4.out⟩
end Go.Proofs.Ytabdjplpagcniaa

namespace Go.Proofs.Ytabdjplpagcniaa
open Go.RowKit

theorem info_int : (Try.prog.info? 3).map (fun i => (i.zero, i.size, i.bytes)) = some (some (.int .i64 0), 1, 8) := by kernel_rfl
/-- the cells of the free nodes -/
def TS.frl (S : TS) : List Value := flat 1 (fun i _ => .int .i64 (S.fr i)) S.fl
theorem TM.free {w : World} {t : Nat} {S : TS} (h : TM w t S) : w.ownsRow 0 3 1 S.fv S.fl S.frl := by
  unfold TS.fv
  rcases h.fre with ⟨a, b⟩ | ⟨a, b, _⟩
  · rw [if_pos a]
    unfold TS.frl; rw [b]
    exact ⟨rfl, .inl ⟨rfl, rfl⟩⟩
  · rw [if_neg (by omega)]
    exact b.owns (Nat.zero_le _)
theorem TM.push {w w1 : World} {t : Nat} {S : TS} (h : TM w t S) {v' : Value} (x : Nat) (gr : w.grownBy w1 S.fv.ownBlock) (hl : ∀ g', v'.ownBlock = some g' → S.fv.ownBlock = some g' ∨ w.heap.size ≤ g')
    (own : w1.ownsRow 0 3 1 v' (S.fl + 1) (S.frl ++ [.int .i64 x])) :
    ∃ g cap, v' = .slice (some ⟨g, 0, none⟩) (S.fl + 1) cap ∧ TM (w1.setCell ⟨t, 2, none⟩ v') t { S with fb := g, fcap := cap, fl := S.fl + 1, fr := upd S.fr S.fl x } ∧ (g = S.fb ∨ w.heap.size ≤ g) ∧ g < w1.heap.size ∧ Blk w1 t #[S.ord, .slice (some ⟨S.nb, 0, none⟩) S.len S.cap, S.fv, .int .i64 S.root, .int .i64 S.n] 50 ∧ (∀ k, k < w.heap.size → k ≠ S.fb → w1.heap[k]? = w.heap[k]?) := by
  have hnd : S.frl ++ [.int .i64 (x : Int)] = flat 1 (fun i _ => .int .i64 (upd S.fr S.fl x i : Nat)) (S.fl + 1) := by
    rw [flat]
    congr 1
    · exact flat_congr fun i hi j hj => by rw [upd_ne _ _ (by omega)]
    · show _ = [Value.int .i64 ((upd S.fr S.fl x S.fl : Nat))]
      rw [upd_same]
  rw [hnd] at own
  obtain ⟨g, cap, rfl, _, hrow⟩ := Row.ofOwns own (by omega)
  have hob : S.fv.ownBlock = none ∨ S.fv.ownBlock = some S.fb := by
    unfold TS.fv; split
    · exact .inl rfl
    · exact .inr rfl
  have hg : g = S.fb ∨ w.heap.size ≤ g := by
    rcases hl g rfl with e | e
    · rcases hob with q | q
      · rw [q] at e; cases e
      · rw [q] at e; exact .inl (Option.some.inj e).symm
    · exact .inr e
  have hne : ∀ k, k < w.heap.size → k ≠ S.fb → w1.heap[k]? = w.heap[k]? := by
    intro k hk hne
    refine gr.block k hk fun e => ?_
    rcases hob with q | q
    · rw [q] at e; cases e
    · rw [q] at e; exact hne (Option.some.inj e)
  have hk : ∀ k, k < w.heap.size → (S.fcap = 0 ∨ k ≠ S.fb) → w1.heap[k]? = w.heap[k]? := by
    intro k hk h2
    rcases h2 with h2 | h2
    · refine gr.block k hk fun e => ?_
      unfold TS.fv at e; rw [if_pos h2] at e; cases e
    · exact hne k hk h2
  have tb : S.fcap = 0 ∨ t ≠ S.fb := h.fre.imp (fun a => a.1) fun a => a.2.2.1
  have nb : S.fcap = 0 ∨ S.nb ≠ S.fb := h.fre.imp (fun a => a.1) fun a => a.2.2.2
  have kb : Blk w1 t _ _ := (hk t h.blk.lt tb).trans h.blk
  have kr : Row w1 S.nb _ _ _ _ _ := h.row.same (hk _ h.row.lt nb)
  have t1 : t ≠ g := by
    intro e
    obtain ⟨cur, h1, _⟩ := hrow
    have h2 : w1.heap[t]? = _ := kb
    rw [e, h1] at h2
    simp at h2
  have n1 : S.nb ≠ g := by
    intro e
    obtain ⟨cur, h1, _⟩ := hrow
    obtain ⟨c2, h2, _⟩ := kr
    rw [e, h1] at h2
    simp at h2
  have c0 := hrow.le
  refine ⟨g, cap, rfl, ⟨?_, kr.setNe h.tn.symm _ _ _, .inr ⟨by show 0 < cap; omega, hrow.setNe t1.symm _ _ _, t1, n1⟩, h.tn⟩, hg, hrow.lt, kb, hne⟩
  have := kb.put 2 (.slice (some ⟨g, 0, none⟩) (S.fl + 1) cap)
  show Blk _ t #[S.ord, _, (if cap = 0 then _ else _), _, _] _
  rw [if_neg (by omega)]; exact this
theorem addz (a : Addr) : a.add 0 = a := by cases a; simp [Addr.add]
theorem cell_newz {W : World} {s : Nat} (h : W.heap.size = s) (v : Value) (t : TypeId) : (W.alloc (.cells #[v] t)).cell? ⟨s, 0, none⟩ = some v := by
  subst h
  exact (Blk.new W _ _).cell 0
/-- a set without a node -/
def TS.drop (S : TS) (i g cap : Nat) : TS := { S.put i 0 0 with fb := g, fcap := cap, fl := S.fl + 1, fr := upd S.fr S.fl i, n := S.n - 1 }

end Go.Proofs.Ytabdjplpagcniaa

namespace Go.Proofs.Ytabdjplpagcniaa
open Go.RowKit

section
variable {P : Program} {Q : Exit → Act → World → Prop} {md : Region.Mode}
/-- an operation that does not wait for one of the others -/
def Relax (o o' : Oper) : Prop := o'.dst = o.dst ∧ o'.op = o.op ∧ o'.type = o.type ∧ o'.pos = o.pos ∧ o'.guard = o.guard ∧ ∀ e ∈ o'.after, e ∈ o.after
theorem Relax.wp {o o' : Oper} (h : Relax o o') {a : Act} {w : World} {K : Act → World → Prop} (hw : o'.wp P a w K Q) : o.wp P a w K Q := by
  obtain ⟨h1, h2, h3, h4, h5, -⟩ := h
  obtain ⟨d, op, ty, ps, af, g⟩ := o
  obtain ⟨d', op', ty', ps', af', g'⟩ := o'
  dsimp only at h1 h2 h3 h4 h5
  subst h1 h2 h3 h4 h5
  exact hw
theorem Relax.asks {o o' : Oper} (h : Relax o o') {a : Act} {w : World} (hw : o'.asks P a w) : o.asks P a w := by
  obtain ⟨h1, h2, h3, h4, h5, -⟩ := h
  obtain ⟨d, op, ty, ps, af, g⟩ := o
  obtain ⟨d', op', ty', ps', af', g'⟩ := o'
  dsimp only at h1 h2 h3 h4 h5
  subst h1 h2 h3 h4 h5
  exact hw
/-- the operations of the one are those of the other -/
def RelaxL (md : Region.Mode) (ops ops' : Array Oper) : Prop := ops'.size = ops.size ∧ ∀ i o, ops[i]? = some o → (∃ o', ops'[i]? = some o' ∧ Relax o o') ∧ ∀ e ∈ o.after, Region.binds md e = true → e.on < i
theorem RelaxL.yielded {ops ops' : Array Oper} (h : RelaxL md ops ops') (tmps : Array Value) : yielded ops' tmps = yielded ops tmps := by
  funext j
  unfold Go.yielded
  have : ((ops'[j]?).bind (·.dst)) = ((ops[j]?).bind (·.dst)) := by
    cases ho : ops[j]? with
    | none =>
      have h1 := Array.getElem?_eq_none_iff.1 ho
      rw [Array.getElem?_eq_none_iff.2 (by rw [h.1]; exact h1)]
    | some o =>
      obtain ⟨⟨o', h1, h2⟩, _⟩ := h.2 j o ho
      rw [h1]; exact h2.1
  rw [this]
theorem RelaxL.op {ops ops' : Array Oper} (h : RelaxL md ops ops') {i : Nat} {K : Act → World → Prop} {a : Act} {w : World} (hw : wpOp P ops' Q i K a w) : wpOp P ops Q i K a w := by
  unfold wpOp at hw ⊢
  cases ho : ops[i]? with
  | none =>
    have h1 := Array.getElem?_eq_none_iff.1 ho
    rw [Array.getElem?_eq_none_iff.2 (by rw [h.1]; exact h1)] at hw
    exact hw
  | some o =>
    obtain ⟨⟨o', h1, h2⟩, _⟩ := h.2 i o ho
    rw [h1] at hw
    simp only at hw ⊢
    have hwd : Region.wanted o' (Go.yielded ops' a.tmps) = Region.wanted o (Go.yielded ops a.tmps) := by
      rw [h.yielded]; unfold Region.wanted; rw [h2.2.2.2.2.1]
    rw [hwd] at hw
    split
    · rename_i hc
      rw [if_pos hc] at hw
      exact hw.imp h2.wp fun q => ⟨h2.asks q.1, q.2⟩
    · rename_i hc
      rw [if_neg hc, h2.1] at hw
      exact hw
theorem RelaxL.ready {ops ops' : Array Oper} (h : RelaxL md ops ops') {listed : Array Bool} {i : Nat} (hi : i ∈ Region.ready md ops listed) : i ∈ Region.ready md ops' listed := by
  obtain ⟨h1, o, ho, h2⟩ := mem_ready.1 hi
  obtain ⟨⟨o', h3, h4⟩, _⟩ := h.2 i o ho
  exact mem_ready.2 ⟨h1, o', h3, fun e he hb => h2 e (h4.2.2.2.2.2 e he) hb⟩
theorem RelaxL.done {ops ops' : Array Oper} (h : RelaxL md ops ops') {listed : Array Bool} (hsz : listed.size = ops.size) (hr : Region.ready md ops listed = []) : Region.ready md ops' listed = [] := by
  have all : ∀ n i, i < n → i < ops.size → listed.getD i true = true := by
    intro n
    induction n with
    | zero => intro i hi; omega
    | succ n ih =>
      intro i hi hs
      rcases Bool.eq_false_or_eq_true (listed.getD i true) with e | e
      · exact e
      · exfalso
        obtain ⟨o, ho⟩ : ∃ o, ops[i]? = some o := ⟨_, Array.getElem?_eq_getElem hs⟩
        have : i ∈ Region.ready md ops listed := mem_ready.2 ⟨e, o, ho, fun f hf hfb => by
          have hlt := (h.2 i o ho).2 f hf hfb
          have := ih f.on (by omega) (by omega)
          have hs2 : f.on < listed.size := by omega
          simp only [Array.getD, hs2, dif_pos] at this ⊢
          exact this⟩
        rw [hr] at this; cases this
  refine List.eq_nil_iff_forall_not_mem.2 fun i hi => ?_
  obtain ⟨h1, o', h2, _⟩ := mem_ready.1 hi
  have hs : i < ops.size := by have := (Array.getElem?_eq_some_iff.1 h2).1; rw [h.1] at this; exact this
  rw [all (i + 1) i (by omega) hs] at h1; cases h1
theorem RelaxL.any {ops ops' : Array Oper} (h : RelaxL md ops ops') : ∀ (fuel : Nat) (listed : Array Bool) (a : Act) (w : World), listed.size = ops.size → wpAny P md ops' Q fuel listed a w → wpAny P md ops Q fuel listed a w
  | 0, listed, a, w, hsz, hw => by
    refine ⟨?_, hw.2⟩
    refine List.eq_nil_iff_forall_not_mem.2 fun i hi => ?_
    have := h.ready hi
    rw [hw.1] at this; cases this
  | fuel + 1, listed, a, w, hsz, hw => ⟨fun hr => hw.1 (h.done hsz hr), fun i hi => wpOp_mono (fun a' w' h' => RelaxL.any h fuel _ a' w' (by simpa using hsz) h') (h.op (hw.2 i (h.ready hi)))⟩
/-- does it hold of a list and one with a wait struck? -/
def strike (l : List Oper) (j k : Nat) : List Oper := l.mapIdx fun i o => if i = j then { o with after := o.after.filter fun e => e.on != k } else o
def upB (l : List Oper) : Bool := (List.range l.length).all fun i => match l[i]? with | none => true | some o => o.after.all fun e => !Region.binds .any e || decide (e.on < i)
theorem relax_strike {l : List Oper} {j k : Nat} (hu : upB l = true) : RelaxL .any l.toArray (strike l j k).toArray := by
  refine ⟨by simp [strike], fun i o ho => ⟨?_, fun e he hbe => ?_⟩⟩
  · have ho' : l[i]? = some o := by simpa using ho
    refine ⟨if i = j then { o with after := o.after.filter fun e => e.on != k } else o, by simp [strike, ho'], ?_⟩
    split
    · exact ⟨rfl, rfl, rfl, rfl, rfl, fun e he => (Array.mem_filter.1 he).1⟩
    · exact ⟨rfl, rfl, rfl, rfl, rfl, fun e he => he⟩
  · have ho' : l[i]? = some o := by simpa using ho
    unfold upB at hu
    have hi : i < l.length := (List.getElem?_eq_some_iff.1 ho').1
    have := List.all_eq_true.1 hu i (List.mem_range.2 hi)
    rw [ho'] at this
    simp only at this
    have h2 := (Array.all_eq_true_iff_forall_mem.1 this) e he
    simpa [hbe] using h2
theorem wp_region_strike {id : Nat} {a : Act} {w : World} {l l' : List Oper} (j k : Nat) (hm : P.follows .mixedOrders = true) (hu : upB l = true) (hl : strike l j k = l')
    (h : wpAny P .any l'.toArray Q l'.toArray.size (Array.replicate l'.toArray.size false) a { w with drawn := w.drawn + 1 }) : (Code.region id l.toArray true).wp P Q a w := by
  have hr : RelaxL .any l.toArray l'.toArray := hl ▸ relax_strike hu
  refine wp_region_any hm ?_
  rw [hr.1] at h
  exact hr.any _ _ _ _ (by simp) h
theorem wpAny_float {a : Act} {w : World} {l : List Oper} (n : Nat) (A : List Nat) (z : Nat → Obj) (σ : List (Bool × Nat))
    (hB : (Region.noSelect l.toArray && headB .any l.toArray n && decide (σ.length + A.length = n) && decide (n ≤ l.length) && floatB l.toArray n A &&
      schedB .any l.toArray n σ ((List.range l.length).map (fun i => A.contains i)).toArray) = true)
    (hQ : ∀ c a d v w, Q (.panic c) (Act.put a d v) w ↔ Q (.panic c) a w)
    (hAl : ∀ i ∈ A, ∀ oi, l[i]? = some oi → ∀ ρ w, (execOp ρ oi).run P w = .ok (.value (ptrTo w.heap.size)) (w.alloc (z i)))
    (h : wpF P l.toArray w Q (fun a w' => ∀ w1, Below w'.heap.size w' w1 → Below w.heap.size w w1 → ∀ β, Good w z β A w1 → wpList P l.toArray Q (l.drop n) (puts l.toArray β A a) w1) σ a w.drew) :
    wpAny P .any l.toArray Q l.toArray.size (Array.replicate l.toArray.size false) a { w with drawn := w.drawn + 1 } := by
  simp only [Bool.and_eq_true, decide_eq_true_eq] at hB
  obtain ⟨⟨⟨⟨⟨hsel, hh⟩, hlen⟩, hn⟩, hfl⟩, hs⟩ := hB
  have ok := floatB_ok hfl
  have hdl : (l.drop n).length = l.toArray.size - n := by simp
  have hls : ∀ j, ((List.range l.length).map (fun i => A.contains i)).toArray.getD j false = true ↔ j ∈ A ∧ j < l.length := by
    intro j
    by_cases hj : j < l.length
    · simp [hj]
    · simp [hj]
  have s0 : FlSt .any l.toArray n A w z ((List.range l.length).map (fun i => A.contains i)).toArray (Array.replicate l.toArray.size false) [] (fun _ => 0) w.drew := by
    refine ⟨by simp, by simp, fun j hj => (by rw [getD_replicate_false] at hj; cases hj), fun j hj hA => absurd ((hls j).1 hj).1 hA, fun j _ => ?_, fun i hi => ?_, ?_, List.nodup_nil, fun i hi => (by cases hi), (Below.refl _ _).drew, fun i hi => (by cases hi), fun i hi => (by cases hi)⟩
    · rw [getD_replicate_false]; simp
    · obtain ⟨_, oi, hoi, _⟩ := ok.at_ i hi
      have := (Array.getElem?_eq_some_iff.1 hoi).1
      exact (hls i).2 ⟨hi, by simpa using this⟩
    · exact ⟨by simp, fun j oj _ hl => (by rw [getD_replicate_false] at hl; cases hl), fun t _ ht => getD_in (by simpa using ht) (getD_replicate_false _ _)⟩
  have H := float_main (T := fun a' w' => wpList P l.toArray Q (l.drop n) a' w') hsel hh hQ ok (fun i hi oi ho => hAl i hi oi (by simpa using ho)) _ σ [] (fun _ => 0) a w.drew w.drew _ _ rfl s0 hs (Below.refl _ _) h
  have := wpAny_of_headH (g := l.toArray.size - n) (fun listed a' w' hL => by
    have := wpAny_of_seq (md := .any) (Q' := Q) (l.drop n) n listed a' w' (fun j => by simp [List.getElem?_drop]) (by rw [hdl]; exact hL.1) hL.2
    rwa [hdl] at this) _ _ _ _ H
  have e : σ.length + (A.length - ([] : List Nat).length) + (l.toArray.size - n) = l.toArray.size := by simp; omega
  rw [e] at this
  exact this
theorem wp_region_struck {id : Nat} {a : Act} {w : World} {l : List Oper} (j k : Nat) (hm : P.follows .mixedOrders = true) (hu : upB l = true)
    (h : ∀ l', strike l j k = l' → wpAny P .any l'.toArray Q l'.toArray.size (Array.replicate l'.toArray.size false) a { w with drawn := w.drawn + 1 }) : (Code.region id l.toArray true).wp P Q a w :=
  wp_region_strike j k hm hu rfl (h _ rfl)
theorem wpAny_float1 {a : Act} {w : World} {l : List Oper} (n i : Nat) (σ : List (Bool × Nat)) {o : Oper} {d : Tmp} {t : TypeId} {c : Array Value}
    (hB : (Region.noSelect l.toArray && headB .any l.toArray n && decide (σ.length + [i].length = n) && decide (n ≤ l.length) && floatB l.toArray n [i] &&
      schedB .any l.toArray n σ ((List.range l.length).map (fun k => [i].contains k)).toArray) = true)
    (hQ : ∀ c a d v w, Q (.panic c) (Act.put a d v) w ↔ Q (.panic c) a w) (ho : l[i]? = some o) (hop : o.op = .alloc t) (hd : o.dst = some d) (hr : AllocRuns P t c)
    (h : wpF P l.toArray w Q (fun a w' => ∀ w1, Below w'.heap.size w' w1 → Below w.heap.size w w1 → ∀ b, w.heap.size ≤ b → w1.heap[b]? = some (.cells c t) → wpList P l.toArray Q (l.drop n) (a.put (some d) (ptrTo b)) w1) σ a w.drew) :
    wpAny P .any l.toArray Q l.toArray.size (Array.replicate l.toArray.size false) a { w with drawn := w.drawn + 1 } := by
  refine wpAny_float n [i] (fun _ => .cells c t) σ hB hQ (fun k hk oi hoi ρ w => ?_) (wpF_mono (fun a w' h' w1 hb1 hb2 β hg => ?_) _ _ _ h)
  · obtain rfl : k = i := by simpa using hk
    obtain rfl : o = oi := Option.some.inj (ho.symm.trans hoi)
    exact alloc_of hr o hop ρ w
  · have h1 := hg.1 i (List.mem_singleton.2 rfl)
    have e : puts l.toArray β [i] a = a.put (some d) (ptrTo (β i)) := by
      show a.put (dstOf l.toArray i) _ = _
      simp [dstOf, ho, hd]
    rw [e]
    exact h' w1 hb1 hb2 _ h1.1 h1.2
end
end Go.Proofs.Ytabdjplpagcniaa

namespace Go.Proofs.Ytabdjplpagcniaa
open Go.RowKit

theorem TM2.outs {w w' : World} {t : Nat} {S : TS} {L : List Nat} (h : TM2 w t S) (ho : OutL L w w') (h1 : t ∉ L) (h2 : S.nb ∉ L) (h3 : S.fb ∉ L) : TM2 w' t S := ⟨h.m.out ho h1 h2 (.inr h3), Nat.lt_of_lt_of_le h.lf ho.size⟩
theorem Fr.outs {w w' w2 : World} {t : Nat} {S S' : TS} {b : Nat} (h : Fr t S S' w w') (ho : OutL [b] w' w2) (hb : w.heap.size ≤ b) : Fr t S S' w w2 := by
  refine ⟨⟨ho.os.trans h.out.os, ho.tape.trans h.out.tape, ho.output.trans h.out.output, Nat.le_trans h.out.size ho.size, fun k hk hc => ?_⟩, h.nb, h.fb⟩
  exact (ho.block k (Nat.lt_of_lt_of_le hk h.out.size) (by simp; omega)).trans (h.out.block k hk hc)
theorem WayO.outs {w w' : World} {base : Nat} {v : Value} {l : List (Nat × Nat)} {b : Nat} (h : WayO w base v l) (ho : OutL [b] w w') (hL : v.ownBlock ≠ some b) : WayO w' base v l := by
  refine ⟨h.1, h.2.imp id ?_⟩
  rintro ⟨g, cap, cur, rfl, hbg, hg, r⟩
  exact ⟨g, cap, cur, rfl, hbg, (ho.block _ (Array.getElem?_eq_some_iff.1 hg).1 fun hm => by simp at hm; subst hm; exact hL rfl).trans hg, r⟩
theorem allocK : AllocRuns Try.prog 52 #[.int .i64 0, .int .i64 0] := fun w => by kernel_rfl
set_option maxRecDepth 100000 in
set_option maxHeartbeats 2000000 in
theorem Del_none (t : Nat) (S : TS) (c : Int → Int → Int) (x : Int) (T : Tr) (f : Nat → Int) (hf : f = fun i => c x (S.v i)) (hn : T.found f = 0) (w : World) (h : TM w t S) (ho : OrdOk S.ord c) (hx : In64 x) (hR : Rep S S.root T) (hv : ∀ i, i < S.len → In64 (S.v i)) (hs : T.size ≤ 1000000) :
    Calls Try.prog 18 #[ptr t 0, .int .i64 x] w fun e w' => e = .returned (.bool false) ∧ Below w.heap.size w w' := by
  have HC := Lib.hid (way_is t S c x T f hf _ rfl 0 hn w h ho hx hR hv hs)
  clear h hn hR hf ho hv
  go_enter Try.func18, Try.ntmps18
  go_wp2_with fail
  refine HC.out.mono ?_
  rintro e w1 ⟨v, rfl, hO, hb⟩
  clear HC hO
  go_wp2
  go_ret
  exact ⟨rfl, hb⟩

set_option maxRecDepth 100000 in
set_option maxHeartbeats 2000000 in
theorem Del_left (t : Nat) (S : TS) (c : Int → Int → Int) (x : Int) (T : Tr) (f : Nat → Int) (hf : f = fun i => c x (S.v i)) (n : Nat) (hn : T.found f = n) (hn1 : n ≠ 0) (l : List (Nat × Nat)) (hl : T.way f = l) (B : Int) (w : World) (h : TM2 w t S) (ho : OrdOk S.ord c) (hx : In64 x) (hR : Rep S S.root T) (hv : ∀ i, i < S.len → In64 (S.v i)) (hs : T.size < 1000000) (h0 : 0 < S.len) (hlen : S.len < 1000000) (hfl : S.fl < 1000000) (hk : KB S) (hd : DL S B) (hB : B < 1000000) (hn0 : 0 < S.n) (hsn : S.n < 1000000) (hk0 : S.k n 0 = 0) :
    Calls Try.prog 18 #[ptr t 0, .int .i64 x] w fun e w' => e = .returned (.bool true) ∧ ∃ g cap S', S' = (S.hang l (S.k n 1)).drop n g cap ∧ TM2 w' t S' ∧ Fr t S S' w w' := by
  have HC := Lib.hid (way_is t S c x T f hf l hl n hn w h.m ho hx hR hv (by omega))
  have hll : l.length < 1000000 := by rw [← hl]; exact Nat.lt_of_le_of_lt (Tr.way_len f T) hs
  have hok : ∀ s ∈ l, s.1 < S.len ∧ s.2 < 2 := by rw [← hl]; exact Tr.way_ok f hR
  have hnl : n < S.len := by rw [← hn]; exact Tr.found_lt f h0 hR
  have hgl := hnl
  have hne : ¬ ((n : Int) = 0) := by omega
  have HT := Lib.hid h
  have HK := Lib.hid (And.intro hk hd)
  have HO := Lib.hid hok
  have HG := Lib.hid (And.intro hll (And.intro hB (And.intro hn0 (And.intro hsn (And.intro hlen (And.intro hfl h0))))))
  have hkl0 : S.k n 0 < S.len := hk n hnl 0 (by decide)
  have hkl1 : S.k n 1 < S.len := hk n hnl 1 (by decide)
  obtain ⟨k0, ek0⟩ : ∃ k0, S.k n 0 = k0 := ⟨_, rfl⟩
  obtain ⟨k1, ek1⟩ : ∃ k1, S.k n 1 = k1 := ⟨_, rfl⟩
  rw [ek0] at hkl0 hk0
  rw [ek1] at hkl1
  rw [ek1]
  have EK0 := Lib.hid ek0
  have EK1 := Lib.hid ek1
  subst hk0
  
  clear h hn hR hf ho hv hl hk hd hok hs hll hB hn0 hsn hlen hfl ek0 ek1 h0
  go_enter Try.func18, Try.ntmps18
  go_wp2_with fail
  refine HC.out.mono ?_
  rintro e w1 ⟨v, rfl, hO, hb⟩
  have T1 := Lib.hid (HT.out.of hb)
  have O1 := Lib.hid hO
  have FB := Lib.hid hb
  clear HC hO hb
  go_wp2_with fail
  refine name_world ?_
  intro W1 hW1
  subst hW1
  have c0 := T1.out.m.n0 hnl
  have c1 := T1.out.m.n1 hnl
  rw [EK0.out] at c0
  rw [EK1.out] at c1
  have ltn := T1.out.m.row.lt
  refine wp_region_struck 8 7 (by kernel_rfl) (by kernel_rfl) ?_
  intro l_ hl_
  simp [strike] at hl_
  subst hl_
  refine wpAny_float1 9 7 [(true, 0), (true, 1), (true, 2), (false, 3), (true, 4), (true, 5), (true, 6), (true, 8)] (by kernel_rfl) (fun _ _ d _ _ => by cases d <;> exact Iff.rfl) rfl rfl rfl allocK ?_
  have hb : Below W1.heap.size W1 W1.drew := (Below.refl _ _).drew
  iterate 3
    refine wpF_take rfl rfl ?_
    go_big_quiet_step (rfl)
    refine wpQuiet_nil ?_
  refine wpF_do rfl ?_
  intro w1 hg K hK
  replace hb := hb.trans (hg.mono hb.size)
  clear hg
  go_wp2_with ((go_at_call 33; (with_reducible refine (at_any t S n _ (T1.out.m.of hb) hnl).mono ?_); rintro e w2 ⟨rfl, hn⟩))
  refine hK.out _ _ hn ?_
  replace hb := hb.trans (hn.mono hb.size)
  clear hK K
  clear hn
  iterate 4
    refine wpF_take rfl rfl ?_
    go_big_quiet_step (rfl)
    refine wpQuiet_nil ?_
  refine wpF_nil ?_
  clear hb
  intro w1 hg hb b1 lb1 nb1
  clear hg
  simp only [Act.put, ptrTo, List.setIfInBounds_toArray, List.set_cons_succ, List.set_cons_zero]
  simp only [List.drop_succ_cons, List.drop_zero]
  have kb : Blk w1 b1 #[.int .i64 0, .int .i64 0] 52 := nb1
  have d0 := kb.cell 0
  have d1 := kb.cell 1
  have e0 := kb.free 0
  have e1 := kb.free 1
  simp only [List.getElem?_toArray, List.getElem?_cons_zero, List.getElem?_cons_succ] at d0 d1
  have T2 := T1.out.of hb
  have o1 : OutL [b1] w1 ((w1.setCell ⟨b1, 0, none⟩ (.int .i64 (0))).setCell ⟨b1, 1, none⟩ (.int .i64 ((k1 : Nat)))) := ((OutL.refl [b1] w1).set (by simp) 0 none _).set (by simp) 1 none _
  have s0 := FB.out.size
  have l1 := T1.out.m.blk.lt
  have l2 := T1.out.m.row.lt
  have l3 := T1.out.lf
  have T3 := Lib.hid (T2.outs o1 (by simp; omega) (by simp; omega) (by simp; omega))
  have F3 := Lib.hid ((Fr.ofBelow (t := t) (S := S) (FB.out.trans (hb.mono FB.out.size))).outs o1 (by omega))
  have O3 := Lib.hid ((O1.out.of hb).outs o1 (fun hm => by have := (O1.out.lt _ hm).1; omega))
  clear hb c0 c1 T1 T2 O1 FB kb nb1 o1
  go_wp2_with fail
  have s2 := hang_sm S l k1
  refine (hang_any t S _ l k1 B _ T3.out.m O3.out.way HO.out HG.out.1 HK.out.2 (by have := HG.out.2.1; omega) HK.out.1 hkl1).mono ?_
  rintro e w3 ⟨rfl, T4, o4⟩
  obtain ⟨S2, hS2⟩ : ∃ S2, S.hang l k1 = S2 := ⟨_, rfl⟩
  rw [hS2] at T4 s2
  have F4 := F3.out.trans (Fr.ofOut o4 s2.1 s2.2.1)
  have hlf : S2.fb < w3.heap.size := by rw [s2.2.1]; exact Nat.lt_of_lt_of_le T3.out.lf o4.size
  have hg2 : n < S2.len := by rw [s2.2.2.2.1]; exact hgl
  have q1 := T4.c1
  have q2 : S2.len ≤ S2.cap := T4.row.le
  have cn := T4.nv hg2
  have cn1 := T4.n0 hg2
  have cn2 := T4.n1 hg2
  have cn3 := T4.nd hg2
  have fn := T4.row.free (n * 4)
  have fn1 := T4.row.free (n * 4 + 1)
  have fn2 := T4.row.free (n * 4 + 2)
  have fn3 := T4.row.free (n * 4 + 3)
  have lt4 := T4.blk.lt
  have ln4 := T4.row.lt
  have tn4 := T4.tn
  have e2 := T4.c2
  have T5 := T4.put (i := n) hg2 0 0
  obtain ⟨S3, hS3⟩ : ∃ S3, S2.put n 0 0 = S3 := ⟨_, rfl⟩
  rw [hS3] at T5
  have s3 : S3.fb = S2.fb ∧ S3.nb = S2.nb ∧ S3.fl = S2.fl ∧ S3.fv = S2.fv ∧ S3.n = S2.n ∧ S3.fr = S2.fr := by rw [← hS3]; exact ⟨rfl, rfl, rfl, rfl, rfl, rfl⟩
  have o5 : OutL [S2.nb] w3 ((((w3.setCell ⟨S2.nb, n * 4, none⟩ (.int .i64 0)).setCell ⟨S2.nb, n * 4 + 1, none⟩ (.int .i64 0)).setCell ⟨S2.nb, n * 4 + 2, none⟩ (.int .i64 0)).setCell ⟨S2.nb, n * 4 + 3, none⟩ (.int .i64 0)) :=
    ((((OutL.refl [S2.nb] w3).set (by simp) _ none _).set (by simp) _ none _).set (by simp) _ none _).set (by simp) _ none _
  have F5 : Fr t S S3 w _ := F4.trans (Fr.ofOut (t := t) (S := S2) (S' := S3) (o5.mono fun k _ hk => by simp at hk ⊢; exact .inr hk) s3.2.1 s3.1)
  have hlf5 := Nat.lt_of_lt_of_le hlf o5.size
  rw [← s3.1] at hlf5
  rw [← s3.2.2.2.1] at e2
  have hfl3 : S3.fl < 1000000 := by rw [s3.2.2.1, s2.2.2.2.2.1]; exact HG.out.2.2.2.2.2.1
  have hn3 : S3.n = S.n := by rw [s3.2.2.2.2.1, s2.2.2.1]
  have T5 := Lib.hid T5
  have F5 := Lib.hid F5
  have HS2 := Lib.hid hS2
  have HS3 := Lib.hid hS3
  have HN3 := Lib.hid hn3
  have HL5 := Lib.hid hlf5
  clear T4 o4 F4 hlf o5 s2 s3 hS2 hS3 hn3 hlf5 T3 F3 O3 HK HO HT
  obtain ⟨i0, hi, hz0, hz1, hz2⟩ := info_parts info_int
  obtain ⟨fvv, hfv⟩ : ∃ v, S3.fv = v := ⟨_, rfl⟩
  rw [hfv] at e2
  have HV := Lib.hid hfv
  clear hfv
  go_wp2_with (at_builtin; refine wpList_append_lies _ rfl _ _ 27 rfl 0 3 i0 (.int .i64 0) 1 8 Try.underlying27 hi hz0 hz1 hz2 rfl (by decide) _ S3.fl S3.frl rfl (HV.out ▸ (T5.out.of ((Below.refl _ _).alloc (Nat.le_refl _) _)).free) ⟨w3.heap.size, 0, none⟩ 1 1 [.int .i64 n] rfl rfl ?c1 ?c2 ?c3 ?c4 ?c5 ?_)
  case c1 =>
    intro k u hk
    match k, hk with
    | 0, hk => simp at hk; subst hk; rw [addz]; exact cell_newz (by simp) _ _
  case c2 => intro u hu; simp at hu; subst hu; rfl
  case c3 => unfold maxLen; omega
  case c4 => omega
  case c5 => exact Nat.zero_le _
  intro v1 w4 own1 gr1 hl1
  rw [← HV.out] at gr1 hl1
  obtain ⟨V, hV⟩ : ∃ V, ((((w3.setCell ⟨S2.nb, n * 4, none⟩ (.int .i64 0)).setCell ⟨S2.nb, n * 4 + 1, none⟩ (.int .i64 0)).setCell ⟨S2.nb, n * 4 + 2, none⟩ (.int .i64 0)).setCell ⟨S2.nb, n * 4 + 3, none⟩ (.int .i64 0)) = V := ⟨_, rfl⟩
  have T6 := T5.out
  have F6 := F5.out
  have L6 := HL5.out
  rw [hV] at T6 F6 L6 gr1
  have hs6 : V.heap.size = w3.heap.size := by rw [← hV]; simp
  clear T5 F5 HL5 cn cn1 cn2 cn3 fn fn1 fn2 fn3 q1 e2 hV
  have hal := (Below.refl V.heap.size V).alloc (Nat.le_refl _) (.cells #[.int .i64 n] 3)
  obtain ⟨g, cap, rfl, T7, hg, hlg, kb, hne2⟩ := (T6.of hal).push n gr1 (fun g' e => (hl1 g' e).imp id fun h => by simp [hs6]; exact h) own1
  have k2 := kb.cell 2
  have f2 := kb.free 2
  have k4 := kb.cell 4
  have f4 := kb.free 4
  have lt7 := kb.lt
  simp only [List.getElem?_toArray, List.getElem?_cons_zero, List.getElem?_cons_succ] at k2 k4
  obtain ⟨m, hm⟩ : ∃ m, S3.n = m + 1 := ⟨S3.n - 1, by have := HN3.out; have := HG.out.2.2.1; omega⟩
  have HW := Lib.hid (show wrap64 (m : Int) = (m : Int) from wrap64_id (by unfold In64; have := HN3.out; have := HG.out.2.2.2.1; omega))
  rw [hm] at k4
  have T8 := T7.setN m
  have o6 : OutL [t, S3.nb, S3.fb] V ((w4.setCell ⟨t, 2, none⟩ (.slice (some ⟨g, 0, none⟩) (S3.fl + 1) cap)).setCell ⟨t, 4, none⟩ (.int .i64 m)) :=
    ((((OutL.ofBelow hal).trans ⟨gr1.os, gr1.tape, gr1.output, gr1.size, fun k hk hc => hne2 k hk (by simp at hc; exact hc.2.2)⟩).set (by simp) 2 none _).set (by simp) 4 none _)
  have F7 : Fr t S ((S.hang l k1).drop n g cap) w ((w4.setCell ⟨t, 2, none⟩ (.slice (some ⟨g, 0, none⟩) (S3.fl + 1) cap)).setCell ⟨t, 4, none⟩ (.int .i64 m)) := by
    refine F6.trans ⟨o6, .inl ?_, ?_⟩
    · rw [HS2.out, ← HS3.out]; rfl
    · rcases hg with e | e
      · exact .inl e
      · right; have := hal.size; show V.heap.size ≤ g; omega
  have e7 : ({ ({ S3 with fb := g, fcap := cap, fl := S3.fl + 1, fr := upd S3.fr S3.fl n } : TS) with n := m } : TS) = (S.hang l k1).drop n g cap := by
    have hm' : m = S3.n - 1 := by omega
    rw [hm', HS2.out]
    have h3 := HS3.out
    subst h3
    rfl
  have T9 : TM2 ((w4.setCell ⟨t, 2, none⟩ (.slice (some ⟨g, 0, none⟩) (S3.fl + 1) cap)).setCell ⟨t, 4, none⟩ (.int .i64 m)) t ((S.hang l k1).drop n g cap) := by
    rw [← e7]
    exact ⟨T8, by show g < _; simp; exact hlg⟩
  have F7 := Lib.hid F7
  have T9 := Lib.hid T9
  clear T6 F6 L6 T7 T8 hg hlg kb hne2 own1 gr1 hl1 hal o6 e7 hm HN3 HV HS2 HS3
  go_wp2
  go_ret
  rw [HW.out]
  exact ⟨rfl, g, cap, _, rfl, T9.out, F7.out⟩

set_option maxRecDepth 100000 in
set_option maxHeartbeats 2000000 in
theorem Del_right (t : Nat) (S : TS) (c : Int → Int → Int) (x : Int) (T : Tr) (f : Nat → Int) (hf : f = fun i => c x (S.v i)) (n : Nat) (hn : T.found f = n) (hn1 : n ≠ 0) (l : List (Nat × Nat)) (hl : T.way f = l) (B : Int) (w : World) (h : TM2 w t S) (ho : OrdOk S.ord c) (hx : In64 x) (hR : Rep S S.root T) (hv : ∀ i, i < S.len → In64 (S.v i)) (hs : T.size < 1000000) (h0 : 0 < S.len) (hlen : S.len < 1000000) (hfl : S.fl < 1000000) (hk : KB S) (hd : DL S B) (hB : B < 1000000) (hn0 : 0 < S.n) (hsn : S.n < 1000000) (hk0 : S.k n 0 ≠ 0) (hk1 : S.k n 1 = 0) :
    Calls Try.prog 18 #[ptr t 0, .int .i64 x] w fun e w' => e = .returned (.bool true) ∧ ∃ g cap S', S' = (S.hang l (S.k n 0)).drop n g cap ∧ TM2 w' t S' ∧ Fr t S S' w w' := by
  have HC := Lib.hid (way_is t S c x T f hf l hl n hn w h.m ho hx hR hv (by omega))
  have hll : l.length < 1000000 := by rw [← hl]; exact Nat.lt_of_le_of_lt (Tr.way_len f T) hs
  have hok : ∀ s ∈ l, s.1 < S.len ∧ s.2 < 2 := by rw [← hl]; exact Tr.way_ok f hR
  have hnl : n < S.len := by rw [← hn]; exact Tr.found_lt f h0 hR
  have hgl := hnl
  have hne : ¬ ((n : Int) = 0) := by omega
  have HT := Lib.hid h
  have HK := Lib.hid (And.intro hk hd)
  have HO := Lib.hid hok
  have HG := Lib.hid (And.intro hll (And.intro hB (And.intro hn0 (And.intro hsn (And.intro hlen (And.intro hfl h0))))))
  have hkl0 : S.k n 0 < S.len := hk n hnl 0 (by decide)
  have hkl1 : S.k n 1 < S.len := hk n hnl 1 (by decide)
  obtain ⟨k0, ek0⟩ : ∃ k0, S.k n 0 = k0 := ⟨_, rfl⟩
  obtain ⟨k1, ek1⟩ : ∃ k1, S.k n 1 = k1 := ⟨_, rfl⟩
  rw [ek0] at hkl0 hk0
  rw [ek1] at hkl1 hk1
  rw [ek0]
  have EK0 := Lib.hid ek0
  have EK1 := Lib.hid ek1
  subst hk1
  have hk0n : ¬ ((k0 : Int) = 0) := by omega
  clear h hn hR hf ho hv hl hk hd hok hs hll hB hn0 hsn hlen hfl ek0 ek1 h0
  go_enter Try.func18, Try.ntmps18
  go_wp2_with fail
  refine HC.out.mono ?_
  rintro e w1 ⟨v, rfl, hO, hb⟩
  have T1 := Lib.hid (HT.out.of hb)
  have O1 := Lib.hid hO
  have FB := Lib.hid hb
  clear HC hO hb
  go_wp2_with fail
  refine name_world ?_
  intro W1 hW1
  subst hW1
  have c0 := T1.out.m.n0 hnl
  have c1 := T1.out.m.n1 hnl
  rw [EK0.out] at c0
  rw [EK1.out] at c1
  have ltn := T1.out.m.row.lt
  refine wp_region_struck 8 7 (by kernel_rfl) (by kernel_rfl) ?_
  intro l_ hl_
  simp [strike] at hl_
  subst hl_
  refine wpAny_float1 9 7 [(true, 0), (true, 1), (true, 2), (false, 3), (true, 4), (true, 5), (true, 6), (true, 8)] (by kernel_rfl) (fun _ _ d _ _ => by cases d <;> exact Iff.rfl) rfl rfl rfl allocK ?_
  have hb : Below W1.heap.size W1 W1.drew := (Below.refl _ _).drew
  iterate 3
    refine wpF_take rfl rfl ?_
    go_big_quiet_step (rfl)
    refine wpQuiet_nil ?_
  refine wpF_do rfl ?_
  intro w1 hg K hK
  replace hb := hb.trans (hg.mono hb.size)
  clear hg
  go_wp2_with ((go_at_call 33; (with_reducible refine (at_any t S n _ (T1.out.m.of hb) hnl).mono ?_); rintro e w2 ⟨rfl, hn⟩))
  refine hK.out _ _ hn ?_
  replace hb := hb.trans (hn.mono hb.size)
  clear hK K
  clear hn
  iterate 4
    refine wpF_take rfl rfl ?_
    go_big_quiet_step (rfl)
    refine wpQuiet_nil ?_
  refine wpF_nil ?_
  clear hb
  intro w1 hg hb b1 lb1 nb1
  clear hg
  simp only [Act.put, ptrTo, List.setIfInBounds_toArray, List.set_cons_succ, List.set_cons_zero]
  simp only [List.drop_succ_cons, List.drop_zero]
  have kb : Blk w1 b1 #[.int .i64 0, .int .i64 0] 52 := nb1
  have d0 := kb.cell 0
  have d1 := kb.cell 1
  have e0 := kb.free 0
  have e1 := kb.free 1
  simp only [List.getElem?_toArray, List.getElem?_cons_zero, List.getElem?_cons_succ] at d0 d1
  have T2 := T1.out.of hb
  have o1 : OutL [b1] w1 ((w1.setCell ⟨b1, 0, none⟩ (.int .i64 ((k0 : Nat)))).setCell ⟨b1, 1, none⟩ (.int .i64 (0))) := ((OutL.refl [b1] w1).set (by simp) 0 none _).set (by simp) 1 none _
  have s0 := FB.out.size
  have l1 := T1.out.m.blk.lt
  have l2 := T1.out.m.row.lt
  have l3 := T1.out.lf
  have T3 := Lib.hid (T2.outs o1 (by simp; omega) (by simp; omega) (by simp; omega))
  have F3 := Lib.hid ((Fr.ofBelow (t := t) (S := S) (FB.out.trans (hb.mono FB.out.size))).outs o1 (by omega))
  have O3 := Lib.hid ((O1.out.of hb).outs o1 (fun hm => by have := (O1.out.lt _ hm).1; omega))
  clear hb c0 c1 T1 T2 O1 FB kb nb1 o1
  go_wp2_with fail
  have s2 := hang_sm S l k0
  refine (hang_any t S _ l k0 B _ T3.out.m O3.out.way HO.out HG.out.1 HK.out.2 (by have := HG.out.2.1; omega) HK.out.1 hkl0).mono ?_
  rintro e w3 ⟨rfl, T4, o4⟩
  obtain ⟨S2, hS2⟩ : ∃ S2, S.hang l k0 = S2 := ⟨_, rfl⟩
  rw [hS2] at T4 s2
  have F4 := F3.out.trans (Fr.ofOut o4 s2.1 s2.2.1)
  have hlf : S2.fb < w3.heap.size := by rw [s2.2.1]; exact Nat.lt_of_lt_of_le T3.out.lf o4.size
  have hg2 : n < S2.len := by rw [s2.2.2.2.1]; exact hgl
  have q1 := T4.c1
  have q2 : S2.len ≤ S2.cap := T4.row.le
  have cn := T4.nv hg2
  have cn1 := T4.n0 hg2
  have cn2 := T4.n1 hg2
  have cn3 := T4.nd hg2
  have fn := T4.row.free (n * 4)
  have fn1 := T4.row.free (n * 4 + 1)
  have fn2 := T4.row.free (n * 4 + 2)
  have fn3 := T4.row.free (n * 4 + 3)
  have lt4 := T4.blk.lt
  have ln4 := T4.row.lt
  have tn4 := T4.tn
  have e2 := T4.c2
  have T5 := T4.put (i := n) hg2 0 0
  obtain ⟨S3, hS3⟩ : ∃ S3, S2.put n 0 0 = S3 := ⟨_, rfl⟩
  rw [hS3] at T5
  have s3 : S3.fb = S2.fb ∧ S3.nb = S2.nb ∧ S3.fl = S2.fl ∧ S3.fv = S2.fv ∧ S3.n = S2.n ∧ S3.fr = S2.fr := by rw [← hS3]; exact ⟨rfl, rfl, rfl, rfl, rfl, rfl⟩
  have o5 : OutL [S2.nb] w3 ((((w3.setCell ⟨S2.nb, n * 4, none⟩ (.int .i64 0)).setCell ⟨S2.nb, n * 4 + 1, none⟩ (.int .i64 0)).setCell ⟨S2.nb, n * 4 + 2, none⟩ (.int .i64 0)).setCell ⟨S2.nb, n * 4 + 3, none⟩ (.int .i64 0)) :=
    ((((OutL.refl [S2.nb] w3).set (by simp) _ none _).set (by simp) _ none _).set (by simp) _ none _).set (by simp) _ none _
  have F5 : Fr t S S3 w _ := F4.trans (Fr.ofOut (t := t) (S := S2) (S' := S3) (o5.mono fun k _ hk => by simp at hk ⊢; exact .inr hk) s3.2.1 s3.1)
  have hlf5 := Nat.lt_of_lt_of_le hlf o5.size
  rw [← s3.1] at hlf5
  rw [← s3.2.2.2.1] at e2
  have hfl3 : S3.fl < 1000000 := by rw [s3.2.2.1, s2.2.2.2.2.1]; exact HG.out.2.2.2.2.2.1
  have hn3 : S3.n = S.n := by rw [s3.2.2.2.2.1, s2.2.2.1]
  have T5 := Lib.hid T5
  have F5 := Lib.hid F5
  have HS2 := Lib.hid hS2
  have HS3 := Lib.hid hS3
  have HN3 := Lib.hid hn3
  have HL5 := Lib.hid hlf5
  clear T4 o4 F4 hlf o5 s2 s3 hS2 hS3 hn3 hlf5 T3 F3 O3 HK HO HT
  obtain ⟨i0, hi, hz0, hz1, hz2⟩ := info_parts info_int
  obtain ⟨fvv, hfv⟩ : ∃ v, S3.fv = v := ⟨_, rfl⟩
  rw [hfv] at e2
  have HV := Lib.hid hfv
  clear hfv
  go_wp2_with (at_builtin; refine wpList_append_lies _ rfl _ _ 27 rfl 0 3 i0 (.int .i64 0) 1 8 Try.underlying27 hi hz0 hz1 hz2 rfl (by decide) _ S3.fl S3.frl rfl (HV.out ▸ (T5.out.of ((Below.refl _ _).alloc (Nat.le_refl _) _)).free) ⟨w3.heap.size, 0, none⟩ 1 1 [.int .i64 n] rfl rfl ?c1 ?c2 ?c3 ?c4 ?c5 ?_)
  case c1 =>
    intro k u hk
    match k, hk with
    | 0, hk => simp at hk; subst hk; rw [addz]; exact cell_newz (by simp) _ _
  case c2 => intro u hu; simp at hu; subst hu; rfl
  case c3 => unfold maxLen; omega
  case c4 => omega
  case c5 => exact Nat.zero_le _
  intro v1 w4 own1 gr1 hl1
  rw [← HV.out] at gr1 hl1
  obtain ⟨V, hV⟩ : ∃ V, ((((w3.setCell ⟨S2.nb, n * 4, none⟩ (.int .i64 0)).setCell ⟨S2.nb, n * 4 + 1, none⟩ (.int .i64 0)).setCell ⟨S2.nb, n * 4 + 2, none⟩ (.int .i64 0)).setCell ⟨S2.nb, n * 4 + 3, none⟩ (.int .i64 0)) = V := ⟨_, rfl⟩
  have T6 := T5.out
  have F6 := F5.out
  have L6 := HL5.out
  rw [hV] at T6 F6 L6 gr1
  have hs6 : V.heap.size = w3.heap.size := by rw [← hV]; simp
  clear T5 F5 HL5 cn cn1 cn2 cn3 fn fn1 fn2 fn3 q1 e2 hV
  have hal := (Below.refl V.heap.size V).alloc (Nat.le_refl _) (.cells #[.int .i64 n] 3)
  obtain ⟨g, cap, rfl, T7, hg, hlg, kb, hne2⟩ := (T6.of hal).push n gr1 (fun g' e => (hl1 g' e).imp id fun h => by simp [hs6]; exact h) own1
  have k2 := kb.cell 2
  have f2 := kb.free 2
  have k4 := kb.cell 4
  have f4 := kb.free 4
  have lt7 := kb.lt
  simp only [List.getElem?_toArray, List.getElem?_cons_zero, List.getElem?_cons_succ] at k2 k4
  obtain ⟨m, hm⟩ : ∃ m, S3.n = m + 1 := ⟨S3.n - 1, by have := HN3.out; have := HG.out.2.2.1; omega⟩
  have HW := Lib.hid (show wrap64 (m : Int) = (m : Int) from wrap64_id (by unfold In64; have := HN3.out; have := HG.out.2.2.2.1; omega))
  rw [hm] at k4
  have T8 := T7.setN m
  have o6 : OutL [t, S3.nb, S3.fb] V ((w4.setCell ⟨t, 2, none⟩ (.slice (some ⟨g, 0, none⟩) (S3.fl + 1) cap)).setCell ⟨t, 4, none⟩ (.int .i64 m)) :=
    ((((OutL.ofBelow hal).trans ⟨gr1.os, gr1.tape, gr1.output, gr1.size, fun k hk hc => hne2 k hk (by simp at hc; exact hc.2.2)⟩).set (by simp) 2 none _).set (by simp) 4 none _)
  have F7 : Fr t S ((S.hang l k0).drop n g cap) w ((w4.setCell ⟨t, 2, none⟩ (.slice (some ⟨g, 0, none⟩) (S3.fl + 1) cap)).setCell ⟨t, 4, none⟩ (.int .i64 m)) := by
    refine F6.trans ⟨o6, .inl ?_, ?_⟩
    · rw [HS2.out, ← HS3.out]; rfl
    · rcases hg with e | e
      · exact .inl e
      · right; have := hal.size; show V.heap.size ≤ g; omega
  have e7 : ({ ({ S3 with fb := g, fcap := cap, fl := S3.fl + 1, fr := upd S3.fr S3.fl n } : TS) with n := m } : TS) = (S.hang l k0).drop n g cap := by
    have hm' : m = S3.n - 1 := by omega
    rw [hm', HS2.out]
    have h3 := HS3.out
    subst h3
    rfl
  have T9 : TM2 ((w4.setCell ⟨t, 2, none⟩ (.slice (some ⟨g, 0, none⟩) (S3.fl + 1) cap)).setCell ⟨t, 4, none⟩ (.int .i64 m)) t ((S.hang l k0).drop n g cap) := by
    rw [← e7]
    exact ⟨T8, by show g < _; simp; exact hlg⟩
  have F7 := Lib.hid F7
  have T9 := Lib.hid T9
  clear T6 F6 L6 T7 T8 hg hlg kb hne2 own1 gr1 hl1 hal o6 e7 hm HN3 HV HS2 HS3
  go_wp2
  go_ret
  rw [HW.out]
  exact ⟨rfl, g, cap, _, rfl, T9.out, F7.out⟩

end Go.Proofs.Ytabdjplpagcniaa

namespace Go.Proofs.Ytabdjplpagcniaa
open Go.RowKit

section
variable {P : Program} {C : World → Prop} {Q : Exit → Act → World → Prop}
theorem len_value {o : Oper} {c : Call} {ρ : Operand → Value} {w w' : World} {n : Next} (hp : o.op = .call c) (hb : c.callee = .builtin .len) (h : (execOp ρ o).run P w = .ok n w') : ∃ v, n = .value v := by
  unfold execOp at h
  rw [hp] at h
  dsimp only at h
  unfold resolve at h
  rw [hb] at h
  simp only [Sem.run_bind, Sem.run_pure, Result.andThen_ok, invoke, builtin] at h
  cases h1 : Sem.run P (Builtin.len_ c.argTypes o.type (c.args.map ρ)) w with
  | halt y w1 => rw [h1] at h; simp [Result.andThen] at h
  | ok p w1 => rw [h1] at h; simp only [Result.andThen] at h; exact ⟨_, ((Result.ok.inj h).1).symm⟩
theorem len_yields {o : Oper} {c : Call} {a : Act} {v : Value} (hp : o.op = .call c) (hb : c.callee = .builtin .len) (h : ∀ w, C w → o.quietAt P a C w v) : ∀ w, C w → (execOp a.eval o).run P w = .ok (.value v) w := by
  intro w hw
  have h3 := h w hw
  unfold Oper.quietAt at h3
  cases hr : (execOp a.eval o).run P w with
  | ok n w' =>
    rw [hr] at h3
    obtain ⟨u, rfl⟩ := len_value hp hb hr
    simp only [Oper.quietUpon] at h3
    rw [h3.1, h3.2]
  | halt x w' => rw [hr] at h3; simp only [Oper.quietUpon] at h3
theorem wpS_takeB {l : List Oper} {T : Act → World → Prop} {σ : List (Bool × Nat)} {i : Nat} {o : Oper} {c : Call} {a : Act} {w : World} (ho : l[i]? = some o) (hp : o.op = .call c) (hb : c.callee = .builtin .len)
    (h : wpQuiet P l.toArray C (fun a' => wpS P l.toArray C Q T σ a' w) [o] a) : wpS P l.toArray C Q T ((true, i) :: σ) a w := by
  unfold wpQuiet at h
  by_cases hw : Region.wanted o (yielded l.toArray a.tmps) = true
  · rw [if_pos hw] at h
    obtain ⟨v, h1, h2⟩ := h
    exact ⟨o, v, by simpa using ho, .inl ⟨hw, len_yields hp hb h1⟩, h2⟩
  · rw [if_neg hw] at h
    exact ⟨o, undef, by simpa using ho, .inr ⟨by simpa using hw, rfl⟩, h⟩
end
end Go.Proofs.Ytabdjplpagcniaa

namespace Go.Proofs.Ytabdjplpagcniaa
open Go.RowKit

theorem TM2.grown {w w1 : World} {t : Nat} {S : TS} {row : Option Nat} (h : TM2 w t S) (gr : w.grownBy w1 row) (hr : ∀ k, row = some k → k ≠ t ∧ k ≠ S.nb ∧ k ≠ S.fb) : TM2 w1 t S := by
  have o1 : OutL row.toList w w1 := ⟨gr.os, gr.tape, gr.output, gr.size, fun k hk hc => gr.block k hk fun e => hc (by rw [← e]; simp)⟩
  have hm : ∀ k, k ∈ row.toList → k ≠ t ∧ k ≠ S.nb ∧ k ≠ S.fb := fun k hk => hr k (by simpa using hk)
  exact h.outs o1 (fun q => (hm _ q).1 rfl) (fun q => (hm _ q).2.1 rfl) (fun q => (hm _ q).2.2 rfl)
theorem Fr.grown {t : Nat} {S S' : TS} {w w' w2 : World} {row : Option Nat} (h : Fr t S S' w w') (gr : w'.grownBy w2 row) (hr : ∀ k, row = some k → w.heap.size ≤ k) : Fr t S S' w w2 := by
  refine ⟨⟨gr.os.trans h.out.os, gr.tape.trans h.out.tape, gr.output.trans h.out.output, Nat.le_trans h.out.size gr.size, fun k hk hc => ?_⟩, h.nb, h.fb⟩
  exact (gr.block k (Nat.lt_of_lt_of_le hk h.out.size) fun e => by have := hr k e.symm; omega).trans (h.out.block k hk hc)
theorem Fr.outl {t : Nat} {S S' : TS} {w w' w2 : World} {L : List Nat} (h : Fr t S S' w w') (ho : OutL L w' w2) (hL : ∀ k ∈ L, w.heap.size ≤ k) : Fr t S S' w w2 := by
  refine ⟨⟨ho.os.trans h.out.os, ho.tape.trans h.out.tape, ho.output.trans h.out.output, Nat.le_trans h.out.size ho.size, fun k hk hc => ?_⟩, h.nb, h.fb⟩
  exact (ho.block k (Nat.lt_of_lt_of_le hk h.out.size) fun hm => by have := hL k hm; omega).trans (h.out.block k hk hc)
theorem Fr.of {t : Nat} {S S' : TS} {w w' w2 : World} (h : Fr t S S' w w') (hb : Below w'.heap.size w' w2) : Fr t S S' w w2 := h.trans (Fr.ofBelow hb)
theorem TM2.setV {w : World} {t : Nat} {S : TS} (h : TM2 w t S) {i : Nat} (hi : i < S.len) (x : Int) : TM2 (w.setCell ⟨S.nb, i * 4, none⟩ (.int .i64 x)) t (S.setV i x) := ⟨h.m.setV hi x, by show S.fb < _; simpa using h.lf⟩

set_option maxRecDepth 100000 in
set_option maxHeartbeats 2000000 in
theorem Del_both (t : Nat) (S : TS) (c : Int → Int → Int) (x : Int) (T : Tr) (f : Nat → Int) (hf : f = fun i => c x (S.v i)) (n : Nat) (hn : T.found f = n) (hn1 : n ≠ 0) (l : List (Nat × Nat)) (hl : T.way f = l) (B : Int) (w : World) (h : TM2 w t S) (ho : OrdOk S.ord c) (hx : In64 x) (hR : Rep S S.root T) (hv : ∀ i, i < S.len → In64 (S.v i)) (hs : T.size < 1000000) (h0 : 0 < S.len) (hlen : S.len < 1000000) (hfl : S.fl < 1000000) (hk : KB S) (hd : DL S B) (hB : B < 1000000) (hn0 : 0 < S.n) (hsn : S.n < 1000000) (hk0 : S.k n 0 ≠ 0) (hk1 : S.k n 1 ≠ 0)
    (TL : Tr) (hTL : Rep S (S.k n 0) TL) (dl : List (Nat × Nat)) (gone : Nat) (hdl : TL.down1 = dl ++ [(gone, 1)]) (hgl : gone < S.len) (hok2 : ∀ s ∈ dl, s.1 < S.len ∧ s.2 < 2) (hsz : T.size + TL.size < 900000) :
    Calls Try.prog 18 #[ptr t 0, .int .i64 x] w fun e w' => e = .returned (.bool true) ∧ ∃ g cap S', S' = ((S.setV n (S.v gone)).hang (l ++ [(n, 0)] ++ dl) (S.k gone 0)).drop gone g cap ∧ TM2 w' t S' ∧ Fr t S S' w w' := by
  have HC := Lib.hid (way_is t S c x T f hf l hl n hn w h.m ho hx hR hv (by omega))
  have hdlen : ∀ T' : Tr, T'.down1.length ≤ T'.size := by
    intro T'
    induction T' with
    | nil => exact Nat.le_refl _
    | nd i a b _ ih => show (b.down1.length + 1) ≤ a.size + b.size + 1; omega
  have hll : l.length + dl.length + 1 < 1000000 := by
    have h1 : l.length ≤ T.size := by rw [← hl]; exact Tr.way_len f T
    have h2 := hdlen TL
    rw [hdl, List.length_append] at h2
    simp at h2; omega
  have hok : ∀ s ∈ l ++ [(n, 0)] ++ dl, s.1 < S.len ∧ s.2 < 2 := by
    intro s hs
    rcases List.mem_append.1 hs with hs | hs
    · rcases List.mem_append.1 hs with hs | hs
      · exact Tr.way_ok f hR s (by rw [hl]; exact hs)
      · obtain rfl := List.mem_singleton.1 hs
        exact ⟨by rw [← hn]; exact Tr.found_lt f h0 hR, by show 0 < 2; decide⟩
    · exact hok2 s hs
  have hnl : n < S.len := by rw [← hn]; exact Tr.found_lt f h0 hR
  have hne : ¬ ((n : Int) = 0) := by omega
  have HT := Lib.hid h
  have hnw := h.m.row.lt
  have htw := h.m.blk.lt
  have hfw := h.lf
  have HK := Lib.hid (And.intro hk hd)
  have HO := Lib.hid hok
  have HG := Lib.hid (And.intro hll (And.intro hB (And.intro hn0 (And.intro hsn (And.intro hlen (And.intro hfl h0))))))
  have HD := Lib.hid (And.intro hTL (And.intro hdl (show TL.size ≤ 1000000 by omega)))
  have hkl0 : S.k n 0 < S.len := hk n hnl 0 (by decide)
  have hkl1 : S.k n 1 < S.len := hk n hnl 1 (by decide)
  have hkg : S.k gone 0 < S.len := hk gone hgl 0 (by decide)
  obtain ⟨k0, ek0⟩ : ∃ k0, S.k n 0 = k0 := ⟨_, rfl⟩
  obtain ⟨k1, ek1⟩ : ∃ k1, S.k n 1 = k1 := ⟨_, rfl⟩
  obtain ⟨kg, ekg⟩ : ∃ kg, S.k gone 0 = kg := ⟨_, rfl⟩
  rw [ek0] at hkl0 hk0
  rw [ek1] at hkl1 hk1
  rw [ekg] at hkg ⊢
  have EK0 := Lib.hid ek0
  have EK1 := Lib.hid ek1
  have EKG := Lib.hid ekg
  have hk0n : ¬ ((k0 : Int) = 0) := by omega
  have hk1n : ¬ ((k1 : Int) = 0) := by omega
  clear h hn hR hf ho hv hl hk hd hok hs hll hB hn0 hsn hlen hfl ek0 ek1 h0 hTL hdl hok2 hsz hdlen ekg
  go_enter Try.func18, Try.ntmps18
  go_wp2_with fail
  refine HC.out.mono ?_
  rintro e w1 ⟨v, rfl, hO, hb⟩
  have T1 := Lib.hid (HT.out.of hb)
  have O1 := Lib.hid hO
  have FB := Lib.hid hb
  clear HC hO hb
  go_wp2_with fail
  refine name_world ?_
  intro W1 hW1
  subst hW1
  have c0 := T1.out.m.n0 hnl
  have c1 := T1.out.m.n1 hnl
  rw [EK0.out] at c0
  rw [EK1.out] at c1
  have ltn := T1.out.m.row.lt
  refine wp_region_struck 8 7 (by kernel_rfl) (by kernel_rfl) ?_
  intro l_ hl_
  simp [strike] at hl_
  subst hl_
  refine wpAny_float1 9 7 [(true, 0), (true, 1), (true, 2), (false, 3), (true, 4), (true, 5), (true, 6), (true, 8)] (by kernel_rfl) (fun _ _ d _ _ => by cases d <;> exact Iff.rfl) rfl rfl rfl allocK ?_
  have hb : Below W1.heap.size W1 W1.drew := (Below.refl _ _).drew
  iterate 3
    refine wpF_take rfl rfl ?_
    go_big_quiet_step (rfl)
    refine wpQuiet_nil ?_
  refine wpF_do rfl ?_
  intro w1 hg K hK
  replace hb := hb.trans (hg.mono hb.size)
  clear hg
  go_wp2_with ((go_at_call 33; (with_reducible refine (at_any t S n _ (T1.out.m.of hb) hnl).mono ?_); rintro e w2 ⟨rfl, hn⟩))
  refine hK.out _ _ hn ?_
  replace hb := hb.trans (hn.mono hb.size)
  clear hK K
  clear hn
  iterate 4
    refine wpF_take rfl rfl ?_
    go_big_quiet_step (rfl)
    refine wpQuiet_nil ?_
  refine wpF_nil ?_
  clear hb
  intro w1 hg hb b1 lb1 nb1
  clear hg
  simp only [Act.put, ptrTo, List.setIfInBounds_toArray, List.set_cons_succ, List.set_cons_zero]
  simp only [List.drop_succ_cons, List.drop_zero]
  have kb : Blk w1 b1 #[.int .i64 0, .int .i64 0] 52 := nb1
  have d0 := kb.cell 0
  have d1 := kb.cell 1
  have e0 := kb.free 0
  have e1 := kb.free 1
  simp only [List.getElem?_toArray, List.getElem?_cons_zero, List.getElem?_cons_succ] at d0 d1
  have T2 := T1.out.of hb
  have o1 : OutL [b1] w1 ((w1.setCell ⟨b1, 0, none⟩ (.int .i64 (k0 : Nat))).setCell ⟨b1, 1, none⟩ (.int .i64 (k1 : Nat))) := ((OutL.refl [b1] w1).set (by simp) 0 none _).set (by simp) 1 none _
  have s0 := FB.out.size
  have s1 := hb.size
  have l1 := T1.out.m.blk.lt
  have l2 := T1.out.m.row.lt
  have l3 := T1.out.lf
  have T3 := Lib.hid (T2.outs o1 (by simp; omega) (by simp; omega) (by simp; omega))
  have F3 := Lib.hid ((Fr.ofBelow (t := t) (S := S) (FB.out.trans (hb.mono FB.out.size))).outs o1 (by omega))
  have O3 := Lib.hid ((O1.out.of hb).outs o1 (fun hm => by have := (O1.out.lt _ hm).1; omega))
  clear hb c0 c1 T1 T2 O1 FB kb nb1 o1
  go_wp2_with fail
  refine (end1_is t S k0 TL _ _ T3.out.m hk0 (EK0.out ▸ HD.out.1) HD.out.2.1 HD.out.2.2).mono ?_
  rintro e w4 ⟨v2, rfl, hO2, hb4⟩
  have T4 := T3.out.of hb4
  have F4 := Lib.hid (F3.out.of hb4)
  have O4 := Lib.hid (O3.out.of hb4)
  have hv4 : ∀ k, v.ownBlock = some k → k < w1.heap.size := fun k hk => by have := (O3.out.lt k hk).1; simpa using this
  rcases hO2.2 with ⟨rfl, hz⟩ | ⟨g2, cap2, cur2, rfl, hbg, hg2, r1, r2, r3, r4⟩
  · exfalso
    rw [List.length_append] at hz; simp at hz
  have hrow := hO2.way
  rcases hrow with ⟨hq, _⟩ | ⟨g3, cap3, hq, hrow⟩
  · cases hq
  cases hq
  have hlen2 : (dl ++ [(gone, 1)]).length = dl.length + 1 := by rw [List.length_append]; rfl
  have hc := hrow.cell (i := dl.length) (j := 0) (by omega) (by decide)
  rw [show wayf (dl ++ [(gone, 1)]) dl.length 0 = .int .i64 gone from by unfold wayf; rw [List.getD_eq_getElem?_getD, List.getElem?_append_right (Nat.le_refl _)]; simp, Nat.add_zero] at hc
  have hlt2 := hrow.lt
  have hcap2 : dl.length + 1 ≤ cap2 := by omega
  have hcap3 : cap2 ≤ 9223372036854775807 := by unfold maxLen at r2; omega
  have hg2b : w1.heap.size ≤ g2 := by have : ((w1.setCell ⟨b1, 0, none⟩ (.int .i64 (k0 : Nat))).setCell ⟨b1, 1, none⟩ (.int .i64 (k1 : Nat))).heap.size ≤ g2 := hbg
                                      simpa using this
  have hdcells : ∀ j u, (wayL dl)[j]? = some u → w4.cell? ⟨g2, j, none⟩ = some u := by
    intro j u hu
    have hj : j < dl.length * 2 := by rw [← wayL_len]; exact (List.getElem?_eq_some_iff.1 hu).1
    have e : j = j / 2 * 2 + j % 2 := by omega
    rw [e] at hu ⊢
    rw [wayL_get dl (j / 2) (j % 2) (by omega) (by omega)] at hu
    rw [hrow.cell (i := j / 2) (j := j % 2) (by omega) (by omega), ← hu]
    congr 1
    unfold wayf
    have : (dl ++ [(gone, 1)]).getD (j / 2) (0, 0) = dl.getD (j / 2) (0, 0) := by
      rw [List.getD_eq_getElem?_getD, List.getElem?_append_left (by omega), ← List.getD_eq_getElem?_getD]
    split <;> rw [this]
  have HDC := Lib.hid hdcells
  rw [hlen2]
  obtain ⟨m, hm⟩ : ∃ m, dl.length = m := ⟨_, rfl⟩
  rw [hm] at hc hcap2 ⊢
  have HM := Lib.hid hm
  have hm1 : m < m + 1 := by omega
  have HR2 := Lib.hid hg2
  have T4 := Lib.hid T4
  clear T3 F3 O3 hb4 hO2 hrow r1 r2 r3 r4 hlen2 hdcells hm hbg hg2 d0 d1 e0 e1
  go_wp2_with fail
  refine (at_any t S n _ T4.out.m hnl).mono ?_
  rintro e w5 ⟨rfl, hn5⟩
  have T5 := Lib.hid (T4.out.of hn5)
  have F5 := Lib.hid (F4.out.of hn5)
  have O5 := Lib.hid (O4.out.of hn5)
  have HDC5 := Lib.hid (fun j u hu => (hn5.cell (p := ⟨g2, j, none⟩) hlt2).trans (HDC.out j u hu))
  have hlt5 := Nat.lt_of_lt_of_le hlt2 hn5.size
  clear T4 F4 O4 HDC hn5 hc HR2 hlt2
  go_wp2_with fail
  refine (at_any t S gone _ T5.out.m hgl).mono ?_
  rintro e w6 ⟨rfl, hn6⟩
  have T6 := T5.out.of hn6
  have F6 := F5.out.of hn6
  have O6 := O5.out.of hn6
  have HDC6 := fun j u hu => (hn6.cell (p := ⟨g2, j, none⟩) hlt5).trans (HDC5.out j u hu)
  have hlt6 := Nat.lt_of_lt_of_le hlt5 hn6.size
  have cg := T6.m.nv hgl
  have cn := T6.m.nv hnl
  have fn := T6.m.row.free (n * 4)
  have ng : g2 ≠ S.nb := by omega
  have T7 := Lib.hid (T6.setV hnl (S.v gone))
  have F7 : Hid (Fr t S (S.setV n (S.v gone)) w (w6.setCell ⟨S.nb, n * 4, none⟩ (.int .i64 (S.v gone)))) := Lib.hid ⟨F6.out.set (by simp) _ none _, F6.nb, F6.fb⟩
  have O7 := Lib.hid (O6.outs (b := S.nb) ((OutL.refl [S.nb] w6).set (b := S.nb) (by simp) (n * 4) none (.int .i64 (S.v gone))) (fun e => by have := (O6.lt _ e).2; omega))
  have HDC7 : Hid (∀ j u, (wayL dl)[j]? = some u → (w6.setCell ⟨S.nb, n * 4, none⟩ (.int .i64 (S.v gone))).cell? ⟨g2, j, none⟩ = some u) := Lib.hid fun j u hu => by exact (World.cell?_of_block (a := ⟨g2, j, none⟩) (Below.heap_setCell _ _ _ _ (by simpa using ng))).trans (HDC6 j u hu)
  clear T5 F5 O5 HDC5 hn6 T6 F6 O6 HDC6
  obtain ⟨i0, hi, hz0, hz1, hz2⟩ := info_parts info_step
  go_wp2_with fail
  refine name_world ?_
  intro W7 hW7
  rw [← hW7] at T7 F7 O7 HDC7
  have hlt7 : g2 < W7.heap.size := by rw [hW7]; simpa using hlt6
  have hv7 : ∀ k, v.ownBlock = some k → k < w1.heap.size := hv4
  clear hW7 cg cn fn hlt6 ng
  refine wp_region_upl v.ownBlock.toList 12 [(true, 0), (true, 1), (true, 2), (true, 5), (true, 6), (true, 7), (true, 8), (true, 9), (false, 3), (false, 4), (false, 10), (true, 11)] (by kernel_rfl) (by kernel_rfl) (fun _ _ d _ _ h => by cases d <;> exact h) ?_
  have hb : OutL v.ownBlock.toList W7 W7.drew := (OutL.refl _ _).drew
  iterate 8
    first | refine wpS_takeL rfl rfl ?_ | refine wpS_takeB rfl rfl rfl ?_
    go_big_quiet_step (rfl)
    refine wpQuiet_nil ?_
  refine wpS_doL rfl ?_
  intro K hK
  go_wp2_with fail
  refine hK.out _ _ (upl (hb.alloc _)) ?_
  clear hK K
  refine wpS_doL rfl ?_
  intro K hK
  have hal : Below W7.heap.size W7 (W7.drew.alloc (.cells #[.int .i64 n, .int .i64 0] 63)) := ((Below.refl _ _).drew).alloc (by simp) _
  go_wp2_with (at_builtin; refine wpList_append_lies _ rfl _ _ 57 rfl w.heap.size 63 i0 (.agg #[.int .i64 0, .int .i64 0]) 2 16 Try.underlying57 hi hz0 hz1 hz2 rfl (by decide) _ l.length (wayL l) rfl (O7.out.of hal) ⟨W7.heap.size, 0, none⟩ 1 1 [.int .i64 n, .int .i64 0] rfl rfl ?c1 ?c2 ?c3 ?c4 ?c5 ?_)
  case c1 =>
    intro k u hk
    have kz := Blk.new W7.drew #[.int .i64 n, .int .i64 0] 63
    match k, hk with
    | 0, hk => simp at hk; subst hk; rw [addz]; exact kz.cell 0
    | 1, hk => simp at hk; subst hk; exact (show (⟨W7.heap.size, 0, none⟩ : Addr).add 1 = ⟨W7.heap.size, 1, none⟩ by simp [Addr.add]) ▸ kz.cell 1
  case c2 => intro u hu; simp at hu; rcases hu with rfl | rfl <;> rfl
  case c3 => have := HG.out.1; unfold maxLen; omega
  case c4 => have := HG.out.1; omega
  case c5 => exact Nat.le_trans F7.out.out.size hal.size
  intro v1 w8 own1 gr1 hl1
  have hb1 : OutL v.ownBlock.toList W7 w8 := (OutL.ofBelow hal).trans ⟨gr1.os, gr1.tape, gr1.output, gr1.size, fun k hk hc => gr1.block k hk fun e => hc (by rw [← e]; simp)⟩
  have hvl : ∀ k ∈ v.ownBlock.toList, w.heap.size ≤ k ∧ k < w1.heap.size := fun k hk => by
    have hk' : v.ownBlock = some k := by simpa using hk
    exact ⟨(O7.out.lt k hk').2, hv7 k hk'⟩
  have HDC8 : ∀ j u, (wayL dl)[j]? = some u → w8.cell? ((⟨g2, 0, none⟩ : Addr).add j) = some u := by
    intro j u hu
    have e0 : (⟨g2, 0, none⟩ : Addr).add j = ⟨g2, j, none⟩ := by unfold Addr.add; split <;> simp_all
    rw [e0]
    exact (World.cell?_of_block (a := ⟨g2, j, none⟩) (hb1.block g2 hlt7 fun hm => by have := (hvl _ hm).2; omega)).trans (HDC7.out j u hu)
  have own1' : w8.ownsRow w.heap.size 63 2 v1 (l.length + 1) (wayL (l ++ [(n, 0)])) := by rw [wayL_app]; exact own1
  have hv1 : ∀ k, v1.ownBlock = some k → k ∈ v.ownBlock.toList ∨ W7.heap.size ≤ k := fun k hk => (hl1 k hk).imp (fun e => by rw [e]; simp) fun h => Nat.le_trans (by simp) h
  go_wp2_with fail
  refine hK.out _ _ (upl hb1) ?_
  clear hK K own1 gr1 hl1 hal hb
  refine wpS_doL rfl ?_
  intro K hK
  go_wp2_with (at_builtin; refine wpList_append_lies _ rfl _ _ 57 rfl w.heap.size 63 i0 (.agg #[.int .i64 0, .int .i64 0]) 2 16 Try.underlying57 hi hz0 hz1 hz2 rfl (by decide) _ (l.length + 1) (wayL (l ++ [(n, 0)])) rfl own1' ⟨g2, 0, none⟩ m cap2 (wayL dl) rfl (by rw [wayL_len, HM.out]) HDC8 ?c2 ?c3 ?c4 ?c5 ?_)
  case c2 =>
    intro u hu
    obtain ⟨s, _, hs⟩ := List.mem_flatMap.1 hu
    simp at hs
    rcases hs with rfl | rfl <;> rfl
  case c3 => have := HG.out.1; have := HM.out; unfold maxLen; omega
  case c4 => have := HG.out.1; have := HM.out; omega
  case c5 => have := F7.out.out.size; have := hb1.size; omega
  intro v3 w9 own2 gr2 _
  have hb2 : OutL v.ownBlock.toList W7 w9 := by
    refine ⟨gr2.os.trans hb1.os, gr2.tape.trans hb1.tape, gr2.output.trans hb1.output, Nat.le_trans hb1.size gr2.size, fun k hk hc => ?_⟩
    refine (gr2.block k (Nat.lt_of_lt_of_le hk hb1.size) fun e => ?_).trans (hb1.block k hk hc)
    rcases hv1 k e.symm with q | q
    · exact hc q
    · omega
  have O9 : Hid (WayO w9 w.heap.size v3 (l ++ [(n, 0)] ++ dl)) := Lib.hid (by
    have e : (l ++ [(n, 0)] ++ dl).length = l.length + 1 + m := by rw [List.length_append, List.length_append, HM.out]; rfl
    unfold WayO; rw [wayL_app, e]; exact own2)
  have T9 := Lib.hid (T7.out.outs hb2 (fun hm => by have := (hvl _ hm).1; omega) (fun hm => by have h_ := (hvl _ hm).1; have : S.nb < w.heap.size := hnw; exact absurd (show w.heap.size ≤ S.nb from h_) (by omega)) (fun hm => by have h_ := (hvl _ hm).1; exact absurd (show w.heap.size ≤ S.fb from h_) (by omega)))
  have F9 := Lib.hid (F7.out.outl hb2 fun k hk => (hvl k hk).1)
  go_wp2_with fail
  refine hK.out _ _ (upl hb2) ?_
  clear hK K own1' own2 gr2 hb1 hb2 HDC8 HDC7 T7 F7 O7 hv1 hvl
  refine wpS_takeL rfl rfl ?_
  go_big_quiet_step (rfl)
  refine wpQuiet_nil ?_
  refine wpS_nil ?_
  simp only [List.drop_succ_cons, List.drop_zero]
  go_wp2_with fail
  refine (at_any t (S.setV n (S.v gone)) gone _ T9.out.m hgl).mono ?_
  rintro e wa ⟨rfl, hna⟩
  have Ta := T9.out.of hna
  have cg := Ta.m.n0 (i := gone) hgl
  rw [show (S.setV n (S.v gone)).k gone 0 = kg from EKG.out] at cg
  have Oa := Lib.hid (O9.out.of hna)
  have Fa := Lib.hid (F9.out.of hna)
  have Ta := Lib.hid Ta
  clear T9 F9 O9 hna hi hz0 hz1 hz2 i0
  go_wp2_with fail
  have s2 := hang_sm (S.setV n (S.v gone)) (l ++ [(n, 0)] ++ dl) kg
  refine (hang_any t (S.setV n (S.v gone)) _ (l ++ [(n, 0)] ++ dl) kg B _ Ta.out.m Oa.out.way HO.out (by have := HG.out.1; have := HM.out; rw [List.length_append, List.length_append]; simp; omega) HK.out.2 (by have := HG.out.2.1; omega) HK.out.1 hkg).mono ?_
  rintro e w3 ⟨rfl, T4, o4⟩
  obtain ⟨S2, hS2⟩ : ∃ S2, (S.setV n (S.v gone)).hang (l ++ [(n, 0)] ++ dl) kg = S2 := ⟨_, rfl⟩
  rw [hS2] at T4 s2
  have F4 := Fa.out.trans (Fr.ofOut o4 s2.1 s2.2.1)
  have hlf : S2.fb < w3.heap.size := by rw [s2.2.1]; exact Nat.lt_of_lt_of_le Ta.out.lf o4.size
  have hg2 : gone < S2.len := by rw [s2.2.2.2.1]; exact hgl
  have q1 := T4.c1
  have q2 : S2.len ≤ S2.cap := T4.row.le
  have cn := T4.nv hg2
  have cn1 := T4.n0 hg2
  have cn2 := T4.n1 hg2
  have cn3 := T4.nd hg2
  have fn := T4.row.free (gone * 4)
  have fn1 := T4.row.free (gone * 4 + 1)
  have fn2 := T4.row.free (gone * 4 + 2)
  have fn3 := T4.row.free (gone * 4 + 3)
  have lt4 := T4.blk.lt
  have ln4 := T4.row.lt
  have tn4 := T4.tn
  have e2 := T4.c2
  have T5 := T4.put (i := gone) hg2 0 0
  obtain ⟨S3, hS3⟩ : ∃ S3, S2.put gone 0 0 = S3 := ⟨_, rfl⟩
  rw [hS3] at T5
  have s3 : S3.fb = S2.fb ∧ S3.nb = S2.nb ∧ S3.fl = S2.fl ∧ S3.fv = S2.fv ∧ S3.n = S2.n ∧ S3.fr = S2.fr := by rw [← hS3]; exact ⟨rfl, rfl, rfl, rfl, rfl, rfl⟩
  have o5 : OutL [S2.nb] w3 ((((w3.setCell ⟨S2.nb, gone * 4, none⟩ (.int .i64 0)).setCell ⟨S2.nb, gone * 4 + 1, none⟩ (.int .i64 0)).setCell ⟨S2.nb, gone * 4 + 2, none⟩ (.int .i64 0)).setCell ⟨S2.nb, gone * 4 + 3, none⟩ (.int .i64 0)) :=
    ((((OutL.refl [S2.nb] w3).set (by simp) _ none _).set (by simp) _ none _).set (by simp) _ none _).set (by simp) _ none _
  have F5 : Fr t S S3 w _ := F4.trans (Fr.ofOut (t := t) (S := S2) (S' := S3) (o5.mono fun k _ hk => by simp at hk ⊢; exact .inr hk) s3.2.1 s3.1)
  have hlf5 := Nat.lt_of_lt_of_le hlf o5.size
  rw [← s3.1] at hlf5
  rw [← s3.2.2.2.1] at e2
  have hfl3 : S3.fl < 1000000 := by rw [s3.2.2.1, s2.2.2.2.2.1]; exact HG.out.2.2.2.2.2.1
  have hn3 : S3.n = S.n := by rw [s3.2.2.2.2.1, s2.2.2.1]; rfl
  have T5 := Lib.hid T5
  have F5 := Lib.hid F5
  have HS2 := Lib.hid hS2
  have HS3 := Lib.hid hS3
  have HN3 := Lib.hid hn3
  have HL5 := Lib.hid hlf5
  clear T4 o4 F4 hlf o5 s2 s3 hS2 hS3 hn3 hlf5 Ta Fa Oa HK HO HT
  obtain ⟨i0, hi, hz0, hz1, hz2⟩ := info_parts info_int
  obtain ⟨fvv, hfv⟩ : ∃ v, S3.fv = v := ⟨_, rfl⟩
  rw [hfv] at e2
  have HV := Lib.hid hfv
  clear hfv
  go_wp2_with (at_builtin; refine wpList_append_lies _ rfl _ _ 27 rfl 0 3 i0 (.int .i64 0) 1 8 Try.underlying27 hi hz0 hz1 hz2 rfl (by decide) _ S3.fl S3.frl rfl (HV.out ▸ (T5.out.of ((Below.refl _ _).alloc (Nat.le_refl _) _)).free) ⟨w3.heap.size, 0, none⟩ 1 1 [.int .i64 gone] rfl rfl ?c1 ?c2 ?c3 ?c4 ?c5 ?_)
  case c1 =>
    intro k u hk
    match k, hk with
    | 0, hk => simp at hk; subst hk; rw [addz]; exact cell_newz (by simp) _ _
  case c2 => intro u hu; simp at hu; subst hu; rfl
  case c3 => unfold maxLen; omega
  case c4 => omega
  case c5 => exact Nat.zero_le _
  intro v1 w4 own1 gr1 hl1
  rw [← HV.out] at gr1 hl1
  obtain ⟨V, hV⟩ : ∃ V, ((((w3.setCell ⟨S2.nb, gone * 4, none⟩ (.int .i64 0)).setCell ⟨S2.nb, gone * 4 + 1, none⟩ (.int .i64 0)).setCell ⟨S2.nb, gone * 4 + 2, none⟩ (.int .i64 0)).setCell ⟨S2.nb, gone * 4 + 3, none⟩ (.int .i64 0)) = V := ⟨_, rfl⟩
  have T6 := T5.out
  have F6 := F5.out
  have L6 := HL5.out
  rw [hV] at T6 F6 L6 gr1
  have hs6 : V.heap.size = w3.heap.size := by rw [← hV]; simp
  clear T5 F5 HL5 cn cn1 cn2 cn3 fn fn1 fn2 fn3 q1 e2 hV
  have hal := (Below.refl V.heap.size V).alloc (Nat.le_refl _) (.cells #[.int .i64 gone] 3)
  obtain ⟨g, cap, rfl, T7, hg, hlg, kb, hne2⟩ := (T6.of hal).push gone gr1 (fun g' e => (hl1 g' e).imp id fun h => by simp [hs6]; exact h) own1
  have k2 := kb.cell 2
  have f2 := kb.free 2
  have k4 := kb.cell 4
  have f4 := kb.free 4
  have lt7 := kb.lt
  simp only [List.getElem?_toArray, List.getElem?_cons_zero, List.getElem?_cons_succ] at k2 k4
  obtain ⟨m, hm⟩ : ∃ m, S3.n = m + 1 := ⟨S3.n - 1, by have := HN3.out; have := HG.out.2.2.1; omega⟩
  have HW := Lib.hid (show wrap64 (m : Int) = (m : Int) from wrap64_id (by unfold In64; have := HN3.out; have := HG.out.2.2.2.1; omega))
  rw [hm] at k4
  have T8 := T7.setN m
  have o6 : OutL [t, S3.nb, S3.fb] V ((w4.setCell ⟨t, 2, none⟩ (.slice (some ⟨g, 0, none⟩) (S3.fl + 1) cap)).setCell ⟨t, 4, none⟩ (.int .i64 m)) :=
    ((((OutL.ofBelow hal).trans ⟨gr1.os, gr1.tape, gr1.output, gr1.size, fun k hk hc => hne2 k hk (by simp at hc; exact hc.2.2)⟩).set (by simp) 2 none _).set (by simp) 4 none _)
  have F7 : Fr t S (((S.setV n (S.v gone)).hang (l ++ [(n, 0)] ++ dl) kg).drop gone g cap) w ((w4.setCell ⟨t, 2, none⟩ (.slice (some ⟨g, 0, none⟩) (S3.fl + 1) cap)).setCell ⟨t, 4, none⟩ (.int .i64 m)) := by
    refine F6.trans ⟨o6, .inl ?_, ?_⟩
    · rw [HS2.out, ← HS3.out]; rfl
    · rcases hg with e | e
      · exact .inl e
      · right; have := hal.size; show V.heap.size ≤ g; omega
  have e7 : ({ ({ S3 with fb := g, fcap := cap, fl := S3.fl + 1, fr := upd S3.fr S3.fl gone } : TS) with n := m } : TS) = ((S.setV n (S.v gone)).hang (l ++ [(n, 0)] ++ dl) kg).drop gone g cap := by
    have hm' : m = S3.n - 1 := by omega
    rw [hm', HS2.out]
    have h3 := HS3.out
    subst h3
    rfl
  have T9 : TM2 ((w4.setCell ⟨t, 2, none⟩ (.slice (some ⟨g, 0, none⟩) (S3.fl + 1) cap)).setCell ⟨t, 4, none⟩ (.int .i64 m)) t (((S.setV n (S.v gone)).hang (l ++ [(n, 0)] ++ dl) kg).drop gone g cap) := by
    rw [← e7]
    exact ⟨T8, by show g < _; simp; exact hlg⟩
  have F7 := Lib.hid F7
  have T9 := Lib.hid T9
  clear T6 F6 L6 T7 T8 hg hlg kb hne2 own1 gr1 hl1 hal o6 e7 hm HN3 HV HS2 HS3
  go_wp2
  go_ret
  rw [HW.out]
  exact ⟨rfl, g, cap, _, rfl, T9.out, F7.out⟩

end Go.Proofs.Ytabdjplpagcniaa

namespace Go.Proofs.Ytabdjplpagcniaa
open Go.RowKit

def Tr.ht : Tr → Nat
  | .nil => 0
  | .nd _ l r => max l.ht r.ht + 1
def Tr.no : Tr → List Nat
  | .nil => []
  | .nd i l r => l.no ++ i :: r.no
/-- a node with a kid to a side -/
def mk (p s : Nat) (X Y : Tr) : Tr := if s = 0 then .nd p X Y else .nd p Y X
theorem mk_ht (p s : Nat) (X Y : Tr) : (mk p s X Y).ht = max X.ht Y.ht + 1 := by
  unfold mk; split
  · rfl
  · show max Y.ht X.ht + 1 = _; omega
theorem mk_mem (p s : Nat) (X Y : Tr) (n : Nat) : n ∈ (mk p s X Y).no ↔ n = p ∨ n ∈ X.no ∨ n ∈ Y.no := by
  unfold mk; split
  · show n ∈ X.no ++ p :: Y.no ↔ _; rw [List.mem_append, List.mem_cons]; constructor <;> (intro h; rcases h with h | h | h <;> simp [h])
  · show n ∈ Y.no ++ p :: X.no ↔ _; rw [List.mem_append, List.mem_cons]; constructor <;> (intro h; rcases h with h | h | h <;> simp [h])
/-- the tree lies in the set, with its depths -/
def Ok (S : TS) : Nat → Tr → Prop
  | j, .nil => j = 0
  | j, .nd i l r => j = i ∧ 0 < i ∧ i < S.len ∧ S.d i = (Tr.nd i l r).ht ∧ Ok S (S.k i 0) l ∧ Ok S (S.k i 1) r
theorem Ok.rep {S : TS} : ∀ {j : Nat} {T : Tr}, Ok S j T → Rep S j T
  | _, .nil, h => h
  | _, .nd _ _ _, h => ⟨h.1, h.2.1, h.2.2.1, h.2.2.2.2.1.rep, h.2.2.2.2.2.rep⟩
theorem Ok.d {S : TS} (h0 : S.d 0 = 0) : ∀ {j : Nat} {T : Tr}, Ok S j T → S.d j = T.ht
  | _, .nil, h => by have h1 : _ = 0 := h; rw [h1, h0]; rfl
  | _, .nd _ _ _, h => by rw [h.1]; exact h.2.2.2.1
theorem Ok.mk {S : TS} {j p s : Nat} {X Y : Tr} (hs : s < 2) : Ok S j (mk p s X Y) ↔ (j = p ∧ 0 < p ∧ p < S.len ∧ S.d p = (max X.ht Y.ht + 1 : Nat) ∧ Ok S (S.k p s) X ∧ Ok S (S.k p (1 - s)) Y) := by
  match s, hs with
  | 0, _ => exact Iff.rfl
  | 1, _ =>
    show (j = p ∧ 0 < p ∧ p < S.len ∧ S.d p = ((max Y.ht X.ht + 1 : Nat) : Int) ∧ Ok S (S.k p 0) Y ∧ Ok S (S.k p 1) X) ↔ _
    rw [Nat.max_comm]
    constructor
    · rintro ⟨a, b, c, d, e, f⟩; exact ⟨a, b, c, d, f, e⟩
    · rintro ⟨a, b, c, d, e, f⟩; exact ⟨a, b, c, d, f, e⟩
theorem Ok.congr {S S' : TS} (hl : S.len ≤ S'.len) : ∀ {j : Nat} {T : Tr}, Ok S j T → (∀ n ∈ T.no, S'.k n 0 = S.k n 0 ∧ S'.k n 1 = S.k n 1 ∧ S'.d n = S.d n) → Ok S' j T
  | _, .nil, h, _ => h
  | _, .nd i l r, h, hc => by
    have hi := hc i (by show i ∈ l.no ++ i :: r.no; simp)
    refine ⟨h.1, h.2.1, Nat.lt_of_lt_of_le h.2.2.1 hl, by rw [hi.2.2]; exact h.2.2.2.1, ?_, ?_⟩
    · rw [hi.1]; exact h.2.2.2.2.1.congr hl fun n hn => hc n (by show n ∈ l.no ++ i :: r.no; simp [hn])
    · rw [hi.2.1]; exact h.2.2.2.2.2.congr hl fun n hn => hc n (by show n ∈ l.no ++ i :: r.no; simp [hn])
theorem Ok.root {S : TS} {j : Nat} {T : Tr} (h : Ok S j T) : j = 0 ∨ j ∈ T.no := by
  cases T with
  | nil => exact .inl h
  | nd i l r => right; rw [h.1]; show i ∈ l.no ++ i :: r.no; simp
theorem Ok.pos {S : TS} : ∀ {j : Nat} {T : Tr}, Ok S j T → ∀ n ∈ T.no, 0 < n ∧ n < S.len
  | _, .nil, _, n, hn => by cases hn
  | _, .nd i l r, h, n, hn => by
    rcases List.mem_append.1 (show n ∈ l.no ++ i :: r.no from hn) with hn | hn
    · exact h.2.2.2.2.1.pos n hn
    · rcases List.mem_cons.1 hn with rfl | hn
      · exact ⟨h.2.1, h.2.2.1⟩
      · exact h.2.2.2.2.2.pos n hn
/-- an AVL tree -/
def Avl : Tr → Prop
  | .nil => True
  | .nd _ l r => l.ht ≤ r.ht + 1 ∧ r.ht ≤ l.ht + 1 ∧ Avl l ∧ Avl r
theorem Avl.mk {p s : Nat} {X Y : Tr} : Avl (mk p s X Y) ↔ (X.ht ≤ Y.ht + 1 ∧ Y.ht ≤ X.ht + 1 ∧ Avl X ∧ Avl Y) := by
  unfold Proofs.Ytabdjplpagcniaa.mk; split
  · exact Iff.rfl
  · show (Y.ht ≤ X.ht + 1 ∧ X.ht ≤ Y.ht + 1 ∧ Avl Y ∧ Avl X) ↔ _
    constructor
    · rintro ⟨a, b, c, d⟩; exact ⟨b, a, d, c⟩
    · rintro ⟨a, b, c, d⟩; exact ⟨b, a, d, c⟩
/-- a turn, node by node -/
theorem turn_k {S : TS} {p s q : Nat} (hs : s < 2) (hq : S.k p s = q) (hne : p ≠ q) (n t : Nat) (ht : t < 2) :
    (S.turn p s).k n t = if n = q then (if t = s then S.k q t else p) else if n = p then (if t = s then S.k q (1 - s) else S.k p t) else S.k n t := by
  unfold TS.turn
  rw [hq]
  show upd (upd S.k p (upd (S.k p) s (S.k q (1 - s)))) q (upd (upd S.k p (upd (S.k p) s (S.k q (1 - s))) q) (1 - s) p) n t = _
  have hne' : ¬ q = p := fun e => hne e.symm
  by_cases h1 : n = q
  · subst h1
    by_cases h2 : t = s
    · have h3 : ¬ t = 1 - s := by omega
      simp [upd, h2, hne', show ¬ s = 1 - s by omega]
    · have h3 : t = 1 - s := by omega
      simp [upd, h3, show ¬ 1 - s = s by omega]
  · by_cases h3 : n = p
    · subst h3
      simp [upd, h1]
    · simp [upd, h1, h3]
theorem max_sides (f : Nat → Int) (s : Nat) (hs : s < 2) : max (f 0) (f 1) = max (f s) (f (1 - s)) := by
  match s, hs with
  | 0, _ => rfl
  | 1, _ => exact Int.max_comm _ _
theorem turn_d {S : TS} {p s q : Nat} (hs : s < 2) (hq : S.k p s = q) (hne : p ≠ q) (ha : S.k q s ≠ p) (n : Nat) :
    (S.turn p s).d n = if n = q then max (S.d (S.k q s)) (max (S.d (S.k q (1 - s))) (S.d (S.k p (1 - s))) + 1) + 1 else if n = p then max (S.d (S.k q (1 - s))) (S.d (S.k p (1 - s))) + 1 else S.d n := by
  have hk := turn_k (S := S) hs hq hne
  have e : (S.turn p s).d = upd (upd S.d p (max (S.d ((S.turn p s).k p 0)) (S.d ((S.turn p s).k p 1)) + 1)) q (max (upd S.d p (max (S.d ((S.turn p s).k p 0)) (S.d ((S.turn p s).k p 1)) + 1) ((S.turn p s).k q 0)) (upd S.d p (max (S.d ((S.turn p s).k p 0)) (S.d ((S.turn p s).k p 1)) + 1) ((S.turn p s).k q 1)) + 1) := by
    unfold TS.turn; rw [hq]; rfl
  rw [e, max_sides (fun t => S.d ((S.turn p s).k p t)) s hs]
  rw [max_sides (fun t => upd S.d p (max (S.d ((S.turn p s).k p s)) (S.d ((S.turn p s).k p (1 - s))) + 1) ((S.turn p s).k q t)) s hs]
  rw [hk p s hs, hk p (1 - s) (by omega), hk q s hs, hk q (1 - s) (by omega)]
  simp only [if_neg hne, if_true, if_neg (show ¬ 1 - s = s by omega)]
  unfold upd
  simp only [if_neg ha, if_true]
theorem turn_ok {S : TS} {p s q : Nat} {A M Z : Tr} (h0 : S.d 0 = 0) (hs : s < 2) (hp : 0 < p ∧ p < S.len) (hk : S.k p s = q) (hq : 0 < q ∧ q < S.len) (hA : Ok S (S.k q s) A) (hM : Ok S (S.k q (1 - s)) M) (hZ : Ok S (S.k p (1 - s)) Z)
    (hne : p ≠ q) (hpA : p ∉ A.no) (hpM : p ∉ M.no) (hpZ : p ∉ Z.no) (hqA : q ∉ A.no) (hqM : q ∉ M.no) (hqZ : q ∉ Z.no) :
    Ok (S.turn p s) q (mk q s A (mk p s M Z)) ∧ (∀ n, n ≠ p → n ≠ q → (S.turn p s).k n 0 = S.k n 0 ∧ (S.turn p s).k n 1 = S.k n 1 ∧ (S.turn p s).d n = S.d n) := by
  have ha : S.k q s ≠ p := by
    intro e
    rcases hA.root with h | h
    · omega
    · exact hpA (e ▸ h)
  have hk' := turn_k (S := S) hs hk hne
  have hd' := turn_d (S := S) hs hk hne ha
  have out : ∀ n, n ≠ p → n ≠ q → (S.turn p s).k n 0 = S.k n 0 ∧ (S.turn p s).k n 1 = S.k n 1 ∧ (S.turn p s).d n = S.d n := fun n h1 h2 =>
    ⟨by rw [hk' n 0 (by decide), if_neg h2, if_neg h1], by rw [hk' n 1 (by decide), if_neg h2, if_neg h1], by rw [hd' n, if_neg h2, if_neg h1]⟩
  refine ⟨?_, out⟩
  have dA := hA.d h0
  have dM := hM.d h0
  have dZ := hZ.d h0
  refine (Ok.mk hs).2 ⟨rfl, hq.1, hq.2, ?_, ?_, ?_⟩
  · rw [hd' q, if_pos rfl, dA, dM, dZ, mk_ht]; omega
  · rw [hk' q s hs, if_pos rfl, if_pos rfl]
    exact hA.congr (S := S) (S' := S.turn p s) (show S.len ≤ (S.turn p s).len from Nat.le_refl _) fun n hn => out n (fun e => hpA (e ▸ hn)) (fun e => hqA (e ▸ hn))
  · rw [hk' q (1 - s) (by omega), if_pos rfl, if_neg (by omega)]
    refine (Ok.mk hs).2 ⟨rfl, hp.1, hp.2, ?_, ?_, ?_⟩
    · rw [hd' p, if_neg hne, if_pos rfl, dM, dZ]; omega
    · rw [hk' p s hs, if_neg hne, if_pos rfl, if_pos rfl]
      exact hM.congr (S := S) (S' := S.turn p s) (show S.len ≤ (S.turn p s).len from Nat.le_refl _) fun n hn => out n (fun e => hpM (e ▸ hn)) (fun e => hqM (e ▸ hn))
    · rw [hk' p (1 - s) (by omega), if_neg hne, if_pos rfl, if_neg (by omega)]
      exact hZ.congr (S := S) (S' := S.turn p s) (show S.len ≤ (S.turn p s).len from Nat.le_refl _) fun n hn => out n (fun e => hpZ (e ▸ hn)) (fun e => hqZ (e ▸ hn))
theorem nd_nodup {p : Nat} {X Y : Tr} : (Tr.nd p X Y).no.Nodup ↔ (p ∉ X.no ∧ p ∉ Y.no ∧ X.no.Nodup ∧ Y.no.Nodup ∧ ∀ n ∈ X.no, n ∉ Y.no) := by
  show (X.no ++ p :: Y.no).Nodup ↔ _
  rw [List.nodup_append, List.nodup_cons]
  constructor
  · rintro ⟨h1, ⟨h2, h3⟩, h4⟩
    exact ⟨fun h => h4 p h p (by simp) rfl, h2, h1, h3, fun n hn hy => h4 n hn n (by simp [hy]) rfl⟩
  · rintro ⟨h1, h2, h3, h4, h5⟩
    refine ⟨h3, ⟨h2, h4⟩, fun a ha b hb e => ?_⟩
    subst e
    rcases List.mem_cons.1 hb with rfl | hb
    · exact h1 ha
    · exact h5 a ha hb
theorem mk_nodup {p s : Nat} {X Y : Tr} : (mk p s X Y).no.Nodup ↔ (p ∉ X.no ∧ p ∉ Y.no ∧ X.no.Nodup ∧ Y.no.Nodup ∧ ∀ n ∈ X.no, n ∉ Y.no) := by
  unfold mk; split
  · exact nd_nodup
  · rw [nd_nodup]
    constructor
    · rintro ⟨a, b, c, d, e⟩; exact ⟨b, a, d, c, fun n hn hy => e n hy hn⟩
    · rintro ⟨a, b, c, d, e⟩; exact ⟨b, a, d, c, fun n hn hy => e n hy hn⟩
theorem rot_no {p q s : Nat} (hs : s < 2) (A M Z : Tr) : (mk q s A (mk p s M Z)).no = (mk p s (mk q s A M) Z).no := by
  match s, hs with
  | 0, _ => show A.no ++ q :: (M.no ++ p :: Z.no) = (A.no ++ q :: M.no) ++ p :: Z.no; simp
  | 1, _ => show (Z.no ++ p :: M.no) ++ q :: A.no = Z.no ++ p :: (M.no ++ q :: A.no); simp
theorem rot2_no {p q m s : Nat} (hs : s < 2) (A E F Z : Tr) : (mk m s (mk q (1 - s) F A) (mk p s E Z)).no = (mk p s (mk q s A (mk m (1 - s) E F)) Z).no := by
  match s, hs with
  | 0, _ => show (A.no ++ q :: F.no) ++ m :: (E.no ++ p :: Z.no) = (A.no ++ q :: (F.no ++ m :: E.no)) ++ p :: Z.no; simp
  | 1, _ => show (Z.no ++ p :: E.no) ++ m :: (F.no ++ q :: A.no) = Z.no ++ p :: ((E.no ++ m :: F.no) ++ q :: A.no); simp
theorem as_mk (t : Nat) (i : Nat) (l r : Tr) : ∃ X Y, Tr.nd i l r = mk i t X Y := by
  by_cases h : t = 0
  · exact ⟨l, r, by unfold mk; rw [if_pos h]⟩
  · exact ⟨r, l, by unfold mk; rw [if_neg h]⟩
theorem as_mk' (t : Nat) : ∀ M : Tr, 0 < M.ht → ∃ m E F, M = mk m t E F
  | .nil, h => absurd h (by decide)
  | .nd i l r, _ => ⟨i, as_mk t i l r⟩
theorem two_sub {s : Nat} (hs : s < 2) : 1 - (1 - s) = s := by omega
/-- what stays as it is, but for some nodes -/
def Kp (S S' : TS) (l : List Nat) : Prop := ∀ n, n ∉ l → S'.k n 0 = S.k n 0 ∧ S'.k n 1 = S.k n 1 ∧ S'.d n = S.d n
theorem Kp.trans {S S1 S2 : TS} {l : List Nat} (h : Kp S S1 l) (k : Kp S1 S2 l) : Kp S S2 l := fun n hn =>
  ⟨(k n hn).1.trans (h n hn).1, (k n hn).2.1.trans (h n hn).2.1, (k n hn).2.2.trans (h n hn).2.2⟩
theorem setK_kp (S : TS) {p s x : Nat} {l : List Nat} (hp : p ∈ l) : Kp S (S.setK p s x) l := fun n hn => by
  have hne : n ≠ p := fun e => hn (e ▸ hp)
  refine ⟨?_, ?_, rfl⟩
  · show upd S.k p _ n 0 = _; rw [upd_ne _ _ hne]
  · show upd S.k p _ n 1 = _; rw [upd_ne _ _ hne]
theorem setK_at {S : TS} {p s x : Nat} : (S.setK p s x).k p s = x := by show upd S.k p (upd (S.k p) s x) p s = x; rw [upd_same, upd_same]
theorem setK_other {S : TS} {p s x t : Nat} (h : t ≠ s) : (S.setK p s x).k p t = S.k p t := by show upd S.k p (upd (S.k p) s x) p t = _; rw [upd_same, upd_ne _ _ h]
set_option maxHeartbeats 2000000 in
theorem deep_ok {S : TS} {p s q : Nat} {A M Z : Tr} (h0 : S.d 0 = 0) (hs : s < 2) (hp : 0 < p ∧ p < S.len) (hX : Ok S (S.k p s) (mk q s A M)) (hZ : Ok S (S.k p (1 - s)) Z) (hnd : (mk p s (mk q s A M) Z).no.Nodup)
    (hb : Avl (mk q s A M)) (hbz : Avl Z) (hh : (mk q s A M).ht = Z.ht + 2) :
    ∃ T2, Ok ((S.bow p s).turn p s) ((S.bow p s).k p s) T2 ∧ T2.no = (mk p s (mk q s A M) Z).no ∧ Avl T2 ∧ T2.ht ≤ Z.ht + 3 ∧ Z.ht + 2 ≤ T2.ht ∧ Kp S ((S.bow p s).turn p s) (mk p s (mk q s A M) Z).no := by
  obtain ⟨n1, n2, n3, n4, n5⟩ := mk_nodup.1 hnd
  obtain ⟨m1, m2, m3, m4, m5⟩ := mk_nodup.1 n3
  obtain ⟨b1, b2, b3, b4⟩ := Avl.mk.1 hb
  obtain ⟨e1, e2, e3, e4, e5, e6⟩ := (Ok.mk hs).1 hX
  rw [mk_ht] at hh
  have dA := e5.d h0
  have dM := e6.d h0
  have pq : p ≠ q := fun e => n1 (by rw [mk_mem]; exact .inl e)
  have pA : p ∉ A.no := fun e => n1 (by rw [mk_mem]; exact .inr (.inl e))
  have pM : p ∉ M.no := fun e => n1 (by rw [mk_mem]; exact .inr (.inr e))
  have qZ : q ∉ Z.no := n5 q (by rw [mk_mem]; exact .inl rfl)
  have AZ : ∀ n ∈ A.no, n ∉ Z.no := fun n hn => n5 n (by rw [mk_mem]; exact .inr (.inl hn))
  have MZ : ∀ n ∈ M.no, n ∉ Z.no := fun n hn => n5 n (by rw [mk_mem]; exact .inr (.inr hn))
  have inl : ∀ n, n = p ∨ n = q ∨ n ∈ A.no ∨ n ∈ M.no ∨ n ∈ Z.no → n ∈ (mk p s (mk q s A M) Z).no := fun n h => by
    rw [mk_mem, mk_mem]
    rcases h with h | h | h | h | h <;> simp [h]
  have hln : S.ln (S.k p s) (1 - s) = (M.ht : Int) - A.ht := by unfold TS.ln; rw [e1, two_sub hs, dA, dM]
  by_cases hd : M.ht ≤ A.ht
  · have hbow : S.bow p s = S := by unfold TS.bow; rw [hln, if_neg (by omega)]
    rw [hbow, e1]
    obtain ⟨r1, r2⟩ := turn_ok h0 hs hp e1 ⟨e2, e3⟩ e5 e6 hZ pq pA pM n2 m1 m2 qZ
    refine ⟨_, r1, rot_no hs A M Z, ?_, ?_, ?_, fun n hn => r2 n (fun e => hn (inl n (.inl e))) (fun e => hn (inl n (.inr (.inl e))))⟩
    · rw [Avl.mk, Avl.mk, mk_ht]; exact ⟨by omega, by omega, b3, by omega, by omega, b4, hbz⟩
    · rw [mk_ht, mk_ht]; omega
    · rw [mk_ht, mk_ht]; omega
  · obtain ⟨m, E, F, rfl⟩ := as_mk' (1 - s) M (by omega)
    · have hs1 : 1 - s < 2 := by omega
      obtain ⟨f1, f2, f3, f4, f5, f6⟩ := (Ok.mk hs1).1 e6
      rw [two_sub hs] at f6
      obtain ⟨g1, g2, g3, g4, g5⟩ := mk_nodup.1 m4
      obtain ⟨c1, c2, c3, c4⟩ := Avl.mk.1 b4
      rw [mk_ht] at hh b1 b2 hd dM
      have mm : m ∈ (mk m (1 - s) E F).no := by rw [mk_mem]; exact .inl rfl
      have Ein : ∀ n ∈ E.no, n ∈ (mk m (1 - s) E F).no := fun n hn => by rw [mk_mem]; exact .inr (.inl hn)
      have Fin : ∀ n ∈ F.no, n ∈ (mk m (1 - s) E F).no := fun n hn => by rw [mk_mem]; exact .inr (.inr hn)
      have qm : q ≠ m := fun e => m2 (e ▸ mm)
      have pm : p ≠ m := fun e => pM (e ▸ mm)
      have hbow : S.bow p s = (S.turn q (1 - s)).setK p s m := by unfold TS.bow; rw [hln, if_pos (by rw [mk_ht]; omega), e1, f1]
      have e5' : Ok S (S.k q (1 - (1 - s))) A := by rw [two_sub hs]; exact e5
      have f6' : Ok S (S.k m (1 - (1 - s))) F := by rw [two_sub hs]; exact f6
      obtain ⟨r1, r2⟩ := turn_ok (S := S) (p := q) (s := 1 - s) (q := m) h0 hs1 ⟨e2, e3⟩ f1 ⟨f2, f3⟩ f5 f6' e5' qm (fun h => m2 (Ein _ h)) (fun h => m2 (Fin _ h)) m1 g1 g2 (fun h => m5 m h mm)
      obtain ⟨S2, hS2⟩ : ∃ S2, (S.turn q (1 - s)).setK p s m = S2 := ⟨_, rfl⟩
      rw [hbow, hS2]
      have kp1 : Kp (S.turn q (1 - s)) S2 [p] := by rw [← hS2]; exact setK_kp _ (by simp)
      have l2 : S2.len = S.len := by rw [← hS2]; rfl
      have d02 : S2.d 0 = 0 := by rw [← hS2]; show (S.turn q (1 - s)).d 0 = 0; rw [(r2 0 (by omega) (by omega)).2.2]; exact h0
      have kps : S2.k p s = m := by rw [← hS2]; exact setK_at
      have kpz : S2.k p (1 - s) = S.k p (1 - s) := by
        rw [← hS2, setK_other (by omega)]
        have := r2 p pq pm
        have hg : ∀ t, t < 2 → (S.turn q (1 - s)).k p t = S.k p t := fun t ht => by
          match t, ht with
          | 0, _ => exact this.1
          | 1, _ => exact this.2.1
        exact hg (1 - s) hs1
      have r3 : Ok S2 m (mk m (1 - s) E (mk q (1 - s) F A)) := r1.congr (S' := S2) (by rw [← hS2]; exact Nat.le_refl _) fun n hn => kp1 n (by
        intro h
        obtain rfl : n = p := by simpa using h
        rw [mk_mem, mk_mem] at hn
        rcases hn with h | h | h | h | h
        · exact pm h
        · exact pM (Ein _ h)
        · exact pq h
        · exact pM (Fin _ h)
        · exact pA h)
      have hZ2 : Ok S2 (S2.k p (1 - s)) Z := by
        rw [kpz]
        exact hZ.congr (S' := S2) (by omega) fun n hn => by
          have h1 := kp1 n (fun h => n2 (by obtain rfl : n = p := by simpa using h
                                            exact hn))
          have h2 := r2 n (fun e => qZ (e ▸ hn)) (fun e => MZ m mm (e ▸ hn))
          exact ⟨h1.1.trans h2.1, h1.2.1.trans h2.2.1, h1.2.2.trans h2.2.2⟩
      obtain ⟨t1, t2, t3, t4, t5, t6⟩ := (Ok.mk hs1).1 r3
      rw [two_sub hs] at t6
      have hp2 : 0 < p ∧ p < S2.len := by rw [l2]; exact hp
      have hm2 : 0 < m ∧ m < S2.len := by rw [l2]; exact ⟨f2, f3⟩
      obtain ⟨u1, u2⟩ := turn_ok (S := S2) (p := p) (s := s) (q := m) d02 hs hp2 kps hm2 t6 t5 hZ2 pm
        (fun h => by rw [mk_mem] at h; rcases h with h | h | h; exact pq h; exact pM (Fin _ h); exact pA h) (fun h => pM (Ein _ h)) n2
        (fun h => by rw [mk_mem] at h; rcases h with h | h | h; exact qm h.symm; exact g2 h; exact m5 m h mm) g1 (fun h => MZ m mm h)
      rw [kps]
      refine ⟨_, u1, rot2_no hs A E F Z, ?_, ?_, ?_, fun n hn => ?_⟩
      · rw [Avl.mk, Avl.mk, Avl.mk, mk_ht, mk_ht]; exact ⟨by omega, by omega, ⟨by omega, by omega, c4, b3⟩, by omega, by omega, c3, hbz⟩
      · rw [mk_ht, mk_ht, mk_ht]; omega
      · rw [mk_ht, mk_ht, mk_ht]; omega
      · have np : n ≠ p := fun e => hn (inl n (.inl e))
        have nq : n ≠ q := fun e => hn (inl n (.inr (.inl e)))
        have nm : n ≠ m := fun e => hn (inl n (.inr (.inr (.inr (.inl (e ▸ mm))))))
        have h1 := u2 n np nm
        have h2 := kp1 n (by simpa using np)
        have h3 := r2 n nq nm
        exact ⟨h1.1.trans (h2.1.trans h3.1), h1.2.1.trans (h2.2.1.trans h3.2.1), h1.2.2.trans (h2.2.2.trans h3.2.2)⟩
end Go.Proofs.Ytabdjplpagcniaa

namespace Go.Proofs.Ytabdjplpagcniaa
open Go.RowKit

set_option maxHeartbeats 1000000 in
theorem lev_ok {S : TS} {p : Nat} {L R : Tr} (h0 : S.d 0 = 0) (hp : 0 < p ∧ p < S.len) (hL : Ok S (S.k p 0) L) (hR : Ok S (S.k p 1) R) (hnd : (Tr.nd p L R).no.Nodup) (bL : Avl L) (bR : Avl R) (h1 : L.ht ≤ R.ht + 2) (h2 : R.ht ≤ L.ht + 2) :
    ∃ T2, Ok (S.lev p) (S.top p) T2 ∧ T2.no = (Tr.nd p L R).no ∧ Avl T2 ∧ T2.ht ≤ max L.ht R.ht + 1 ∧ max L.ht R.ht ≤ T2.ht ∧ (L.ht ≤ R.ht + 1 → R.ht ≤ L.ht + 1 → T2.ht = max L.ht R.ht + 1) ∧ Kp S (S.lev p) (Tr.nd p L R).no := by
  obtain ⟨n1, n2, n3, n4, n5⟩ := nd_nodup.1 hnd
  have dL := hL.d h0
  have dR := hR.d h0
  obtain ⟨S1, hS1⟩ : ∃ S1, S.fit p = S1 := ⟨_, rfl⟩
  have pin : p ∈ (Tr.nd p L R).no := by show p ∈ L.no ++ p :: R.no; simp
  have kp : Kp S S1 (Tr.nd p L R).no := fun n hn => by
    have hne : n ≠ p := fun e => hn (e ▸ pin)
    rw [← hS1]
    exact ⟨rfl, rfl, by show upd S.d p _ n = _; rw [upd_ne _ _ hne]⟩
  have kp1 : Kp S S1 [p] := fun n hn => by
    have hne : n ≠ p := by simpa using hn
    rw [← hS1]
    exact ⟨rfl, rfl, by show upd S.d p _ n = _; rw [upd_ne _ _ hne]⟩
  have hk0 : S1.k p 0 = S.k p 0 := by rw [← hS1]; rfl
  have hk1 : S1.k p 1 = S.k p 1 := by rw [← hS1]; rfl
  have hl : S1.len = S.len := by rw [← hS1]; rfl
  have hdp : S1.d p = (max L.ht R.ht + 1 : Nat) := by
    rw [← hS1]; show upd S.d p _ p = _; rw [upd_same, dL, dR]; omega
  have d0 : S1.d 0 = 0 := by rw [(kp1 0 (by simp; omega)).2.2]; exact h0
  have oL : Ok S1 (S1.k p 0) L := by rw [hk0]; exact hL.congr (S := S) (S' := S1) (by omega) fun n hn => kp1 n (fun h => n1 (List.mem_singleton.1 h ▸ hn))
  have oR : Ok S1 (S1.k p 1) R := by rw [hk1]; exact hR.congr (S := S) (S' := S1) (by omega) fun n hn => kp1 n (fun h => n2 (List.mem_singleton.1 h ▸ hn))
  have hp1 : 0 < p ∧ p < S1.len := by rw [hl]; exact hp
  have ln0 : S1.ln p 0 = (L.ht : Int) - R.ht := by unfold TS.ln; rw [oL.d d0, oR.d d0]
  have ln1 : S1.ln p 1 = (R.ht : Int) - L.ht := by unfold TS.ln; rw [oR.d d0]; show (R.ht : Int) - S1.d (S1.k p 0) = _; rw [oL.d d0]
  unfold TS.lev TS.top
  rw [hS1, ln0, ln1]
  by_cases c0 : 2 ≤ (L.ht : Int) - R.ht
  · rw [if_pos c0, if_pos c0]
    obtain ⟨q, A, M, rfl⟩ := as_mk' 0 L (by omega)
    obtain ⟨T2, g1, g2, g3, g4, g5, g6⟩ := deep_ok (S := S1) (p := p) (s := 0) d0 (by decide) hp1 oL oR hnd bL bR (by omega)
    exact ⟨T2, g1, g2, g3, by omega, by omega, fun _ _ => by omega, kp.trans g6⟩
  · rw [if_neg c0, if_neg c0]
    by_cases c1 : 2 ≤ (R.ht : Int) - L.ht
    · rw [if_pos c1, if_pos c1]
      obtain ⟨q, A, M, rfl⟩ := as_mk' 1 R (by omega)
      obtain ⟨T2, g1, g2, g3, g4, g5, g6⟩ := deep_ok (S := S1) (p := p) (s := 1) d0 (by decide) hp1 oR oL hnd bR bL (by omega)
      exact ⟨T2, g1, g2, g3, by omega, by omega, fun _ _ => by omega, kp.trans g6⟩
    · rw [if_neg c1, if_neg c1]
      exact ⟨.nd p L R, ⟨rfl, hp1.1, hp1.2, hdp, oL, oR⟩, rfl, ⟨by omega, by omega, bL, bR⟩, Nat.le_refl _, by show _ ≤ max L.ht R.ht + 1; omega, fun _ _ => rfl, kp⟩

/-- a way back up, from the end on: node, side, the other kid's tree -/
abbrev Zip := List (Nat × Nat × Tr)
def plug : Zip → Tr → Tr
  | [], X => X
  | (p, s, Z) :: z, X => plug z (mk p s X Z)
def Zip.way (z : Zip) : List (Nat × Nat) := (z.map fun f => (f.1, f.2.1)).reverse
def Zip.no : Zip → List Nat
  | [] => []
  | (p, _, Z) :: z => p :: (Z.no ++ Zip.no z)
theorem plug_mem : ∀ (z : Zip) (X : Tr) (n : Nat), n ∈ (plug z X).no ↔ n ∈ X.no ∨ n ∈ Zip.no z
  | [], X, n => by show n ∈ X.no ↔ _; simp [Zip.no]
  | (p, s, Z) :: z, X, n => by
    show n ∈ (plug z (mk p s X Z)).no ↔ _
    rw [plug_mem z, mk_mem]
    show _ ↔ n ∈ X.no ∨ n ∈ p :: (Z.no ++ Zip.no z)
    rw [List.mem_cons, List.mem_append]
    constructor
    · rintro ((h | h | h) | h) <;> simp [h]
    · rintro (h | h | h | h) <;> simp [h]
/-- the state of hang behind k rounds -/
def hz (S : TS) (i : Nat) : Zip → TS × Nat
  | [] => (S, i)
  | (p, s, _) :: z => hz (hst (S, i) (p, s)).1 (hst (S, i) (p, s)).2 z
theorem hgo_step (S : TS) (i : Nat) (l : List (Nat × Nat)) (a : Nat × Nat) : ∀ k, k ≤ l.length → hgo S i (l ++ [a]) (k + 1) = hgo (hst (S, i) a).1 (hst (S, i) a).2 l k
  | 0, _ => by
    show hst (S, i) ((l ++ [a]).getD ((l ++ [a]).length - 1 - 0) (0, 0)) = _
    rw [List.getD_eq_getElem?_getD, List.length_append, List.getElem?_append_right (by simp)]
    simp [hgo]
  | k + 1, hk => by
    show hst (hgo S i (l ++ [a]) (k + 1)) ((l ++ [a]).getD ((l ++ [a]).length - 1 - (k + 1)) (0, 0)) = hst (hgo (hst (S, i) a).1 (hst (S, i) a).2 l k) (l.getD (l.length - 1 - k) (0, 0))
    rw [hgo_step S i l a k (by omega), List.getD_eq_getElem?_getD, List.getD_eq_getElem?_getD, List.length_append]
    rw [List.getElem?_append_left (by simp; omega)]
    simp only [List.length_cons, List.length_nil]
    rw [show l.length + (0 + 1) - 1 - (k + 1) = l.length - 1 - k by omega]
theorem hgo_hz : ∀ (z : Zip) (S : TS) (i : Nat), hgo S i z.way z.way.length = hz S i z
  | [], S, i => rfl
  | (p, s, Z) :: z, S, i => by
    have e : Zip.way ((p, s, Z) :: z) = Zip.way z ++ [(p, s)] := by unfold Zip.way; rw [List.map_cons, List.reverse_cons]
    rw [e, List.length_append]
    show hgo S i (Zip.way z ++ [(p, s)]) ((Zip.way z).length + 1) = _
    rw [hgo_step S i _ _ _ (Nat.le_refl _), hgo_hz z]; rfl
theorem hang_z (S : TS) (z : Zip) (i : Nat) : S.hang z.way i = { (hz S i z).1 with root := (hz S i z).2 } := by unfold TS.hang; rw [hgo_hz]
/-- the way's nodes lie in the set -/
def ZOk (S : TS) : Zip → Prop
  | [] => True
  | (p, s, Z) :: z => s < 2 ∧ 0 < p ∧ p < S.len ∧ Ok S (S.k p (1 - s)) Z ∧ Avl Z ∧ ZOk S z
theorem ZOk.congr {S S' : TS} (hl : S.len ≤ S'.len) : ∀ {z : Zip}, ZOk S z → (∀ n ∈ Zip.no z, S'.k n 0 = S.k n 0 ∧ S'.k n 1 = S.k n 1 ∧ S'.d n = S.d n) → ZOk S' z
  | [], _, _ => trivial
  | (p, s, Z) :: z, h, hc => by
    obtain ⟨a, b, c, d, e, f⟩ := h
    have hp := hc p (by show p ∈ p :: _; simp)
    refine ⟨a, b, Nat.lt_of_lt_of_le c hl, ?_, e, f.congr hl fun n hn => hc n (by show n ∈ p :: (Z.no ++ Zip.no z); simp [hn])⟩
    have hk : S'.k p (1 - s) = S.k p (1 - s) := by
      rcases (show s = 0 ∨ s = 1 by omega) with rfl | rfl
      · exact hp.2.1
      · exact hp.1
    rw [hk]
    exact d.congr hl fun n hn => hc n (by show n ∈ p :: (Z.no ++ Zip.no z); simp [hn])
theorem plug_nodup : ∀ (z : Zip) (X : Tr), (plug z X).no.Nodup → X.no.Nodup ∧ (∀ n ∈ X.no, n ∉ Zip.no z)
  | [], X, h => ⟨h, fun n _ hn => by cases hn⟩
  | (p, s, Z) :: z, X, h => by
    obtain ⟨h1, h2⟩ := plug_nodup z (mk p s X Z) h
    obtain ⟨a, b, c, d, e⟩ := mk_nodup.1 h1
    refine ⟨c, fun n hn hm => ?_⟩
    rcases List.mem_cons.1 (show n ∈ p :: (Z.no ++ Zip.no z) from hm) with rfl | hm
    · exact a hn
    · rcases List.mem_append.1 hm with hm | hm
      · exact e n hn hm
      · exact h2 n (by rw [mk_mem]; exact .inr (.inl hn)) hm
theorem plug_no_eq : ∀ (z : Zip) {X Y : Tr}, X.no = Y.no → (plug z X).no = (plug z Y).no
  | [], _, _, h => h
  | (p, s, Z) :: z, X, Y, h => plug_no_eq z (by
    unfold mk; split
    · show X.no ++ p :: Z.no = Y.no ++ p :: Z.no; rw [h]
    · show Z.no ++ p :: X.no = Z.no ++ p :: Y.no; rw [h])
set_option maxHeartbeats 1000000 in
theorem hz_ok : ∀ (z : Zip) (S : TS) (i : Nat) (X Y : Tr), S.d 0 = 0 → Ok S i X → Avl X → ZOk S z → Avl (plug z Y) → X.ht ≤ Y.ht + 1 → Y.ht ≤ X.ht + 1 → (plug z X).no.Nodup →
    ∃ T', Ok (hz S i z).1 (hz S i z).2 T' ∧ T'.no = (plug z X).no ∧ Avl T' ∧ T'.ht ≤ (plug z Y).ht + 1 ∧ (plug z Y).ht ≤ T'.ht + 1 ∧ Kp S (hz S i z).1 (Zip.no z ++ X.no)
  | [], S, i, X, Y, h0, hX, bX, _, _, h1, h2, _ => ⟨X, hX, rfl, bX, h1, h2, fun _ _ => ⟨rfl, rfl, rfl⟩⟩
  | (p, s, Z) :: z, S, i, X, Y, h0, hX, bX, hz0, hav, h1, h2, hnd => by
    obtain ⟨hs, p0, pl, hZ, bZ, hz1⟩ := hz0
    have hav1 : Avl (mk p s Y Z) := by
      have : ∀ (z : Zip) (Y : Tr), Avl (plug z Y) → Avl Y := by
        intro z
        induction z with
        | nil => intro Y h; exact h
        | cons f z ih => intro Y h; exact (Avl.mk.1 (ih _ h)).2.2.1
      exact this z _ hav
    obtain ⟨a1, a2, a3, a4⟩ := Avl.mk.1 hav1
    obtain ⟨hn1, hn2⟩ := plug_nodup z (mk p s X Z) hnd
    obtain ⟨m1, m2, m3, m4, m5⟩ := mk_nodup.1 hn1
    obtain ⟨S1, hS1⟩ : ∃ S1, S.setK p s i = S1 := ⟨_, rfl⟩
    have kp1 : Kp S S1 [p] := by rw [← hS1]; exact setK_kp _ (by simp)
    have l1 : S1.len = S.len := by rw [← hS1]; rfl
    have d1 : S1.d 0 = 0 := by rw [← hS1]; exact h0
    have kps : S1.k p s = i := by rw [← hS1]; exact setK_at
    have kpz : S1.k p (1 - s) = S.k p (1 - s) := by rw [← hS1]; exact setK_other (by omega)
    have oX : Ok S1 (S1.k p s) X := by rw [kps]; exact hX.congr (S := S) (S' := S1) (by omega) fun n hn => kp1 n (fun h => m1 (List.mem_singleton.1 h ▸ hn))
    have oZ : Ok S1 (S1.k p (1 - s)) Z := by rw [kpz]; exact hZ.congr (S := S) (S' := S1) (by omega) fun n hn => kp1 n (fun h => m2 (List.mem_singleton.1 h ▸ hn))
    have lev : ∃ T2, Ok (S1.lev p) (S1.top p) T2 ∧ T2.no = (mk p s X Z).no ∧ Avl T2 ∧ T2.ht ≤ max X.ht Z.ht + 1 ∧ max X.ht Z.ht ≤ T2.ht ∧ (X.ht ≤ Z.ht + 1 → Z.ht ≤ X.ht + 1 → T2.ht = max X.ht Z.ht + 1) ∧ Kp S1 (S1.lev p) (mk p s X Z).no := by
      match s, hs, oX, oZ, hn1 with
      | 0, _, oX, oZ, hn1 => exact lev_ok d1 ⟨p0, by omega⟩ oX oZ hn1 bX bZ (by omega) (by omega)
      | 1, _, oX, oZ, hn1 =>
        obtain ⟨T2, g1, g2, g3, g4, g5, g6, g7⟩ := lev_ok d1 ⟨p0, by omega⟩ oZ oX hn1 bZ bX (by omega) (by omega)
        exact ⟨T2, g1, g2, g3, by omega, by omega, fun q1 q2 => by have := g6 q2 q1; omega, g7⟩
    obtain ⟨T2, g1, g2, g3, g4, g5, g6, g7⟩ := lev
    have he : hst (S, i) (p, s) = (S1.lev p, S1.top p) := by rw [← hS1]; rfl
    have l2 : (S1.lev p).len = S.len := (Sm.lev S1 p).1.trans l1
    have kp2 : Kp S (S1.lev p) (mk p s X Z).no := fun n hn => by
      have hne : n ≠ p := fun e => hn (by rw [mk_mem]; exact .inl e)
      have q1 := g7 n hn
      have q2 := kp1 n (by simpa using hne)
      exact ⟨q1.1.trans q2.1, q1.2.1.trans q2.2.1, q1.2.2.trans q2.2.2⟩
    have d2 : (S1.lev p).d 0 = 0 := by
      rw [(kp2 0 (fun h => by
        rw [mk_mem] at h
        rcases h with h | h | h
        · omega
        · have := (hX.pos 0 h).1; omega
        · have := (hZ.pos 0 h).1; omega)).2.2]; exact h0
    have hht : T2.ht ≤ (mk p s Y Z).ht + 1 ∧ (mk p s Y Z).ht ≤ T2.ht + 1 := by
      rw [mk_ht]
      by_cases c : X.ht ≤ Z.ht + 1 ∧ Z.ht ≤ X.ht + 1
      · have := g6 c.1 c.2; omega
      · omega
    have hno : (plug z T2).no = (plug z (mk p s X Z)).no := plug_no_eq z g2
    obtain ⟨T', u1, u2, u3, u4, u5, u6⟩ := hz_ok z (S1.lev p) (S1.top p) T2 (mk p s Y Z) d2 g1 g3 (hz1.congr (by omega) fun n hn => kp2 n (fun h => hn2 n h hn)) hav hht.1 hht.2 (by rw [hno]; exact hnd)
    have e2 : hz S i ((p, s, Z) :: z) = hz (S1.lev p) (S1.top p) z := by show hz (hst (S, i) (p, s)).1 (hst (S, i) (p, s)).2 z = _; rw [he]
    rw [e2]
    refine ⟨T', u1, u2.trans hno, u3, u4, u5, fun n hn => ?_⟩
    have hn' : n ∉ (p :: (Z.no ++ Zip.no z)) ++ X.no := hn
    have q1 := u6 n (fun h => by
      rcases List.mem_append.1 h with h | h
      · exact hn' (by simp [h])
      · rw [g2, mk_mem] at h
        rcases h with h | h | h <;> exact hn' (by simp [h]))
    have q2 := kp2 n (fun h => by
      rw [mk_mem] at h
      rcases h with h | h | h <;> exact hn' (by simp [h]))
    exact ⟨q1.1.trans q2.1, q1.2.1.trans q2.2.1, q1.2.2.trans q2.2.2⟩
end Go.Proofs.Ytabdjplpagcniaa

namespace Go.Proofs.Ytabdjplpagcniaa
open Go.RowKit

def zipOf (f : Nat → Int) : Tr → Zip → Zip × Tr
  | .nil, z => (z, .nil)
  | .nd i l r, z => if f i = 0 then (z, .nd i l r) else if f i < 0 then zipOf f l ((i, 0, r) :: z) else zipOf f r ((i, 1, l) :: z)
def pre : Zip → List Nat
  | [] => []
  | (p, s, Z) :: z => pre z ++ (if s = 0 then [] else Z.no ++ [p])
def post : Zip → List Nat
  | [] => []
  | (p, s, Z) :: z => (if s = 0 then p :: Z.no else []) ++ post z
theorem plug_split : ∀ (z : Zip) (X : Tr), (plug z X).no = pre z ++ X.no ++ post z
  | [], X => by show X.no = [] ++ X.no ++ []; simp
  | (p, s, Z) :: z, X => by
    show (plug z (mk p s X Z)).no = _
    rw [plug_split z, show pre ((p, s, Z) :: z) = pre z ++ (if s = 0 then [] else Z.no ++ [p]) from rfl, show post ((p, s, Z) :: z) = (if s = 0 then p :: Z.no else []) ++ post z from rfl]
    unfold mk
    split
    · show pre z ++ (X.no ++ p :: Z.no) ++ post z = _; simp
    · show pre z ++ (Z.no ++ p :: X.no) ++ post z = _; simp
theorem way_app (z : Zip) (p s : Nat) (Z : Tr) : Zip.way ((p, s, Z) :: z) = Zip.way z ++ [(p, s)] := by unfold Zip.way; rw [List.map_cons, List.reverse_cons]
theorem zip_way (f : Nat → Int) : ∀ (T : Tr) (z : Zip), Zip.way (zipOf f T z).1 = Zip.way z ++ T.way f
  | .nil, z => by show Zip.way z = Zip.way z ++ []; simp
  | .nd i l r, z => by
    unfold zipOf Tr.way
    split
    · simp
    · split
      · rw [zip_way f l, way_app]; simp
      · rw [zip_way f r, way_app]; simp
theorem zip_plug (f : Nat → Int) : ∀ (T : Tr) (z : Zip), plug (zipOf f T z).1 (zipOf f T z).2 = plug z T
  | .nil, z => rfl
  | .nd i l r, z => by
    unfold zipOf
    split
    · rfl
    · split
      · rw [zip_plug f l]; rfl
      · rw [zip_plug f r]; rfl
theorem zip_ok {S : TS} (f : Nat → Int) : ∀ (T : Tr) (z : Zip) (j : Nat), Ok S j T → Avl T → ZOk S z → ZOk S (zipOf f T z).1 ∧ ∃ j', Ok S j' (zipOf f T z).2
  | .nil, z, j, h, _, hz => ⟨hz, j, h⟩
  | .nd i l r, z, j, h, ha, hz => by
    unfold zipOf
    split
    · exact ⟨hz, j, h⟩
    · split
      · exact zip_ok f l _ _ h.2.2.2.2.1 ha.2.2.1 ⟨by decide, h.2.1, h.2.2.1, h.2.2.2.2.2, ha.2.2.2, hz⟩
      · exact zip_ok f r _ _ h.2.2.2.2.2 ha.2.2.2 ⟨by decide, h.2.1, h.2.2.1, h.2.2.2.2.1, ha.2.2.1, hz⟩
theorem zip_found (f : Nat → Int) : ∀ (T : Tr) (z : Zip), (∀ n ∈ T.no, 0 < n) → ((T.found f = 0 → (zipOf f T z).2 = .nil) ∧ (T.found f ≠ 0 → f (T.found f) = 0 ∧ ∃ l r, (zipOf f T z).2 = .nd (T.found f) l r))
  | .nil, z, _ => ⟨fun _ => rfl, fun h => absurd rfl h⟩
  | .nd i l r, z, hp => by
    have hi : 0 < i := hp i (by show i ∈ l.no ++ i :: r.no; simp)
    have e : Tr.found f (.nd i l r) = if f i = 0 then i else if f i < 0 then l.found f else r.found f := rfl
    unfold zipOf
    rw [e]
    by_cases h1 : f i = 0
    · rw [if_pos h1, if_pos h1]; exact ⟨fun h => by omega, fun _ => ⟨h1, l, r, rfl⟩⟩
    · rw [if_neg h1, if_neg h1]
      by_cases h2 : f i < 0
      · rw [if_pos h2, if_pos h2]; exact zip_found f l _ fun n hn => hp n (by show n ∈ l.no ++ i :: r.no; simp [hn])
      · rw [if_neg h2, if_neg h2]; exact zip_found f r _ fun n hn => hp n (by show n ∈ l.no ++ i :: r.no; simp [hn])
/-- an order by a key -/
def OrdK (c : Int → Int → Int) (key : Int → Int) : Prop := ∀ x y, (c x y < 0 ↔ key x < key y) ∧ (0 < c x y ↔ key y < key x)
def Srt (key : Int → Int) (S : TS) (l : List Nat) : Prop := l.Pairwise fun a b => key (S.v a) < key (S.v b)
theorem zip_sides {S : TS} {c : Int → Int → Int} {key : Int → Int} (hc : OrdK c key) (x : Int) : ∀ (T : Tr) (z : Zip), Srt key S T.no → (∀ n ∈ pre z, 0 < c x (S.v n)) → (∀ n ∈ post z, c x (S.v n) < 0) →
    (∀ n ∈ pre (zipOf (fun i => c x (S.v i)) T z).1, 0 < c x (S.v n)) ∧ (∀ n ∈ post (zipOf (fun i => c x (S.v i)) T z).1, c x (S.v n) < 0)
  | .nil, z, _, h1, h2 => ⟨h1, h2⟩
  | .nd i l r, z, hs, h1, h2 => by
    have hs' : (l.no ++ i :: r.no).Pairwise fun a b => key (S.v a) < key (S.v b) := hs
    rw [List.pairwise_append, List.pairwise_cons] at hs'
    obtain ⟨s1, ⟨s2, s3⟩, s4⟩ := hs'
    unfold zipOf
    split
    · exact ⟨h1, h2⟩
    · split
      · rename_i q1 q2
        have q3 := (hc x (S.v i)).1.1 q2
        refine zip_sides hc x l _ s1 (fun n hn => h1 n (by unfold pre at hn; simpa using hn)) fun n hn => ?_
        unfold post at hn
        rw [if_pos rfl] at hn
        rcases List.mem_append.1 hn with hn | hn
        · rcases List.mem_cons.1 hn with rfl | hn
          · exact q2
          · exact (hc x (S.v n)).1.2 (by have := s2 n hn; omega)
        · exact h2 n hn
      · rename_i q1 q2
        have q4 : 0 < c x (S.v i) := by omega
        have q3 := (hc x (S.v i)).2.1 q4
        refine zip_sides hc x r _ s3 (fun n hn => ?_) fun n hn => h2 n (by unfold post at hn; simpa using hn)
        unfold pre at hn
        rw [if_neg (by decide)] at hn
        rcases List.mem_append.1 hn with hn | hn
        · exact h1 n hn
        · rcases List.mem_append.1 hn with hn | hn
          · exact (hc x (S.v n)).2.2 (by have := s4 n hn i (by simp); omega)
          · obtain rfl := List.mem_singleton.1 hn; exact q4
theorem Tr.no_len : ∀ T : Tr, T.no.length = T.size
  | .nil => rfl
  | .nd i l r => by
    show (l.no ++ i :: r.no).length = l.size + r.size + 1
    rw [List.length_append, List.length_cons, Tr.no_len l, Tr.no_len r]; omega
/-- the set is an AVL tree whose things rise; q: how many calls there were -/
structure Inv (key : Int → Int) (S : TS) (T : Tr) (q : Nat) : Prop where
  ok : Ok S S.root T
  avl : Avl T
  nd : T.no.Nodup
  l0 : 0 < S.len
  d0 : S.d 0 = 0
  v0 : S.v 0 = 0
  kb : KB S
  dl : DL S (2000 * q + 1)
  fr : ∀ j, j < S.fl → S.fr j < S.len ∧ 0 < S.fr j ∧ S.fr j ∉ T.no
  fi : ∀ i j, i < S.fl → j < S.fl → S.fr i = S.fr j → i = j
  n : S.n = T.size
  srt : Srt key S T.no
  v64 : ∀ i, i < S.len → In64 (S.v i)
  len : S.len ≤ q + 1
  fl : S.fl ≤ q
  sz : T.size ≤ q
def vals (S : TS) (T : Tr) : List Int := T.no.map S.v
theorem Inv.more {key : Int → Int} {S : TS} {T : Tr} {q : Nat} (h : Inv key S T q) : Inv key S T (q + 1) :=
  ⟨h.ok, h.avl, h.nd, h.l0, h.d0, h.v0, h.kb, h.dl.mono (by omega), h.fr, h.fi, h.n, h.srt, h.v64, by have := h.len; omega, by have := h.fl; omega, by have := h.sz; omega⟩
theorem hang_kb {S : TS} {z : Zip} {i : Nat} {B : Int} (hk : KB S) (hd : DL S B) (hi : i < S.len) (hl : ∀ s ∈ Zip.way z, s.1 < S.len ∧ s.2 < 2) : KB (hz S i z).1 ∧ DL (hz S i z).1 (B + 5 * (Zip.way z).length) ∧ Sm S (hz S i z).1 := by
  have h := hgo_ok hk hd hi hl (Zip.way z).length (Nat.le_refl _)
  rw [hgo_hz] at h
  exact ⟨h.1, h.2.1, by rw [← hgo_hz]; exact Sm.hgo S i _ _⟩
theorem zok_way {S : TS} : ∀ {z : Zip}, ZOk S z → ∀ s ∈ Zip.way z, s.1 < S.len ∧ s.2 < 2
  | [], _, s, hs => by cases hs
  | (p, t, Z) :: z, h, s, hs => by
    rw [way_app] at hs
    rcases List.mem_append.1 hs with hs | hs
    · exact zok_way h.2.2.2.2.2 s hs
    · obtain rfl := List.mem_singleton.1 hs; exact ⟨h.2.2.1, h.1⟩
theorem hz_v (z : Zip) (S : TS) (i : Nat) : (hz S i z).1.v = S.v := by
  have lev : ∀ (S : TS) (i : Nat), (S.lev i).v = S.v := by
    intro S i
    have tv : ∀ (S : TS) (i s : Nat), (S.turn i s).v = S.v := fun S i s => rfl
    have bv : ∀ (S : TS) (i s : Nat), (S.bow i s).v = S.v := fun S i s => by unfold TS.bow; split <;> rfl
    unfold TS.lev
    split
    · rw [tv, bv]; rfl
    · split
      · rw [tv, bv]; rfl
      · rfl
  induction z generalizing S i with
  | nil => rfl
  | cons f z ih => obtain ⟨p, s, Z⟩ := f; show (hz _ _ z).1.v = _; rw [ih]; exact lev _ _
theorem way_le (z : Zip) (X : Tr) : (Zip.way z).length ≤ (plug z X).no.length := by
  induction z generalizing X with
  | nil => exact Nat.zero_le _
  | cons f z ih =>
    obtain ⟨p, s, Z⟩ := f
    rw [way_app, List.length_append]
    show (Zip.way z).length + 1 ≤ (plug z (mk p s X Z)).no.length
    have h1 : ∀ (z : Zip) (A : Tr), (plug z A).no.length = (pre z).length + A.no.length + (post z).length := fun z A => by rw [plug_split, List.length_append, List.length_append]
    have h2 := ih .nil
    rw [h1] at h2 ⊢
    have h3 : 0 < (mk p s X Z).no.length := by
      have : p ∈ (mk p s X Z).no := by rw [mk_mem]; exact .inl rfl
      exact List.length_pos_of_mem this
    have h4 : Tr.nil.no.length = 0 := rfl
    omega
set_option maxHeartbeats 1000000 in
theorem put_inv {key : Int → Int} {c : Int → Int → Int} {S : TS} {T : Tr} {q : Nat} (hc : OrdK c key) (h : Inv key S T q) (x : Int) (hx : In64 x) (hn : T.found (fun i => c x (S.v i)) = 0) (g cap : Nat) (hq : q ≤ 400) :
    ∃ T' P Q, Inv key { (S.fresh x g cap).hang (T.way fun i => c x (S.v i)) S.fri with n := S.n + 1 } T' (q + 1) ∧ T.no = P ++ Q ∧ (∀ n ∈ P, key (S.v n) < key x) ∧ (∀ n ∈ Q, key x < key (S.v n)) ∧
      vals { (S.fresh x g cap).hang (T.way fun i => c x (S.v i)) S.fri with n := S.n + 1 } T' = P.map S.v ++ x :: Q.map S.v := by
  obtain ⟨f, hf⟩ : ∃ f : Nat → Int, (fun i => c x (S.v i)) = f := ⟨_, rfl⟩
  have hpos := fun n hn => (h.ok.pos n hn).1
  have hw := zip_way (fun i => c x (S.v i)) T []
  have hp := zip_plug (fun i => c x (S.v i)) T []
  obtain ⟨hzo, jY, hY⟩ := zip_ok (fun i => c x (S.v i)) T [] S.root h.ok h.avl trivial
  have hsd := zip_sides hc x T [] h.srt (fun n hn => by cases hn) (fun n hn => by cases hn)
  have hnil := (zip_found (fun i => c x (S.v i)) T [] hpos).1 hn
  rw [hf] at hw hp hzo hY hsd hnil hn ⊢
  obtain ⟨z, hz0⟩ : ∃ z, (zipOf f T []).1 = z := ⟨_, rfl⟩
  rw [hz0] at hw hp hzo hsd
  rw [hnil] at hp
  rw [show Zip.way [] ++ T.way f = T.way f from rfl] at hw
  rw [show plug [] T = T from rfl] at hp
  rw [← hw]
  have hsp : T.no = pre z ++ post z := by rw [← hp, plug_split]; show pre z ++ [] ++ post z = _; simp
  obtain ⟨i, hi⟩ : ∃ i, S.fri = i := ⟨_, rfl⟩
  obtain ⟨S1, hS1⟩ : ∃ S1, S.fresh x g cap = S1 := ⟨_, rfl⟩
  rw [hi, hS1]
  -- the fresh node
  have hnew : i ∉ T.no ∧ 0 < i := by
    rw [← hi]; unfold TS.fri; split
    · exact ⟨(h.fr _ (by omega)).2.2, (h.fr _ (by omega)).2.1⟩
    · exact ⟨fun hm => by have := (h.ok.pos _ hm).2; omega, h.l0⟩
  have sm := fresh_sm S x g cap
  have s2 := fresh_i S x g cap (fun j hj => (h.fr j hj).1)
  have s3 := h.kb.fresh h.l0 x g cap
  have s4 := h.dl.fresh (by omega) x g cap
  have kp : Kp S S1 [i] ∧ S1.v = upd S.v i x ∧ S1.k i 0 = 0 ∧ S1.k i 1 = 0 ∧ S1.d i = 1 ∧ (∀ j, j < S1.fl → j < S.fl ∧ S1.fr j = S.fr j) ∧ (∀ j, j < S1.fl → S1.fr j ≠ i) := by
    have key' : ∀ S0 : TS, S0.k = S.k → S0.d = S.d → Kp S (S0.put i x 1) [i] ∧ (S0.put i x 1).k i 0 = 0 ∧ (S0.put i x 1).k i 1 = 0 ∧ (S0.put i x 1).d i = 1 := by
      intro S0 e1 e2
      refine ⟨fun n hn => ?_, ?_, ?_, ?_⟩
      · have hne : n ≠ i := by simpa using hn
        refine ⟨?_, ?_, ?_⟩
        · show upd S0.k i _ n 0 = _; rw [upd_ne _ _ hne, e1]
        · show upd S0.k i _ n 1 = _; rw [upd_ne _ _ hne, e1]
        · show upd S0.d i _ n = _; rw [upd_ne _ _ hne, e2]
      · show upd S0.k i _ i 0 = _; rw [upd_same]
      · show upd S0.k i _ i 1 = _; rw [upd_same]
      · show upd S0.d i _ i = _; rw [upd_same]
    rw [← hS1]; unfold TS.fresh; rw [hi]
    split
    · rename_i hfl
      obtain ⟨a, b, c', d⟩ := key' { S with fl := S.fl - 1 } rfl rfl
      refine ⟨a, rfl, b, c', d, fun j hj => ?_, fun j hj e => ?_⟩
      · have hj' : j < S.fl - 1 := hj
        exact ⟨by omega, rfl⟩
      · have hj' : j < S.fl - 1 := hj
        have e' : S.fr j = S.fr (S.fl - 1) := by rw [show S.fr j = i from e, ← hi]; unfold TS.fri; rw [if_pos hfl]
        have := h.fi j (S.fl - 1) (by omega) (by omega) e'
        omega
    · rename_i hfl
      obtain ⟨a, b, c', d⟩ := key' { S with nb := g, cap := cap, len := S.len + 1 } rfl rfl
      refine ⟨a, rfl, b, c', d, fun j hj => ?_, fun j hj => ?_⟩
      · have hj' : j < S.fl := hj
        omega
      · have hj' : j < S.fl := hj
        omega
  rw [hS1] at sm s2 s3 s4
  rw [hi] at s2
  obtain ⟨kp1, kv, ki0, ki1, kd, kfr, kfn⟩ := kp
  have hzn : ∀ n ∈ Zip.no z, n ∈ T.no := fun n hn => by rw [← hp, plug_mem]; exact .inr hn
  have hzo1 : ZOk S1 z := hzo.congr sm.2.2.2.2.1 fun n hn => kp1 n (fun e => hnew.1 (by rw [← List.mem_singleton.1 e]; exact hzn n hn))
  have hoX : Ok S1 i (.nd i .nil .nil) := ⟨rfl, hnew.2, s2, kd, ki0, ki1⟩
  have hd01 : S1.d 0 = 0 := by rw [(kp1 0 (by simp; omega)).2.2]; exact h.d0
  have hndX : (plug z (.nd i .nil .nil)).no.Nodup := by
    rw [plug_split]
    have h1 := h.nd
    rw [hsp] at h1 hnew
    have h2 := List.nodup_append.1 h1
    show (pre z ++ [i] ++ post z).Nodup
    rw [List.append_assoc, List.nodup_append]
    refine ⟨h2.1, List.nodup_cons.2 ⟨fun hm => hnew.1 (List.mem_append.2 (.inr hm)), h2.2.1⟩, fun a ha b hb e => ?_⟩
    subst e
    rcases List.mem_cons.1 hb with rfl | hb
    · exact hnew.1 (List.mem_append.2 (.inl ha))
    · exact h2.2.2 a ha a hb rfl
  obtain ⟨T', u1, u2, u3, _, _, u6⟩ := hz_ok z S1 i (.nd i .nil .nil) .nil hd01 hoX ⟨Nat.zero_le _, Nat.zero_le _, trivial, trivial⟩ hzo1 (by rw [hp]; exact h.avl) (by show max 0 0 + 1 ≤ 0 + 1; decide) (by show 0 ≤ _; omega) hndX
  have hT' : T'.no = pre z ++ i :: post z := by rw [u2, plug_split]; show pre z ++ [i] ++ post z = _; simp
  have hlen : (Zip.way z).length ≤ q := by
    have := way_le z .nil
    rw [hp, Tr.no_len] at this
    have := h.sz; omega
  obtain ⟨b1, b2, b3⟩ := hang_kb s3 s4 s2 (zok_way hzo1)
  rw [hang_z]
  have hv' : (hz S1 i z).1.v = upd S.v i x := by rw [hz_v, kv]
  have hni : ∀ n ∈ T.no, n ≠ i := fun n hn e => hnew.1 (e ▸ hn)
  have hPQ : (∀ n ∈ pre z, key (S.v n) < key x) ∧ (∀ n ∈ post z, key x < key (S.v n)) := by
    exact ⟨fun n hn => (hc x (S.v n)).2.1 (hsd.1 n hn), fun n hn => (hc x (S.v n)).1.1 (hsd.2 n hn)⟩
  have hpi : ∀ n ∈ pre z, upd S.v i x n = S.v n := fun n hn => upd_ne _ _ (hni n (by rw [hsp]; exact List.mem_append.2 (.inl hn)))
  have hqi : ∀ n ∈ post z, upd S.v i x n = S.v n := fun n hn => upd_ne _ _ (hni n (by rw [hsp]; exact List.mem_append.2 (.inr hn)))
  have hsz : T'.size = T.size + 1 := by
    rw [← Tr.no_len, ← Tr.no_len, hT', hsp, List.length_append, List.length_append, List.length_cons]; omega
  refine ⟨T', pre z, post z, ?_, hsp, hPQ.1, hPQ.2, ?_⟩
  · refine ⟨Ok.congr (S := (hz S1 i z).1) (S' := { (hz S1 i z).1 with root := (hz S1 i z).2, n := S.n + 1 }) (show (hz S1 i z).1.len ≤ (hz S1 i z).1.len from Nat.le_refl _) u1 fun n _ => ⟨rfl, rfl, rfl⟩, u3, by rw [u2]; exact hndX, ?_, ?_, ?_, b1, ?_, ?_, ?_, ?_, ?_, ?_, ?_, ?_, ?_⟩
    · show 0 < (hz S1 i z).1.len; rw [b3.1]; omega
    · show (hz S1 i z).1.d 0 = 0
      rw [(u6 0 (fun hm => by
        rcases List.mem_append.1 hm with hm | hm
        · have := hpos 0 (hzn 0 hm); omega
        · have : (0 : Nat) = i := List.mem_singleton.1 hm
          omega)).2.2]; exact hd01
    · show (hz S1 i z).1.v 0 = 0
      rw [hv', upd_ne _ _ (by omega)]; exact h.v0
    · refine DL.mono (S := (hz S1 i z).1) b2 (by omega)
    · intro j hj
      have hj' : j < S1.fl := by have : j < (hz S1 i z).1.fl := hj; rw [b3.2.2.2.2.2.2.1] at this; exact this
      show (hz S1 i z).1.fr j < (hz S1 i z).1.len ∧ 0 < (hz S1 i z).1.fr j ∧ (hz S1 i z).1.fr j ∉ T'.no
      rw [b3.2.2.2.2.2.2.2.1, b3.1]
      obtain ⟨q1, q2⟩ := kfr j hj'
      have q3 := kfn j hj'
      obtain ⟨q4, q5, q6⟩ := h.fr j q1
      rw [q2] at q3 ⊢
      refine ⟨by omega, q5, fun hm => ?_⟩
      rw [hT'] at hm
      rcases List.mem_append.1 hm with hm | hm
      · exact q6 (by rw [hsp]; exact List.mem_append.2 (.inl hm))
      · rcases List.mem_cons.1 hm with hm | hm
        · exact q3 hm
        · exact q6 (by rw [hsp]; exact List.mem_append.2 (.inr hm))
    · intro a b ha hb e
      have ha' : a < S1.fl := by have : a < (hz S1 i z).1.fl := ha; rw [b3.2.2.2.2.2.2.1] at this; exact this
      have hb' : b < S1.fl := by have : b < (hz S1 i z).1.fl := hb; rw [b3.2.2.2.2.2.2.1] at this; exact this
      have e' : (hz S1 i z).1.fr a = (hz S1 i z).1.fr b := e
      rw [b3.2.2.2.2.2.2.2.1, (kfr a ha').2, (kfr b hb').2] at e'
      exact h.fi a b (kfr a ha').1 (kfr b hb').1 e'
    · show S.n + 1 = T'.size; rw [hsz, h.n]
    · have hs := h.srt
      unfold Srt at hs ⊢
      rw [hsp, List.pairwise_append] at hs
      rw [hT', List.pairwise_append, List.pairwise_cons]
      show (pre z).Pairwise (fun a b => key ((hz S1 i z).1.v a) < key ((hz S1 i z).1.v b)) ∧ ((∀ b ∈ post z, key ((hz S1 i z).1.v i) < key ((hz S1 i z).1.v b)) ∧ (post z).Pairwise fun a b => key ((hz S1 i z).1.v a) < key ((hz S1 i z).1.v b)) ∧ _
      rw [hv']
      refine ⟨hs.1.imp_of_mem fun ha hb hr => by rw [hpi _ ha, hpi _ hb]; exact hr, ⟨fun b hb => by rw [upd_same, hqi b hb]; exact hPQ.2 b hb, hs.2.1.imp_of_mem fun ha hb hr => by rw [hqi _ ha, hqi _ hb]; exact hr⟩, fun a ha b hb => ?_⟩
      rw [hpi a ha]
      rcases List.mem_cons.1 hb with rfl | hb
      · rw [upd_same]; exact hPQ.1 a ha
      · rw [hqi b hb]; exact hs.2.2 a ha b hb
    · intro j hj
      show In64 ((hz S1 i z).1.v j)
      rw [hv']
      unfold upd; split
      · exact hx
      · rename_i hne
        have hj' : j < S1.len := by have : j < (hz S1 i z).1.len := hj; rw [b3.1] at this; exact this
        have := sm.2.2.2.2.2
        by_cases hjl : j < S.len
        · exact h.v64 j hjl
        · exfalso
          have hjS : j = S.len := by omega
          have : S.fri = S.len := by
            unfold TS.fri; split
            · rename_i hfl
              have hl1 : S1.len = S.len := by rw [← hS1]; unfold TS.fresh; rw [if_pos hfl]; rfl
              omega
            · rfl
          omega
    · show (hz S1 i z).1.len ≤ q + 1 + 1; rw [b3.1]; have := sm.2.2.2.2.2; have := h.len; omega
    · show (hz S1 i z).1.fl ≤ q + 1
      rw [b3.2.2.2.2.2.2.1]
      have : S1.fl ≤ S.fl := by
        rcases Nat.lt_or_ge S.fl S1.fl with hlt | hge
        · have := (kfr S.fl hlt).1; omega
        · exact hge
      have := h.fl; omega
    · rw [hsz]; have := h.sz; omega
  · show T'.no.map (hz S1 i z).1.v = _
    rw [hv', hT', List.map_append, List.map_cons, upd_same]
    congr 1
    · exact List.map_congr_left hpi
    · congr 1; exact List.map_congr_left hqi
end Go.Proofs.Ytabdjplpagcniaa

namespace Go.Proofs.Ytabdjplpagcniaa
open Go.RowKit

def UpK (key : Int → Int) (l : List Int) : Prop := l.Pairwise fun a b => key a < key b
theorem srt_up {key : Int → Int} {S : TS} {l : List Nat} : Srt key S l ↔ UpK key (l.map S.v) := by unfold Srt UpK; rw [List.pairwise_map]
set_option maxHeartbeats 1000000 in
theorem drop_inv {key : Int → Int} {S S0 : TS} {T : Tr} {q : Nat} (h : Inv key S T q) (e1 : S0.k = S.k) (e2 : S0.d = S.d) (e3 : S0.len = S.len) (e4 : S0.fl = S.fl) (e5 : S0.fr = S.fr) (e6 : S0.n = S.n) (hv0 : S0.v 0 = 0) (hv64 : ∀ i, i < S0.len → In64 (S0.v i))
    {z : Zip} {X Y : Tr} {x gone : Nat} (hz0 : ZOk S0 z) (hX : Ok S0 x X) (bX : Avl X) (hav : Avl (plug z Y)) (h1 : X.ht ≤ Y.ht + 1) (h2 : Y.ht ≤ X.ht + 1) (hnd : (plug z X).no.Nodup) (hg : gone ∈ T.no) (hgn : gone ∉ (plug z X).no)
    (hsub : ∀ n ∈ (plug z X).no, n ∈ T.no) (hlen : (plug z X).no.length + 1 = T.size) (hup : UpK key ((plug z X).no.map S0.v)) (hwl : (Zip.way z).length ≤ q) (hq : q ≤ 400) (g cap : Nat) :
    ∃ T', Inv key ((S0.hang (Zip.way z) x).drop gone g cap) T' (q + 1) ∧ vals ((S0.hang (Zip.way z) x).drop gone g cap) T' = (plug z X).no.map S0.v := by
  have hd0 : S0.d 0 = 0 := by rw [e2]; exact h.d0
  have hxl : x < S0.len := by
    rcases hX.root with e | e
    · rw [e, e3]; exact h.l0
    · exact (hX.pos x e).2
  obtain ⟨T', u1, u2, u3, _, _, u6⟩ := hz_ok z S0 x X Y hd0 hX bX hz0 hav h1 h2 hnd
  have hk0 : KB S0 := by intro j hj s hs; rw [e1, e3]; exact h.kb j (by omega) s hs
  have hdl0 : DL S0 (2000 * q + 1) := by intro j hj; rw [e2]; exact h.dl j (by omega)
  obtain ⟨b1, b2, b3⟩ := hang_kb hk0 hdl0 hxl (zok_way hz0)
  have gp := h.ok.pos gone hg
  have hgT : gone ∉ T'.no := by rw [u2]; exact hgn
  rw [hang_z]
  obtain ⟨S1, hS1⟩ : ∃ S1, (hz S0 x z).1 = S1 := ⟨_, rfl⟩
  obtain ⟨r1, hr1⟩ : ∃ r1, (hz S0 x z).2 = r1 := ⟨_, rfl⟩
  have hvS : S1.v = S0.v := by rw [← hS1]; exact hz_v z S0 x
  rw [hS1] at u1 b1 b2 b3 u6 ⊢
  rw [hr1] at u1 ⊢
  have fv : ∀ n, ((({ S1 with root := r1 } : TS).drop gone g cap).v n) = upd S0.v gone 0 n := fun n => by show upd S1.v gone 0 n = _; rw [hvS]
  have hmap : T'.no.map (upd S0.v gone 0) = (plug z X).no.map S0.v := by
    rw [u2]; exact List.map_congr_left fun n hn => upd_ne _ _ (fun e => hgn (e ▸ hn))
  have hT0 : (0 : Nat) ∉ T'.no := fun hm => by have := (u1.pos 0 hm).1; omega
  have hsz : T'.size + 1 = T.size := by rw [← Tr.no_len, u2]; exact hlen
  have l1 : S1.len = S.len := b3.1.trans e3
  have f1 : S1.fl = S.fl := b3.2.2.2.2.2.2.1.trans e4
  have f2 : S1.fr = S.fr := b3.2.2.2.2.2.2.2.1.trans e5
  have n1 : S1.n = S.n := b3.2.2.2.2.2.2.2.2.2.trans e6
  refine ⟨T', ⟨?_, u3, by rw [u2]; exact hnd, ?_, ?_, ?_, ?_, ?_, ?_, ?_, ?_, ?_, ?_, ?_, ?_, ?_⟩, ?_⟩
  · refine Ok.congr (S := S1) (S' := ({ S1 with root := r1 } : TS).drop gone g cap) (show S1.len ≤ S1.len from Nat.le_refl _) u1 fun n hn => ?_
    have hne : n ≠ gone := fun e => hgT (e ▸ hn)
    refine ⟨?_, ?_, ?_⟩
    · show upd S1.k gone _ n 0 = _; rw [upd_ne _ _ hne]
    · show upd S1.k gone _ n 1 = _; rw [upd_ne _ _ hne]
    · show upd S1.d gone _ n = _; rw [upd_ne _ _ hne]
  · show 0 < S1.len; rw [l1]; exact h.l0
  · show upd S1.d gone 0 0 = 0
    rw [upd_ne _ _ (by omega)]
    rw [(u6 0 (fun hm => by
      have : (0 : Nat) ∈ (plug z X).no := by rw [plug_mem]; rcases List.mem_append.1 hm with hm | hm; exact .inr hm; exact .inl hm
      rw [← u2] at this; exact hT0 this)).2.2]; exact hd0
  · rw [fv, upd_ne _ _ (by omega)]; exact hv0
  · exact KB.put (S := { S1 with root := r1 }) b1 (by show 0 < S1.len; rw [l1]; exact h.l0) gone 0 0
  · exact DL.put (S := { S1 with root := r1 }) (DL.mono (S := S1) b2 (by omega)) gone 0 0 (by decide) (by omega)
  · intro j hj
    have hj' : j < S1.fl + 1 := hj
    show upd S1.fr S1.fl gone j < S1.len ∧ 0 < upd S1.fr S1.fl gone j ∧ upd S1.fr S1.fl gone j ∉ T'.no
    rw [l1]
    by_cases e : j = S1.fl
    · rw [e, upd_same]; exact ⟨gp.2, gp.1, hgT⟩
    · rw [upd_ne _ _ e, f2]
      obtain ⟨a, b, c⟩ := h.fr j (by omega)
      exact ⟨a, b, fun hm => c (hsub _ (by rw [← u2]; exact hm))⟩
  · intro i j hi hj e
    have hi' : i < S1.fl + 1 := hi
    have hj' : j < S1.fl + 1 := hj
    have e' : upd S1.fr S1.fl gone i = upd S1.fr S1.fl gone j := e
    by_cases a : i = S1.fl
    · by_cases b : j = S1.fl
      · omega
      · rw [a, upd_same, upd_ne _ _ b, f2] at e'
        exact absurd hg (e' ▸ (h.fr j (by omega)).2.2)
    · by_cases b : j = S1.fl
      · rw [b, upd_same, upd_ne _ _ a, f2] at e'
        exact absurd hg (e'.symm ▸ (h.fr i (by omega)).2.2)
      · rw [upd_ne _ _ a, upd_ne _ _ b, f2] at e'
        exact h.fi i j (by omega) (by omega) e'
  · show S1.n - 1 = T'.size; rw [n1, h.n]; omega
  · rw [srt_up]
    show UpK key (T'.no.map (upd S1.v gone 0))
    rw [hvS, hmap]; exact hup
  · intro j hj
    have hj' : j < S1.len := hj
    rw [fv]; unfold upd; split
    · unfold In64; omega
    · exact hv64 j (by omega)
  · show S1.len ≤ q + 1 + 1; rw [l1]; have := h.len; omega
  · show S1.fl + 1 ≤ q + 1; rw [f1]; have := h.fl; omega
  · have := h.sz; omega
  · show T'.no.map (upd S1.v gone 0) = _; rw [hvS, hmap]
/-- what stands around a thing that is found -/
theorem found_split {key : Int → Int} {c : Int → Int → Int} {S : TS} {T : Tr} {q : Nat} (hc : OrdK c key) (h : Inv key S T q) (x : Int) (n : Nat) (hn : T.found (fun i => c x (S.v i)) = n) (h0 : n ≠ 0) :
    ∃ (z : Zip) (l r : Tr), Zip.way z = T.way (fun i => c x (S.v i)) ∧ plug z (.nd n l r) = T ∧ ZOk S z ∧ Ok S n (.nd n l r) ∧ key (S.v n) = key x ∧ (∀ m ∈ pre z ++ l.no, key (S.v m) < key x) ∧ (∀ m ∈ r.no ++ post z, key x < key (S.v m)) := by
  obtain ⟨f, hf⟩ : ∃ f : Nat → Int, (fun i => c x (S.v i)) = f := ⟨_, rfl⟩
  have hpos := fun n hn => (h.ok.pos n hn).1
  have hw := zip_way (fun i => c x (S.v i)) T []
  have hp := zip_plug (fun i => c x (S.v i)) T []
  obtain ⟨hzo, jY, hY⟩ := zip_ok (fun i => c x (S.v i)) T [] S.root h.ok h.avl trivial
  obtain ⟨h1, l, r, h2⟩ := (zip_found (fun i => c x (S.v i)) T [] hpos).2 (by rw [hn]; exact h0)
  rw [hn] at h1 h2
  have h1' : c x (S.v n) = 0 := h1
  rw [hf] at hw hp hzo hY h2 ⊢
  rw [h2] at hp hY
  obtain ⟨z, hz0⟩ : ∃ z, (zipOf f T []).1 = z := ⟨_, rfl⟩
  rw [hz0] at hw hp hzo
  have hkx : key (S.v n) = key x := by
    have a := (hc x (S.v n)).1
    have b := (hc x (S.v n)).2
    rcases Int.lt_trichotomy (key x) (key (S.v n)) with q1 | q1 | q1
    · have := a.2 q1; omega
    · exact q1.symm
    · have := b.2 q1; omega
  have hpT : plug z (.nd n l r) = T := hp
  have hs : Srt key S (plug z (.nd n l r)).no := by rw [hpT]; exact h.srt
  rw [plug_split] at hs
  have hs2 : (pre z ++ l.no ++ (n :: (r.no ++ post z))).Pairwise fun a b => key (S.v a) < key (S.v b) := by
    have e : pre z ++ (Tr.nd n l r).no ++ post z = pre z ++ l.no ++ (n :: (r.no ++ post z)) := by show pre z ++ (l.no ++ n :: r.no) ++ post z = _; simp
    rw [← e]; exact hs
  rw [List.pairwise_append, List.pairwise_cons] at hs2
  obtain ⟨_, ⟨s2, _⟩, s4⟩ := hs2
  refine ⟨z, l, r, by rw [hw]; rfl, hpT, hzo, ⟨rfl, hY.2⟩, hkx, fun m hm => by rw [← hkx]; exact s4 m hm n (by simp), fun m hm => by rw [← hkx]; exact s2 m hm⟩
/-- the way down to the last one -/
def zipD : Tr → Zip → Zip × (Nat × Tr)
  | .nil, z => (z, (0, .nil))
  | .nd a l .nil, z => (z, (a, l))
  | .nd a l (.nd b m r), z => zipD (.nd b m r) ((a, 1, l) :: z)
theorem zipD_all {S : TS} : ∀ (T : Tr) (z : Zip) (j : Nat), T ≠ .nil → Ok S j T → Avl T → ZOk S z → ∃ gone GL, zipD T z = ((zipD T z).1, (gone, GL)) ∧ plug (zipD T z).1 (.nd gone GL .nil) = plug z T ∧ (Zip.way (zipD T z).1) ++ [(gone, 1)] = Zip.way z ++ T.down1 ∧ ZOk S (zipD T z).1 ∧
    Ok S gone (.nd gone GL .nil) ∧ Avl GL ∧ (∃ D, T.no = D ++ GL.no ++ [gone] ∧ pre (zipD T z).1 = pre z ++ D) ∧ post (zipD T z).1 = post z
  | .nil, z, j, hne, _, _, _ => absurd rfl hne
  | .nd a l .nil, z, j, _, hT, hA, hz0 => ⟨a, l, rfl, rfl, rfl, hz0, ⟨rfl, hT.2⟩, hA.2.2.1, ⟨[], by show l.no ++ a :: [] = _; simp, by show pre z = _; simp⟩, rfl⟩
  | .nd a l (.nd b m r), z, j, _, hT, hA, hz0 => by
    obtain ⟨gone, GL, h1, h2, h3, h4, h5, h6, ⟨D, h7, h8⟩, h9⟩ := zipD_all (.nd b m r) ((a, 1, l) :: z) _ (fun h => by cases h) hT.2.2.2.2.2 hA.2.2.2 ⟨by decide, hT.2.1, hT.2.2.1, hT.2.2.2.2.1, hA.2.2.1, hz0⟩
    refine ⟨gone, GL, h1, h2, ?_, h4, h5, h6, ⟨l.no ++ [a] ++ D, ?_, ?_⟩, h9⟩
    · show (Zip.way (zipD (.nd b m r) ((a, 1, l) :: z)).1) ++ _ = _
      rw [h3, way_app]
      show _ = Zip.way z ++ (a, 1) :: Tr.down1 (.nd b m r)
      simp
    · show l.no ++ a :: (Tr.nd b m r).no = _
      rw [h7]; simp
    · show pre (zipD (.nd b m r) ((a, 1, l) :: z)).1 = _
      rw [h8]
      show pre z ++ (l.no ++ [a]) ++ D = _
      simp
end Go.Proofs.Ytabdjplpagcniaa

namespace Go.Proofs.Ytabdjplpagcniaa
open Go.RowKit

theorem avl_plug : ∀ (z : Zip) (Y : Tr), Avl (plug z Y) → Avl Y
  | [], _, h => h
  | (_, _, _) :: z, _, h => (Avl.mk.1 (avl_plug z _ h)).2.2.1
theorem nd_no (n : Nat) (l r : Tr) : (Tr.nd n l r).no = l.no ++ n :: r.no := rfl
/-- what a call of Del leaves: the set without a thing -/
def DelTo (key : Int → Int) (S : TS) (T : Tr) (q : Nat) (x : Int) (S' : TS) : Prop :=
  ∃ (T' : Tr) (n : Nat) (P Q : List Nat), Inv key S' T' (q + 1) ∧ T.no = P ++ n :: Q ∧ key (S.v n) = key x ∧ (∀ m ∈ P, key (S.v m) < key x) ∧ (∀ m ∈ Q, key x < key (S.v m)) ∧ vals S' T' = P.map S.v ++ Q.map S.v
set_option maxHeartbeats 1000000 in
theorem Del_ok (t : Nat) {key : Int → Int} {c : Int → Int → Int} {S : TS} {T : Tr} {q : Nat} (hc : OrdK c key) (h : Inv key S T q) (x : Int) (hx : In64 x) (hn0 : T.found (fun i => c x (S.v i)) ≠ 0) (hq : q ≤ 400) (w : World) (hw : TM2 w t S) (ho : OrdOk S.ord c) :
    Calls Try.prog 18 #[ptr t 0, .int .i64 x] w fun e w' => e = .returned (.bool true) ∧ ∃ S', DelTo key S T q x S' ∧ S'.ord = S.ord ∧ TM2 w' t S' ∧ Fr t S S' w w' := by
  obtain ⟨n, hn⟩ : ∃ n, T.found (fun i => c x (S.v i)) = n := ⟨_, rfl⟩
  rw [hn] at hn0
  obtain ⟨z, l, r, z1, z2, z3, z4, z5, z6, z7⟩ := found_split hc h x n hn hn0
  have hR := h.ok.rep
  have hav : Avl (plug z (.nd n l r)) := by rw [z2]; exact h.avl
  obtain ⟨a1, a2, a3, a4⟩ := avl_plug z _ hav
  have hno : T.no = (pre z ++ l.no) ++ n :: (r.no ++ post z) := by rw [← z2, plug_split, nd_no]; simp
  have hnd := h.nd
  have hgT : n ∈ T.no := by rw [hno]; simp
  have hnl : n < S.len := z4.2.2.1
  have hwl : (Zip.way z).length ≤ q := by
    have := way_le z (.nd n l r)
    rw [z2, Tr.no_len] at this
    have := h.sz; omega
  have hsz := h.sz
  have hln := h.len
  have hfl := h.fl
  have hnn := h.n
  have hpos : 0 < S.n := by
    have : 0 < T.no.length := List.length_pos_of_mem hgT
    rw [Tr.no_len] at this; omega
  have hsub : ∀ m, m ∈ pre z ++ l.no ++ (r.no ++ post z) → m ∈ T.no := fun m hm => by
    rw [hno]
    rcases List.mem_append.1 hm with hm | hm
    · exact List.mem_append.2 (.inl hm)
    · exact List.mem_append.2 (.inr (List.mem_cons_of_mem _ hm))
  have hlen0 : (pre z ++ l.no).length + (r.no ++ post z).length + 1 = T.size := by rw [← Tr.no_len, hno]; simp; omega
  have hsub2 : (pre z ++ l.no ++ (r.no ++ post z)).Sublist T.no := by
    rw [hno]; exact List.Sublist.append (List.Sublist.refl _) (List.sublist_cons_self _ _)
  have hup : UpK key ((pre z ++ l.no).map S.v ++ (r.no ++ post z).map S.v) := by
    have := (srt_up.1 h.srt).sublist (hsub2.map S.v)
    rw [List.map_append] at this; exact this
  have hnn2 : n ∉ pre z ++ l.no ++ (r.no ++ post z) := by
    intro hm
    rw [hno, List.nodup_append, List.nodup_cons] at hnd
    rcases List.mem_append.1 hm with hm | hm
    · exact hnd.2.2 n hm n (by simp) rfl
    · exact hnd.2.1.1 hm
  by_cases hk0 : S.k n 0 = 0
  · have hl0 : l = .nil := by
      cases l with
      | nil => rfl
      | nd a b d => have h1 := z4.2.2.2.2.1.1; have h2 := z4.2.2.2.2.1.2.1; omega
    subst hl0
    refine (Del_left t S c x T _ rfl n hn hn0 _ z1.symm (2000 * q + 1) w hw ho hx hR h.v64 (by omega) h.l0 (by omega) (by omega) h.kb h.dl (by omega) hpos (by omega) hk0).mono ?_
    rintro e w' ⟨rfl, g, cap, S', hS', g1, g2⟩
    have hX : (plug z r).no = pre z ++ r.no ++ post z := plug_split z r
    have hX2 : (plug z r).no = (pre z ++ Tr.nil.no) ++ (r.no ++ post z) := by rw [hX]; show _ = pre z ++ [] ++ _; simp
    obtain ⟨T', i1, i2⟩ := drop_inv (S0 := S) h rfl rfl rfl rfl rfl rfl h.v0 h.v64 (z := z) (X := r) (Y := .nd n .nil r) z3 z4.2.2.2.2.2 a4 hav (by show r.ht ≤ max 0 r.ht + 1 + 1; omega) (by show max 0 r.ht + 1 ≤ r.ht + 1; omega)
      (by rw [hX2]; exact hnd.sublist hsub2) hgT (by rw [hX2]; exact hnn2) (fun m hm => hsub m (by rw [← hX2]; exact hm)) (by rw [hX2, List.length_append]; exact hlen0) (by rw [hX2, List.map_append]; exact hup) hwl hq g cap
    refine ⟨rfl, S', ⟨T', n, pre z ++ Tr.nil.no, r.no ++ post z, by rw [hS']; exact i1, hno, z5, z6, z7, ?_⟩, by rw [hS']; exact (hang_sm S _ _).2.2.2.2.2.2.1, g1, g2⟩
    rw [hS', i2, hX2, List.map_append]
  · by_cases hk1 : S.k n 1 = 0
    · have hr0 : r = .nil := by
        cases r with
        | nil => rfl
        | nd a b d => have h1 := z4.2.2.2.2.2.1; have h2 := z4.2.2.2.2.2.2.1; omega
      subst hr0
      refine (Del_right t S c x T _ rfl n hn hn0 _ z1.symm (2000 * q + 1) w hw ho hx hR h.v64 (by omega) h.l0 (by omega) (by omega) h.kb h.dl (by omega) hpos (by omega) hk0 hk1).mono ?_
      rintro e w' ⟨rfl, g, cap, S', hS', g1, g2⟩
      have hX : (plug z l).no = pre z ++ l.no ++ post z := plug_split z l
      have hX2 : (plug z l).no = (pre z ++ l.no) ++ (Tr.nil.no ++ post z) := by rw [hX]; show _ = _ ++ ([] ++ post z); simp
      obtain ⟨T', i1, i2⟩ := drop_inv (S0 := S) h rfl rfl rfl rfl rfl rfl h.v0 h.v64 (z := z) (X := l) (Y := .nd n l .nil) z3 z4.2.2.2.2.1 a3 hav (by show l.ht ≤ max l.ht 0 + 1 + 1; omega) (by show max l.ht 0 + 1 ≤ l.ht + 1; omega)
        (by rw [hX2]; exact hnd.sublist hsub2) hgT (by rw [hX2]; exact hnn2) (fun m hm => hsub m (by rw [← hX2]; exact hm)) (by rw [hX2, List.length_append]; exact hlen0) (by rw [hX2, List.map_append]; exact hup) hwl hq g cap
      refine ⟨rfl, S', ⟨T', n, pre z ++ l.no, Tr.nil.no ++ post z, by rw [hS']; exact i1, hno, z5, z6, z7, ?_⟩, by rw [hS']; exact (hang_sm S _ _).2.2.2.2.2.2.1, g1, g2⟩
      rw [hS', i2, hX2, List.map_append]
    · have hlne : l ≠ .nil := by
        intro e
        subst e
        exact hk0 z4.2.2.2.2.1
      have z3' : ZOk S ((n, 0, r) :: z) := ⟨by decide, z4.2.1, hnl, z4.2.2.2.2.2, a4, z3⟩
      obtain ⟨gone, GL, d1, d2, d3, d4, d5, d6, ⟨D, d7, d8⟩, d9⟩ := zipD_all (S := S) l ((n, 0, r) :: z) (S.k n 0) hlne z4.2.2.2.2.1 a3 z3'
      obtain ⟨zz, hzz⟩ : ∃ zz, (zipD l ((n, 0, r) :: z)).1 = zz := ⟨_, rfl⟩
      rw [hzz] at d2 d3 d4 d8 d9
      have hdl : ∃ dl, l.down1 = dl ++ [(gone, 1)] ∧ Zip.way zz = Zip.way z ++ [(n, 0)] ++ dl := by
        have hne : l.down1 ≠ [] := by
          cases l with
          | nil => exact absurd rfl hlne
          | nd a b d => exact fun h => by cases h
        obtain ⟨dl, a, hda⟩ : ∃ dl a, l.down1 = dl ++ [a] := ⟨l.down1.dropLast, l.down1.getLast hne, (List.dropLast_concat_getLast hne).symm⟩
        rw [hda, way_app, ← List.append_assoc] at d3
        have := List.append_inj' d3 rfl
        have h2 : (gone, 1) = a := by simpa using this.2
        exact ⟨dl, by rw [hda, h2], this.1⟩
      obtain ⟨dl, hdl1, hdl2⟩ := hdl
      have hpz : plug zz (.nd gone GL .nil) = T := by rw [d2, ← z2]; rfl
      have hgl : gone < S.len := d5.2.2.1
      have hgT2 : gone ∈ T.no := by rw [← hpz, plug_mem]; left; rw [nd_no]; simp
      have hwl2 : (Zip.way zz).length ≤ q := by
        have := way_le zz (.nd gone GL .nil)
        rw [hpz, Tr.no_len] at this
        omega
      have hls : l.size ≤ T.size := by rw [← Tr.no_len, ← Tr.no_len, hno, List.length_append, List.length_append]; omega
      refine (Del_both t S c x T _ rfl n hn hn0 _ z1.symm (2000 * q + 1) w hw ho hx hR h.v64 (by omega) h.l0 (by omega) (by omega) h.kb h.dl (by omega) hpos (by omega) hk0 hk1 l z4.2.2.2.2.1.rep dl gone hdl1 hgl (fun s hs => zok_way d4 s (by rw [hdl2]; exact List.mem_append.2 (.inr hs))) (by omega)).mono ?_
      rintro e w' ⟨rfl, g, cap, S', hS', g1, g2⟩
      rw [← hdl2] at hS'
      have hX2 : (plug zz GL).no = (pre z ++ (D ++ GL.no)) ++ n :: (r.no ++ post z) := by
        rw [plug_split, d8, d9]
        show (pre z ++ []) ++ D ++ GL.no ++ ((n :: r.no) ++ post z) = _
        simp
      have hl2 : l.no = D ++ GL.no ++ [gone] := d7
      have hne : gone ≠ n := by
        intro e
        have : gone ∈ l.no := by rw [hl2]; simp
        exact hnn2 (by rw [← e]; exact List.mem_append.2 (.inl (List.mem_append.2 (.inr this))))
      have hTno : T.no = (pre z ++ (D ++ GL.no)) ++ gone :: n :: (r.no ++ post z) := by rw [hno, hl2]; simp
      have hnd2 : ((pre z ++ (D ++ GL.no)) ++ gone :: n :: (r.no ++ post z)).Nodup := by rw [← hTno]; exact hnd
      have hsub3 : (plug zz GL).no.Sublist T.no := by rw [hX2, hTno]; exact List.Sublist.append (List.Sublist.refl _) (List.sublist_cons_self _ _)
      have hgn : gone ∉ (plug zz GL).no := by
        intro hm
        rw [hX2] at hm
        rw [List.nodup_append, List.nodup_cons] at hnd2
        rcases List.mem_append.1 hm with hm | hm
        · exact hnd2.2.2 gone hm gone (by simp) rfl
        · exact hnd2.2.1.1 hm
      have hv : (plug zz GL).no.map (S.setV n (S.v gone)).v = (pre z ++ l.no).map S.v ++ (r.no ++ post z).map S.v := by
        have hnn3 : n ∉ pre z ++ (D ++ GL.no) ∧ n ∉ r.no ++ post z := by
          refine ⟨fun hm => hnn2 (List.mem_append.2 (.inl ?_)), fun hm => hnn2 (List.mem_append.2 (.inr hm))⟩
          rcases List.mem_append.1 hm with hm | hm
          · exact List.mem_append.2 (.inl hm)
          · exact List.mem_append.2 (.inr (by rw [hl2]; exact List.mem_append.2 (.inl hm)))
        have e1 : ∀ L : List Nat, n ∉ L → L.map (S.setV n (S.v gone)).v = L.map S.v := fun L hL => List.map_congr_left fun m hm => upd_ne _ _ (fun e => hL (e ▸ hm))
        rw [hX2, List.map_append, List.map_cons, e1 _ hnn3.1, e1 _ hnn3.2, show (S.setV n (S.v gone)).v n = S.v gone from upd_same _ _ _, hl2]
        simp
      obtain ⟨T', i1, i2⟩ := drop_inv (S0 := S.setV n (S.v gone)) h rfl rfl rfl rfl rfl rfl
        (by show upd S.v n _ 0 = 0; rw [upd_ne _ _ (by have := z4.2.1; omega)]; exact h.v0)
        (fun i hi => by
          show In64 (upd S.v n (S.v gone) i)
          unfold upd; split
          · exact h.v64 gone hgl
          · exact h.v64 i hi)
        (z := zz) (X := GL) (Y := .nd gone GL .nil) (ZOk.congr (S := S) (S' := S.setV n (S.v gone)) (Nat.le_refl S.len) d4 fun _ _ => ⟨rfl, rfl, rfl⟩) (Ok.congr (S := S) (S' := S.setV n (S.v gone)) (Nat.le_refl S.len) d5.2.2.2.2.1 fun _ _ => ⟨rfl, rfl, rfl⟩) d6 (by rw [hpz]; exact h.avl) (by show GL.ht ≤ max GL.ht 0 + 1 + 1; omega) (by show max GL.ht 0 + 1 ≤ GL.ht + 1; omega)
        (hnd.sublist hsub3) hgT2 hgn (fun m hm => hsub3.subset hm) (by rw [← Tr.no_len T, hX2, hTno]; simp; omega) (by rw [hv]; exact hup) hwl2 hq g cap
      refine ⟨rfl, S', ⟨T', n, pre z ++ l.no, r.no ++ post z, by rw [hS']; exact i1, hno, z5, z6, z7, ?_⟩, by rw [hS']; exact (hang_sm (S.setV n (S.v gone)) _ _).2.2.2.2.2.2.1, g1, g2⟩
      rw [hS', i2, hv]
end Go.Proofs.Ytabdjplpagcniaa

namespace Go.Proofs.Ytabdjplpagcniaa
open Go.RowKit Go.Shelf

/-- what lay at or above block B is as it was -/
structure Above (B : Nat) (W W' : World) : Prop where
  size : W.heap.size ≤ W'.heap.size
  block : ∀ k, B ≤ k → k < W.heap.size → W'.heap[k]? = W.heap[k]?
theorem Above.refl (B : Nat) (W : World) : Above B W W := ⟨Nat.le_refl _, fun _ _ _ => rfl⟩
theorem Above.trans {B : Nat} {W W1 W2 : World} (h : Above B W W1) (k : Above B W1 W2) : Above B W W2 :=
  ⟨Nat.le_trans h.size k.size, fun j hj hk => (k.block j hj (Nat.lt_of_lt_of_le hk h.size)).trans (h.block j hj hk)⟩
theorem Above.ofOut {B : Nat} {L : List Nat} {W W' : World} (h : OutL L W W') (hL : ∀ k ∈ L, k < B) : Above B W W' :=
  ⟨h.size, fun k hk hs => h.block k hs fun hm => by have := hL k hm; omega⟩
theorem Above.ofBelow {B : Nat} {W W' : World} (h : Below W.heap.size W W') : Above B W W' := .ofOut (L := []) (.ofBelow h) (fun _ hm => by cases hm)
theorem Above.putObj {B D : Nat} (W : World) (hD : D < B) (o : Obj) : Above B W (W.putObj D o) := .ofOut (putObj_out W D o) (by simpa using hD)
/-- the iterator g (captured: lb) tells encs 0, encs 1, .. up to N, as far as it is asked; it turns nothing below B; a round keeps what lies at or above B; it asks Kp between two rounds -/
def TellsK (P : Program) (gf : Nat) (lb : Array Value) (N : Nat) (encs : Nat → Array Value) (B : Nat) (Kp : World → Prop) : Prop :=
  ∀ (m lid : Nat) (I Ix : Nat → World → Prop), (∀ k W, I k W → Kp W) → (∀ k W W', I k W → Below B W W' → I k W') → (∀ k W W', Ix k W → Below B W W' → Ix k W') →
    (∀ k W, k < N → I k W → YieldAt Fence.wide m P lid (encs k) W fun e W' => ((e = .returned (.bool true) ∧ I (k + 1) W') ∨ (e = .returned (.bool false) ∧ Ix (k + 1) W')) ∧ Above B W W') →
    ∀ W, B ≤ W.heap.size → I 0 W → CallsIn Fence.wide (m + 1) P gf (#[.func (.yield lid) #[] #[]] ++ lb) W fun e W' => (∃ v, e = .returned v) ∧ (I N W' ∨ ∃ k, k ≤ N ∧ Ix k W')
def rPostK (B l D : Nat) (W : World) (J : Nat → World → Prop) (Jx : Code → Nat → World → Prop) (k : Nat) : Exit → Act → World → Prop
  | .normal, _, W' => (Fix2 l D W W' ∧ J (k + 1) W') ∧ Above B W W'
  | .ret, _, W' => (Fix2 l D W W' ∧ Jx .ret (k + 1) W') ∧ Above B W W'
  | .exit id, _, W' => (Fix2 l D W W' ∧ Jx (.exit id) (k + 1) W') ∧ Above B W W'
  | .goto t, _, W' => (Fix2 l D W W' ∧ Jx (.goto t) (k + 1) W') ∧ Above B W W'
  | .panic _, _, _ => False
  | .outgrown, _, _ => False
set_option maxHeartbeats 1000000 in
theorem wpIn_rangeK {P : Program} {g : Operand} {ps : Array Tmp} {assign body : Code} {Q : Exit → Act → World → Prop} {a : Act} {w : World} {m : Nat} {gf : Nat} {lb : Array Value} {N : Nat} {encs : Nat → Array Value} {Kp : World → Prop}
    (hg : a.eval g = .func (.func gf) #[] lb) (eg : ∀ args w, (callFunc gf args).run P w = .ok (.enter gf args) w)
    (hT : TellsK P gf lb N encs (w.heap.size + 2) Kp) (hps : ∀ k, (encs k).size = ps.size)
    (J : Nat → World → Prop) (Jx : Code → Nat → World → Prop) (hst : ∀ k W W', J k W → Below w.heap.size W W' → J k W') (hxst : ∀ c k W W', Jx c k W → Below w.heap.size W W' → Jx c k W')
    (hKp : ∀ k W, J k W → Kp W) (h0 : J 0 w)
    (hround : ∀ (lid D k : Nat) (W : World), k < N → J k W → w.heap.size ≤ lid → w.heap.size ≤ D → lid < W.heap.size → D < W.heap.size →
      assign.wpIn (Fence.wide.inRound lid) m P (Exit.then (fun a₁ w₁ => (Fix2 lid D W w₁ ∧ Above (w.heap.size + 2) W w₁) ∧ ∀ w₂, OutL [lid] w₁ w₂ → body.wpIn (Fence.wide.inRound lid) m P (rPostK (w.heap.size + 2) lid D w₂ J Jx k) a₁ w₂) (fun _ _ _ => False))
        { tmps := (ps.zip (encs k)).foldl (fun t (p, v) => t.setIfInBounds p v) a.tmps, defers := [] } W)
    (hdone : ∀ D W, w.heap.size ≤ D → J N W → W.heap[D]? = some (.deferred (some [])) → Q .normal { a with defers := { target := .collected D, args := #[] } :: a.defers } W)
    (hstop : ∀ D c k W, w.heap.size ≤ D → Jx c k W → W.heap[D]? = some (.deferred (some [])) → c.wpIn Fence.wide (m + 2) P Q { a with defers := { target := .collected D, args := #[] } :: a.defers } W) :
    (Code.rangeFunc g ps assign body).wpIn Fence.wide (m + 2) P Q a w := by
  refine wpIn_rangeFunc ?_
  intro fn hfn
  obtain ⟨rec, hrec⟩ : ∃ rec : LoopState → Option Code → Loop, rec = fun st pe => { state := st, pending := pe, fn, tmps := a.tmps, params := ps, assign, body, defers := w.heap.size } := ⟨_, rfl⟩
  obtain ⟨W1, hW1⟩ : ∃ W1, (w.alloc (.deferred (some []))).alloc (.loop (rec .ready none)) = W1 := ⟨_, rfl⟩
  have hL1 : W1.heap[w.heap.size + 1]? = some (.loop (rec .ready none)) := by
    rw [← hW1]; have := World.alloc_heap_new (w.alloc (.deferred (some []))) (.loop (rec .ready none)); rwa [World.size_alloc] at this
  have hK1 : W1.heap[w.heap.size]? = some (.deferred (some [])) := by
    rw [← hW1]; exact (Below.heap_alloc _ _ _ (by simp)).trans (World.alloc_heap_new w _)
  have hb1 : Below w.heap.size w W1 := by rw [← hW1]; exact below_a2 _ _ _
  have hsz : W1.heap.size = w.heap.size + 2 := by rw [← hW1]; simp
  refine ⟨w.heap.size + 1, [{ target := .collected w.heap.size, args := #[] }], W1, { target := .fn (.func gf) lb, args := #[.func (.yield (w.heap.size + 1)) #[] #[]] }, W1, gf,
    #[.func (.yield (w.heap.size + 1)) #[] #[]] ++ lb, W1, ?_, ?_, ?_, ?_, fun h => absurd h (by decide), ?_⟩
  · rw [← hW1, hrec]; exact run_enterLoop_outer _ _ _ _ _
  · simp only [resolve, hg]
    simp [go_sem]
  · intro f' hf'; trivial
  · simp [invoke, go_sem, eg]
  · refine (hT m (w.heap.size + 1)
      (fun k W => J k W ∧ W.heap[w.heap.size + 1]? = some (.loop (rec .ready none)) ∧ W.heap[w.heap.size]? = some (.deferred (some [])))
      (fun k W => ∃ c, Jx c k W ∧ W.heap[w.heap.size + 1]? = some (.loop (rec .done (some c))) ∧ W.heap[w.heap.size]? = some (.deferred (some [])))
      (fun k W h => hKp k W h.1) (fun k W W' h hb => ⟨hst k W W' h.1 (hb.mono (by omega)), (hb.block _ (by omega)).trans h.2.1, (hb.block _ (by omega)).trans h.2.2⟩)
      (fun k W W' h hb => by obtain ⟨c, h1, h2, h3⟩ := h; exact ⟨c, hxst c k W W' h1 (hb.mono (by omega)), (hb.block _ (by omega)).trans h2, (hb.block _ (by omega)).trans h3⟩)
      ?_ W1 (by omega) ⟨hst 0 _ _ h0 hb1, hL1, hK1⟩).mono ?_
    · rintro k W hk ⟨hi, hl, hd⟩
      have hlt : w.heap.size + 1 < W.heap.size := (Array.getElem?_eq_some_iff.1 hl).1
      have hy := run_yield (P := P) (args := encs k) hl (by rw [hrec]; exact hps k)
      rw [hrec] at hy
      refine ⟨fn, _, assign, body, hy, roundIn_of_wpIn trivial (wpIn_mono (hround _ _ k W hk hi (by omega) (Nat.le_refl _) hlt (by omega)) ?_)⟩
      rintro e a1 w1 he
      cases e with
      | normal =>
        obtain ⟨⟨hf1, hab1⟩, hbody⟩ := he
        have hl1 : w1.heap[w.heap.size + 1]? = some (.loop (rec .ready none)) := hf1.1.trans hl
        have hd1 : w1.heap[w.heap.size]? = some (.deferred (some [])) := hf1.2.trans hd
        have hlt1 : w.heap.size + 1 < w1.heap.size := (Array.getElem?_eq_some_iff.1 hl1).1
        refine ⟨_, run_beginRound hl1 (by rw [hrec]), wpIn_mono (hbody _ (putObj_out _ _ _)) ?_⟩
        have hl2 : (w1.putObj (w.heap.size + 1) (.loop { rec .ready none with state := .busy })).heap[w.heap.size + 1]? = some (.loop { rec .ready none with state := .busy }) := World.putObj_heap_same hlt1
        have hd2 : (w1.putObj (w.heap.size + 1) (.loop { rec .ready none with state := .busy })).heap[w.heap.size]? = some (.deferred (some [])) := (World.putObj_heap_other (by omega)).trans hd1
        have fin : ∀ (jump : Option Code) (W3 : World), Fix2 (w.heap.size + 1) w.heap.size (w1.putObj (w.heap.size + 1) (.loop { rec .ready none with state := .busy })) W3 →
            (Instr.endRound (w.heap.size + 1) jump).run P W3 = .ok (.bool jump.isNone) (W3.putObj (w.heap.size + 1) (.loop (rec (if jump.isNone then .ready else .done) jump))) ∧
            (W3.putObj (w.heap.size + 1) (.loop (rec (if jump.isNone then .ready else .done) jump))).heap[w.heap.size + 1]? = some (.loop (rec (if jump.isNone then .ready else .done) jump)) ∧
            (W3.putObj (w.heap.size + 1) (.loop (rec (if jump.isNone then .ready else .done) jump))).heap[w.heap.size]? = some (.deferred (some [])) := fun jump W3 hk3 => by
          have hl3 := hk3.1.trans hl2
          have := run_endRound (P := P) jump hl3
          rw [hrec] at this ⊢
          exact ⟨this, World.putObj_heap_same (Array.getElem?_eq_some_iff.1 hl3).1, (World.putObj_heap_other (by omega)).trans (hk3.2.trans hd2)⟩
        have pb : ∀ (W3 : World) (o : Obj), w.heap.size ≤ W3.heap.size → Below w.heap.size W3 (W3.putObj (w.heap.size + 1) o) := fun W3 o h => (putObj_out W3 _ o).below h (by simp)
        have sz3 : ∀ W3 : World, Fix2 (w.heap.size + 1) w.heap.size (w1.putObj (w.heap.size + 1) (.loop { rec .ready none with state := .busy })) W3 → w.heap.size ≤ W3.heap.size := fun W3 h => by
          have := (Array.getElem?_eq_some_iff.1 (h.1.trans hl2)).1; omega
        rintro e a3 W3 hp
        have abv : ∀ o : Obj, Above (w.heap.size + 2) (w1.putObj (w.heap.size + 1) (.loop { rec .ready none with state := .busy })) W3 → Above (w.heap.size + 2) W (W3.putObj (w.heap.size + 1) o) := fun o h => ((hab1.trans (.putObj _ (by omega) _)).trans h).trans (.putObj _ (by omega) _)
        cases e with
        | normal =>
          obtain ⟨hp, hab⟩ := hp
          obtain ⟨hr, hl4, hk4⟩ := fin none W3 hp.1
          exact ⟨_, _, hr, .inl ⟨rfl, hst _ _ _ hp.2 (pb _ _ (sz3 _ hp.1)), hl4, hk4⟩, abv _ hab⟩
        | ret =>
          obtain ⟨hp, hab⟩ := hp
          obtain ⟨hr, hl4, hk4⟩ := fin (some .ret) W3 hp.1
          exact ⟨_, _, hr, .inr ⟨rfl, .ret, hxst _ _ _ _ hp.2 (pb _ _ (sz3 _ hp.1)), hl4, hk4⟩, abv _ hab⟩
        | exit id =>
          obtain ⟨hp, hab⟩ := hp
          obtain ⟨hr, hl4, hk4⟩ := fin (some (.exit id)) W3 hp.1
          exact ⟨_, _, hr, .inr ⟨rfl, .exit id, hxst _ _ _ _ hp.2 (pb _ _ (sz3 _ hp.1)), hl4, hk4⟩, abv _ hab⟩
        | goto t =>
          obtain ⟨hp, hab⟩ := hp
          obtain ⟨hr, hl4, hk4⟩ := fin (some (.goto t)) W3 hp.1
          exact ⟨_, _, hr, .inr ⟨rfl, .goto t, hxst _ _ _ _ hp.2 (pb _ _ (sz3 _ hp.1)), hl4, hk4⟩, abv _ hab⟩
        | panic ch => exact hp.elim
        | outgrown => exact hp.elim
      | exit id => exact he.elim
      | goto t => exact he.elim
      | ret => exact he.elim
      | panic c => exact he.elim
      | outgrown => exact he.elim
    · rintro e W2 ⟨⟨v, rfl⟩, (⟨hi, hl, hd⟩ | ⟨k, _, c, hi, hl, hd⟩)⟩
      · have hlt : w.heap.size + 1 < W2.heap.size := (Array.getElem?_eq_some_iff.1 hl).1
        exact ⟨none, _, by have := run_endLoop (P := P) hl (by rw [hrec]; simp); rw [hrec] at this; exact this, hdone _ _ (Nat.le_refl _) (hst _ _ _ hi ((putObj_out _ _ _).below (by omega) (by simp))) ((World.putObj_heap_other (by omega)).trans hd)⟩
      · have hlt : w.heap.size + 1 < W2.heap.size := (Array.getElem?_eq_some_iff.1 hl).1
        exact ⟨some c, _, by have := run_endLoop (P := P) hl (by rw [hrec]; simp); rw [hrec] at this; exact this, hstop _ c k _ (Nat.le_refl _) (hxst _ _ _ _ hi ((putObj_out _ _ _).below (by omega) (by simp))) ((World.putObj_heap_other (by omega)).trans hd)⟩
end Go.Proofs.Ytabdjplpagcniaa

namespace Go.Proofs.Ytabdjplpagcniaa
open Go.RowKit Go.Shelf

theorem Len_is (t : Nat) (S : TS) (w : World) (h : TM w t S) :
    Calls Try.prog 20 #[ptr t 0] w fun e w' => e = .returned (.int .i64 S.n) ∧ Below w.heap.size w w' := by
  have c4 := h.c4
  clear h
  go_enter Try.func20, Try.ntmps20
  go_wp2
  go_ret
  exact ⟨rfl, Below.refl _ _⟩
theorem Deep_is (t : Nat) (S : TS) (w : World) (h : TM w t S) (hr : S.root < S.len) :
    Calls Try.prog 12 #[ptr t 0] w fun e w' => e = .returned (.int .i64 (S.d S.root)) ∧ Below w.heap.size w w' := by
  have c1 := h.c1
  have c3 := h.c3
  have cd := h.nd hr
  have hl := h.row.le
  clear h
  go_enter Try.func12, Try.ntmps12
  go_wp2
  go_region
  go_wp2
  go_ret
  exact ⟨rfl, (Below.refl _ _).drew⟩
/-- a set without things -/
def TS.new (ord : Value) (nb : Nat) : TS := ⟨ord, nb, 1, 1, fun _ => 0, fun _ _ => 0, fun _ => 0, nb, 0, 0, fun _ => 0, 0, 0⟩
theorem New_is (fid : Nat) (w : World) :
    Calls Try.prog 8 #[.func (.func fid) #[] #[]] w fun e w' => ∃ t nb, e = .returned (ptr t 0) ∧ TM2 w' t (TS.new (.func (.func fid) #[] #[]) nb) ∧ w.heap.size ≤ t ∧ w.heap.size ≤ nb ∧ Below w.heap.size w w' := by
  go_enter Try.func8, Try.ntmps8
  obtain ⟨i0, hi, hz0, hz1, hz2⟩ := info_parts info_node
  go_wp2_with (at_make; refine wpList_make_full _ rfl _ _ 48 rfl w.heap.size 54 i0 (.agg #[.int .i64 0, .int .i64 0, .int .i64 0, .int .i64 0]) 4 Try.underlying48 hi hz0 hz1 .i64 .i64 1 1 1 rfl rfl rfl rfl (by rw [hz2]; decide) (by decide) (Nat.le_refl _) ?_; intro w1 own1 gr1)
  have own1 : w1.ownsRow w.heap.size 54 4 (.slice (some ⟨w.heap.size, 0, none⟩) 1 1) 1 (flat 4 (TS.new (.func (.func fid) #[] #[]) w.heap.size).nd 1) := by
    have e : (madeCells (Value.agg #[.int .i64 0, .int .i64 0, .int .i64 0, .int .i64 0]).cells (1 * 4)).toList = flat 4 (TS.new (.func (.func fid) #[] #[]) w.heap.size).nd 1 := by kernel_rfl
    rw [← e]; exact own1
  obtain ⟨g, cap, hq, hb, hrow⟩ := Row.ofOwns own1 (by decide)
  cases hq
  have hlt := hrow.lt
  have hbel : Below w.heap.size w w1 := (Below.refl _ _).grown gr1 (Nat.le_refl _) (fun k hk => by cases hk)
  have T : TM2 (w1.alloc (.cells #[.func (.func fid) #[] #[], .slice (some ⟨w.heap.size, 0, none⟩) 1 1, .slice none 0 0, .int .i64 0, .int .i64 0] 50)) w1.heap.size (TS.new (.func (.func fid) #[] #[]) w.heap.size) := by
    refine ⟨⟨Blk.new _ _ _, hrow.alloc _, .inl ⟨rfl, rfl⟩, by show w1.heap.size ≠ w.heap.size; omega⟩, by show w.heap.size < _; simp; omega⟩
  have HT := Lib.hid T
  have HB := Lib.hid (hbel.alloc hbel.size (.cells #[.func (.func fid) #[] #[], .slice (some ⟨w.heap.size, 0, none⟩) 1 1, .slice none 0 0, .int .i64 0, .int .i64 0] 50))
  have hsz := hbel.size
  clear own1 gr1 hrow T hbel
  go_wp2
  go_ret
  exact ⟨_, _, rfl, HT.out, hsz, Nat.le_refl _, HB.out⟩
theorem walk_is (t : Nat) (w : World) :
    Calls Try.prog 32 #[ptr t 0] w fun e w' => e = .returned (.func (.func 44) #[] #[ptr w.heap.size 0]) ∧ Blk w' w.heap.size #[ptr t 0] 23 ∧ Below w.heap.size w w' := by
  go_enter Try.func32, Try.ntmps32
  go_wp2
  go_ret
  exact ⟨rfl, Blk.new _ _ _, below_a1 _ _⟩
theorem All_is (t : Nat) (w : World) :
    Calls Try.prog 15 #[ptr t 0] w fun e w' => e = .returned (.func (.func 31) #[] #[ptr w.heap.size 0]) ∧ Blk w' w.heap.size #[ptr t 0] 23 ∧ Below w.heap.size w w' := by
  go_enter Try.func15, Try.ntmps15
  go_wp2
  go_ret
  exact ⟨rfl, Blk.new _ _ _, below_a1 _ _⟩
/-- the nodes in order -/
def Tr.ino : Tr → List Nat
  | .nil => []
  | .nd i l r => l.ino ++ i :: r.ino
theorem Tr.ino_len : ∀ T : Tr, T.ino.length = T.size
  | .nil => rfl
  | .nd i l r => by
    show (l.ino ++ i :: r.ino).length = l.size + r.size + 1
    rw [List.length_append, List.length_cons, Tr.ino_len l, Tr.ino_len r]; omega
/-- what is left of those that are open -/
def rest : List (Nat × Tr) → List Nat
  | [] => []
  | (i, r) :: s => i :: (r.ino ++ rest s)
def stL (s : List (Nat × Tr)) : List Value := (s.map fun p => Value.int .i64 p.1).reverse
theorem stL_cons (p : Nat × Tr) (s : List (Nat × Tr)) : stL (p :: s) = stL s ++ [.int .i64 p.1] := by simp [stL]
def stM : List (Nat × Tr) → Nat
  | [] => 0
  | p :: s => 2 * p.2.size + 1 + stM s
def stOk (S : TS) (s : List (Nat × Tr)) : Prop := ∀ p ∈ s, p.1 ≠ 0 ∧ p.1 < S.len ∧ Rep S (S.k p.1 1) p.2
/-- what walk tells -/
def inoE (T : Tr) (k : Nat) : Array Value := #[.int .i64 (T.ino.getD k 0 : Nat)]
end Go.Proofs.Ytabdjplpagcniaa

namespace Go.Proofs.Ytabdjplpagcniaa
open Go.RowKit Go.Shelf
attribute [local go_sem] Oper.semAt_some

theorem wayown {w : World} {base : Nat} {v : Value} {n : Nat} {xs : List Value} {e : TypeId} {sz : Nat} (h : w.ownsRow base e sz v n xs) : ∀ k, v.ownBlock = some k → k < w.heap.size ∧ base ≤ k := by
  intro k hk
  rcases h.2 with ⟨rfl, h0⟩ | ⟨g, cap, cur, rfl, hb, hg, _⟩
  · cases hk
  · cases hk; exact ⟨(Array.getElem?_eq_some_iff.1 hg).1, hb⟩
theorem own_above {w w' : World} {base : Nat} {v : Value} {n : Nat} {xs : List Value} {e : TypeId} {sz : Nat} (h : w.ownsRow base e sz v n xs) (ha : Above base w w') : w'.ownsRow base e sz v n xs := by
  refine ⟨h.1, h.2.imp id ?_⟩
  rintro ⟨g, cap, cur, rfl, hbg, hg, r⟩
  exact ⟨g, cap, cur, rfl, hbg, (ha.block _ hbg (Array.getElem?_eq_some_iff.1 hg).1).trans hg, r⟩

theorem rest_len : ∀ s : List (Nat × Tr), s.length ≤ (rest s).length
  | [] => Nat.le_refl _
  | p :: s => by
    have := rest_len s
    show s.length + 1 ≤ (p.1 :: (p.2.ino ++ rest s)).length
    rw [List.length_cons, List.length_append]; omega
theorem own_below {w w' : World} {base : Nat} {v : Value} {n : Nat} {xs : List Value} {e : TypeId} {sz : Nat} (h : w.ownsRow base e sz v n xs) (hb : Below w.heap.size w w') : w'.ownsRow base e sz v n xs := by
  refine ⟨h.1, h.2.imp id ?_⟩
  rintro ⟨g, cap, cur, rfl, hbg, hg, r⟩
  exact ⟨g, cap, cur, rfl, hbg, (hb.block _ (Array.getElem?_eq_some_iff.1 hg).1).trans hg, r⟩
theorem own_pop {w : World} {base g n cap : Nat} {xs : List Value} {x : Value} {e : TypeId} (h : w.ownsRow base e 1 (.slice (some ⟨g, 0, none⟩) (n + 1) cap) (n + 1) (xs ++ [x])) :
    w.ownsRow base e 1 (.slice (some ⟨g, 0, none⟩) n cap) n xs ∧ w.cell? ⟨g, n, none⟩ = some x ∧ n + 1 ≤ cap ∧ cap ≤ maxLen := by
  have hl : xs.length = n := by have := h.1; rw [List.length_append] at this; simp at this; omega
  rcases h.2 with ⟨h1, h0⟩ | ⟨g', cap', cur, he, hb, hg, h1, h2, h3, h4⟩
  · cases h0
  · cases he
    have e1 : cur.toList.take n = xs := by
      have := congrArg (List.take n) h4
      rw [List.take_take, show min n ((n + 1) * 1) = n by omega, ← hl, List.take_left] at this
      rw [hl] at this; exact this
    refine ⟨⟨by rw [hl]; omega, .inr ⟨g, cap, cur, rfl, hb, hg, by omega, h2, h3, by rw [Nat.mul_one]; exact e1⟩⟩, ?_, h1, h2⟩
    have : (cur.toList.take ((n + 1) * 1))[n]? = some x := by rw [h4, List.getElem?_append_right (by omega)]; simp [hl]
    rw [List.getElem?_take] at this
    unfold World.cell?; rw [hg]
    split at this
    · simpa using this
    · cases this

set_option maxRecDepth 100000 in
set_option maxHeartbeats 2000000 in
theorem walk1_any (m lid bt t B : Nat) (S : TS) (T : Tr) (hR : Rep S S.root T) (hsz : T.size ≤ 100000) (I Ix : Nat → World → Prop)
    (hm : ∀ k W, I k W → Blk W bt #[ptr t 0] 23 ∧ TM W t S) (hst : ∀ k W W', I k W → Below B W W' → I k W')
    (hY : ∀ k W, k < T.size → I k W → YieldAt Fence.wide m Try.prog lid (inoE T k) W fun e W' => ((e = .returned (.bool true) ∧ I (k + 1) W') ∨ (e = .returned (.bool false) ∧ Ix (k + 1) W')) ∧ Above B W W')
    (W : World) (hB : B ≤ W.heap.size) (h0 : I 0 W) :
    CallsIn Fence.wide (m + 1) Try.prog 44 #[.func (.yield lid) #[] #[], ptr bt 0] W fun e W' => (∃ v, e = .returned v) ∧ (I T.size W' ∨ ∃ k, k ≤ T.size ∧ Ix k W') := by
  refine callsIn_of_wp Try.func44 rfl trivial ?_ rfl
  simp only [Try.ntmps44, List.size_toArray, List.length_cons, List.length_nil, Nat.reduceAdd, Nat.reduceSub, Array.replicate_succ, Array.replicate_zero, List.push_toArray, List.append_toArray, List.nil_append, List.cons_append]
  have b0 := (hm 0 W h0).1.cell 0
  have c3 := (hm 0 W h0).2.c3
  simp only [List.getElem?_toArray, List.getElem?_cons_zero] at b0
  obtain ⟨i0, hi, hz0, hz1, hz2⟩ := info_parts info_int
  gi_wp2
  clear b0 c3
  gi_loopg [3, 4] (2 * T.size) (fun gk s3 s4 wr => ∃ (stk : List (Nat × Tr)) (T' : Tr) (j k : Nat), s4 = .int .i64 j ∧ Rep S j T' ∧ wr.ownsRow B 3 1 s3 stk.length (stL stk) ∧ stOk S stk ∧ T.ino.drop k = T'.ino ++ rest stk ∧ k ≤ T.size ∧ I k wr ∧ B ≤ wr.heap.size ∧ 2 * T'.size + stM stk ≤ gk ∧ T'.size + stk.length ≤ 100000)
  case atStart => exact ⟨[], T, S.root, 0, rfl, hR, ⟨rfl, .inl ⟨rfl, rfl⟩⟩, (fun p h => nomatch h), by simp [rest], Nat.zero_le _, h0, hB, Nat.le_refl _, hsz⟩
  case round =>
    clear hR h0 hB
    obtain ⟨stk, T', j, k, rfl, hR, hown, hok, hd, hk, hI, hB, hg, hl⟩ := hrel
    obtain ⟨hbt, htm⟩ := hm k wr hI
    have b0 := hbt.cell 0
    simp only [List.getElem?_toArray, List.getElem?_cons_zero] at b0
    cases T' with
    | nd i l r =>
      obtain ⟨rfl, hi0, hil, hl0, hr0⟩ := hR
      have hne : ¬ ((j : Int) = 0) := by omega
      have e_ : (Tr.nd j l r).size = l.size + r.size + 1 := rfl
      have hst1 := fun W' h => hst k wr W' hI h
      have HT := Lib.hid htm
      have HH := Lib.hid (And.intro hm (And.intro hst hY))
      have HI := Lib.hid hI
      have HD := Lib.hid hd
      clear hbt htm hm hst hY hI hd
      gi_wp2_with (gi_at_builtin; refine wpListIn_append_own _ rfl _ _ 27 rfl B 3 i0 (.int .i64 0) 1 8 Try.underlying27 hi hz0 hz1 hz2 rfl (by decide) _ stk.length (stL stk) rfl (hown.kept (World.grownBy_alloc _ _ none) (by first | (cases hv : u3.ownBlock <;> simp) | simp)) ⟨wr.heap.size, 0, none⟩ 1 1 [.int .i64 j] rfl rfl ?c1 ?c2 ?c3 ?c4 ?c5 ?_)
      case c1 =>
        intro k u hk
        match k, hk with
        | 0, hk => simp at hk; subst hk; rw [addz]; exact cell_newz rfl _ _
      case c2 => intro u hu; simp at hu; subst hu; rfl
      case c3 => unfold maxLen; omega
      case c4 => omega
      case c5 => simp; omega
      intro v1 w2 own1 gr1 _
      have hbel : Below B wr w2 := ((Below.refl B wr).alloc hB _).grown gr1 (by simp; omega) (fun k hk => (wayown hown k hk).2)
      have I2 := hst1 w2 hbel
      have T2 := (HH.out.1 k w2 I2)
      have b2 := T2.1.cell 0
      simp only [List.getElem?_toArray, List.getElem?_cons_zero] at b2
      have T2 := Lib.hid T2.2
      have OW := Lib.hid own1
      have I2 := Lib.hid I2
      have hB2 : B ≤ w2.heap.size := Nat.le_trans hB hbel.size
      clear own1 gr1 hbel hown HT HI b0 hst1
      gi_wp2_with fail
      refine ⟨trivial, callsIn_wide.2 ?_⟩
      refine (at_any t S j _ T2.out hil).mono ?_
      rintro e w3 ⟨rfl, hn⟩
      have n0 := (T2.out.of hn).n0 hil
      have I3 := HH.out.2.1 k w2 w3 I2.out (hn.mono hB2)
      have OW3 := own_below OW.out hn
      have hB3 := Nat.le_trans hB2 hn.size
      have I3 := Lib.hid I3
      have OW3 := Lib.hid OW3
      clear hn T2 I2 OW b2
      gi_wp2_with fail
      gi_roundg (2 * l.size + stM ((j, r) :: stk))
      case measure => show 2 * l.size + (2 * r.size + 1 + stM stk) < _; omega
      case rel =>
        refine ⟨(j, r) :: stk, l, S.k j 0, k, rfl, hl0, by rw [stL_cons]; exact OW3.out, ?_, ?_, hk, I3.out, hB3, Nat.le_refl _, by simp; omega⟩
        · intro p hp
          rcases List.mem_cons.1 hp with rfl | hp
          · exact ⟨by show j ≠ 0; omega, hil, hr0⟩
          · exact hok p hp
        · rw [HD.out]
          show (l.ino ++ j :: r.ino) ++ rest stk = l.ino ++ (j :: (r.ino ++ rest stk))
          simp
    | nil =>
      obtain rfl : j = 0 := hR
      cases stk with
      | nil =>
        have hv : ∃ a cap, u3 = .slice a 0 cap := by
          rcases hown.2 with ⟨rfl, _⟩ | ⟨g, cap, cur, rfl, _⟩
          · exact ⟨_, _, rfl⟩
          · exact ⟨_, _, rfl⟩
        obtain ⟨a, cap, rfl⟩ := hv
        have hkT : k = T.size := by
          have : (T.ino.drop k).length = 0 := by rw [hd]; rfl
          rw [List.length_drop, Tr.ino_len] at this
          omega
        subst hkT
        have HI := Lib.hid hI
        clear hm hst hY hI hd hok hown hbt htm
        gi_wp2
        go_end0
        exact ⟨⟨_, rfl⟩, .inl HI.out⟩
      | cons p s =>
        obtain ⟨i, r⟩ := p
        have hv : ∃ g cap, u3 = .slice (some ⟨g, 0, none⟩) (s.length + 1) cap := by
          rcases hown.2 with ⟨rfl, h0⟩ | ⟨g, cap, cur, rfl, _⟩
          · cases h0
          · exact ⟨_, _, rfl⟩
        obtain ⟨g, cap, rfl⟩ := hv
        obtain ⟨hi0, hil, hr0⟩ := hok (i, r) (by simp)
        rw [stL_cons] at hown
        obtain ⟨own1, hc, hcap, hcap2⟩ := own_pop hown
        have hkT : k < T.size := by
          have : 0 < (T.ino.drop k).length := by rw [hd]; show 0 < ([] ++ (i :: (r.ino ++ rest s))).length; simp
          rw [List.length_drop, Tr.ino_len] at this
          omega
        have hgi : T.ino.getD k 0 = i := by
          have : T.ino[k]? = some i := by
            have h1 : (T.ino.drop k)[0]? = some i := by rw [hd]; rfl
            rwa [List.getElem?_drop, Nat.add_zero] at h1
          rw [List.getD_eq_getElem?_getD, this]; rfl
        have hd1 : T.ino.drop (k + 1) = r.ino ++ rest s := by
          rw [← List.drop_drop, hd]; rfl
        obtain ⟨fn, tmps, assign, body, hy, hR⟩ := hY k wr hkT hI
        unfold inoE at hy
        rw [hgi] at hy
        have hm1 : s.length < s.length + 1 := by omega
        have hcap3 : cap ≤ 9223372036854775807 := by unfold maxLen at hcap2; omega
        obtain ⟨q, hq⟩ : ∃ q, s.length = q := ⟨_, rfl⟩
        rw [hq] at hc hcap hm1 own1 ⊢
        have HQ := Lib.hid hq
        have HH := Lib.hid (And.intro hm (And.intro hst hY))
        have OW := Lib.hid own1
        have HD := Lib.hid hd1
        have HOK := Lib.hid hok
        have HG := Lib.hid (And.intro hg hl)
        clear hm hst hY hI hd hok hown hbt htm hq hd1 own1 hgi hg hl
        gi_wp2
        refine hR.mono ?_
        rintro e W3 ⟨(⟨rfl, hI3⟩ | ⟨rfl, hx3⟩), hab⟩
        · have OW3 := Lib.hid (own_above OW.out hab)
          obtain ⟨hbt, htm⟩ := HH.out.1 (k + 1) W3 hI3
          have b3 := hbt.cell 0
          simp only [List.getElem?_toArray, List.getElem?_cons_zero] at b3
          have hB3 := Nat.le_trans hB hab.size
          have HT3 := Lib.hid htm
          have HI3 := Lib.hid hI3
          clear hbt htm hI3 hab OW hc b0 hy hR
          gi_wp2_with fail
          refine ⟨trivial, callsIn_wide.2 ?_⟩
          refine (at_any t S i _ HT3.out hil).mono ?_
          rintro e w4 ⟨rfl, hn⟩
          have n1 := (HT3.out.of hn).n1 hil
          have HI4 := Lib.hid (HH.out.2.1 (k + 1) W3 w4 HI3.out (hn.mono hB3))
          have OW4 := Lib.hid (own_below OW3.out hn)
          have hB4 := Nat.le_trans hB3 hn.size
          clear hn HT3 HI3 OW3 b3
          gi_wp2_with fail
          gi_roundg (2 * r.size + stM s)
          case measure => have h1 := HG.out.1; have h2 : 2 * Tr.nil.size + (2 * r.size + 1 + stM s) ≤ gk := h1; omega
          case rel =>
            refine ⟨s, r, S.k i 1, k + 1, rfl, hr0, by rw [HQ.out]; exact OW4.out, fun p hp => HOK.out p (List.mem_cons_of_mem _ hp), HD.out, hkT, HI4.out, hB4, Nat.le_refl _, ?_⟩
            have h1 := HG.out.2
            have h2 : ((i, r) :: s).length = s.length + 1 := rfl
            have h3 := congrArg List.length HD.out
            rw [List.length_drop, List.length_append, Tr.ino_len, Tr.ino_len] at h3
            have h4 := rest_len s
            omega
        · have HX := Lib.hid hx3
          clear hx3 hab OW hc b0 hy hR
          gi_wp2
          refine bodyPost_ret (results_none rfl _ _ _) rfl ?_
          exact ⟨⟨_, rfl⟩, .inr ⟨k + 1, by omega, HX.out⟩⟩
theorem walk1_tells (bt t : Nat) (S : TS) (T : Tr) (B : Nat) (hR : Rep S S.root T) (hsz : T.size ≤ 100000) :
    TellsK Try.prog 44 #[ptr bt 0] T.size (inoE T) B (fun W => Blk W bt #[ptr t 0] 23 ∧ TM W t S) :=
  fun m lid I Ix hK hst _ hY W hB h0 => walk1_any m lid bt t B S T hR hsz I Ix hK hst hY W hB h0
end Go.Proofs.Ytabdjplpagcniaa

namespace Go.Proofs.Ytabdjplpagcniaa
open Go.RowKit Go.Shelf
section
variable {P : Program} {ops : Array Oper} {Q : Exit → Act → World → Prop} {md : Region.Mode} {m : Nat} {lid : Nat}

theorem wpAnyIn_of_headH {C : World → Prop} {n g : Nat} {L : Array Bool → Act → World → Prop} (hd : noDefer ops = true) (hq : ∀ a w, ¬ Q .outgrown a w) (hL : ∀ listed a w, L listed a w → wpAnyIn (Fence.wide.inRound lid) m P md ops Q g listed a w) :
    ∀ (f : Nat) (listed : Array Bool) (a : Act) (w : World), wpAnyHL P md ops Q C n L f listed a w → wpAnyIn (Fence.wide.inRound lid) m P md ops Q (f + g) listed a w
  | 0, listed, a, w, h => by rw [Nat.zero_add]; exact hL _ _ _ h
  | f + 1, listed, a, w, h => by
    rw [show f + 1 + g = (f + g) + 1 by omega]
    exact ⟨fun h0 => absurd h0 h.1, fun i hi => wpOpIn_mono (fun a' w' h' => wpAnyIn_of_headH hd hq hL f _ a' w' h'.2) (wpOp_in hd hq (h.2 i hi).2)⟩
theorem wpAnyIn_seq {F : Fence} {m : Nat} : ∀ (l : List Oper) (k : Nat) (listed : Array Bool) (a : Act) (w : World), (∀ j, l[j]? = ops[k + j]?) →
    Region.seqB md ops l.length k listed = true → wpListIn F m P ops Q l a w → wpAnyIn F m P md ops Q l.length listed a w
  | [], _, _, _, _, _, hB, h => ⟨by simpa [Region.seqB] using hB, h⟩
  | o :: l, k, listed, a, w, hl, hB, h => by
    have h0 : ops[k]? = some o := by simpa using (hl 0).symm
    simp only [List.length_cons, Region.seqB, Bool.and_eq_true, decide_eq_true_eq] at hB
    refine ⟨fun h1 => (by rw [hB.1] at h1; cases h1), fun i hi => ?_⟩
    rw [hB.1] at hi
    obtain rfl : i = k := by simpa using hi
    have hw : wpOpIn F m P ops Q i (wpListIn F m P ops Q l) a w := by unfold wpOpIn; simp only [h0]; exact h
    exact wpOpIn_mono (fun a' w' h' => wpAnyIn_seq l (i + 1) _ a' w' (fun j => by have := hl (j + 1); simpa [Nat.add_assoc, Nat.add_comm 1 j] using this) hB.2 h') hw
theorem wpIn_region_upI {id : Nat} {a : Act} {w : World} {l : List Oper} (B n : Nat) (σ : List (Bool × Nat)) (hm : P.follows .mixedOrders = true)
    (hB : (Region.noSelect l.toArray && headB .any l.toArray n && decide (σ.length = n) && decide (n ≤ l.length) && schedB .any l.toArray n σ (Array.replicate l.length false)) = true)
    (hd : noDefer l.toArray = true) (hq : ∀ a w, ¬ Q .outgrown a w)
    (hQ : ∀ c a d v w, Q (.panic c) (Act.put a d v) w → Q (.panic c) a w)
    (h : wpS P l.toArray (fun w' => ∃ u : UpTo B w, w' = u.w) Q (fun a' w' => wpListIn (Fence.wide.inRound lid) m P l.toArray Q (l.drop n) a' w') σ a w.drew) : (Code.region id l.toArray true).wpIn (Fence.wide.inRound lid) m P Q a w := by
  simp only [Bool.and_eq_true, decide_eq_true_eq] at hB
  obtain ⟨⟨⟨⟨hsel, hh⟩, hlen⟩, hn⟩, hs⟩ := hB
  have hdl : (l.drop n).length = l.toArray.size - n := by simp
  have hrep : (Array.replicate l.length false) = Array.replicate l.toArray.size false := by simp
  rw [hrep] at hs
  have inv0 : HeadInv .any l.toArray n (Array.replicate l.toArray.size false) :=
    ⟨by simp, fun j oj _ hl => (by rw [getD_replicate_false] at hl; cases hl), fun t _ ht => getD_in (by simpa using ht) (getD_replicate_false _ _)⟩
  have H := wpAnyHL_of_sched (P := P) (C := fun w' => ∃ u : UpTo B w, w' = u.w) hsel hh hQ σ _ a _ inv0 hs (up_iff.2 (Below.refl B w).drew) h
  refine wpIn_region_any hm ?_
  have := wpAnyIn_of_headH (m := m) (lid := lid) (g := l.toArray.size - n) hd hq (fun listed a' w' hL => by
    have := wpAnyIn_seq (md := .any) (Q := Q) (l.drop n) n listed a' w' (fun j => by simp [List.getElem?_drop]) (by rw [hdl]; exact hL.1) hL.2
    rwa [hdl] at this) _ _ _ _ H
  have e : σ.length + (l.toArray.size - n) = l.toArray.size := by simp; omega
  rw [e] at this
  exact this
end
end Go.Proofs.Ytabdjplpagcniaa

namespace Go.Proofs.Ytabdjplpagcniaa
open Go.RowKit Go.Shelf
attribute [local go_sem] Oper.semAt_some

theorem yield_deep {m m' l l0 : Nat} {P : Program} {args : Array Value} {W : World} {R : Ending → World → Prop} (h : YieldAt Fence.wide m P l args W R) : YieldAt (Fence.wide.inRound l0) m' P l args W R := by
  obtain ⟨fn, tmps, assign, body, hy, hR⟩ := h
  exact ⟨fn, tmps, assign, body, hy, hR.1, fun c cs _ => hR.2 c cs (fun d h => by cases h)⟩
/-- what All tells -/
def valE (S : TS) (T : Tr) (k : Nat) : Array Value := #[.int .i64 (S.v (T.ino.getD k 0))]
theorem Blk.above {W w : World} {b B : Nat} {c : Array Value} {t : TypeId} (h : Blk W b c t) (ho : Above B W w) (hb : B ≤ b) : Blk w b c t := (ho.block b hb h.lt).trans h
theorem Rep.ino_lt {S : TS} : ∀ {j : Nat} {T : Tr}, Rep S j T → ∀ i ∈ T.ino, 0 < i ∧ i < S.len
  | _, .nil, _, i, h => by cases h
  | _, .nd a l r, hr, i, h => by
    rcases List.mem_append.1 (show i ∈ l.ino ++ a :: r.ino from h) with h | h
    · exact Rep.ino_lt hr.2.2.2.1 i h
    · rcases List.mem_cons.1 h with rfl | h
      · exact ⟨hr.2.1, hr.2.2.1⟩
      · exact Rep.ino_lt hr.2.2.2.2 i h
theorem Rep.ino_at {S : TS} {j : Nat} {T : Tr} (hr : Rep S j T) {k : Nat} (hk : k < T.size) : 0 < T.ino.getD k 0 ∧ T.ino.getD k 0 < S.len := by
  have hl : k < T.ino.length := by rw [Tr.ino_len]; exact hk
  rw [List.getD_eq_getElem?_getD, List.getElem?_eq_getElem hl]
  exact hr.ino_lt _ (List.getElem_mem hl)

set_option maxRecDepth 100000 in
set_option maxHeartbeats 2000000 in
theorem All1_any (m lid bt t B : Nat) (S : TS) (T : Tr) (hR : Rep S S.root T) (hsz : T.size ≤ 100000) (I Ix : Nat → World → Prop)
    (hm : ∀ k W, I k W → Blk W bt #[ptr t 0] 23 ∧ TM W t S) (hst : ∀ k W W', I k W → Below B W W' → I k W') (hxst : ∀ k W W', Ix k W → Below B W W' → Ix k W')
    (hY : ∀ k W, k < T.size → I k W → YieldAt Fence.wide m Try.prog lid (valE S T k) W fun e W' => ((e = .returned (.bool true) ∧ I (k + 1) W') ∨ (e = .returned (.bool false) ∧ Ix (k + 1) W')) ∧ Above B W W')
    (W : World) (hB : B ≤ W.heap.size) (h0 : I 0 W) :
    CallsIn Fence.wide (m + 1) Try.prog 31 #[.func (.yield lid) #[] #[], ptr bt 0] W fun e W' => (∃ v, e = .returned v) ∧ (I T.size W' ∨ ∃ k, k ≤ T.size ∧ Ix k W') := by
  refine callsIn_wide.2 ((callsIn_wide (n := 3)).1 ?_)
  refine callsIn_of_wp_marks Try.func31 rfl trivial ?_ rfl
  simp only [Try.ntmps31, List.size_toArray, List.length_cons, List.length_nil, Nat.reduceAdd, Nat.reduceSub, Array.replicate_succ, Array.replicate_zero, List.push_toArray, List.append_toArray, List.nil_append, List.cons_append]
  have b0 := (hm 0 W h0).1.cell 0
  have lb := (hm 0 W h0).1.lt
  simp only [List.getElem?_toArray, List.getElem?_cons_zero] at b0
  have H0 := Lib.hid h0
  have HH := Lib.hid (And.intro hm (And.intro hst (And.intro hxst hY)))
  clear hm hst hxst hY h0
  gi_wp2_with fail
  refine ⟨trivial, callsIn_wide.2 ?_⟩
  refine calls_w ?_
  intro V hV
  have ky : Blk V W.heap.size #[.func (.yield lid) #[] #[]] 40 := by rw [hV]; exact Blk.new _ _ _
  have hbV : Below W.heap.size W V := by rw [hV]; exact below_a1 _ _
  clear hV b0
  refine (walk_is t V).mono ?_
  rintro e V2 ⟨rfl, kw, hb2⟩
  have sz1 := ky.lt
  have ky2 := ky.of hb2
  have hb2' : Below W.heap.size W V2 := hbV.trans (hb2.mono hbV.size)
  have hI2 := HH.out.2.1 0 W V2 H0.out (hb2'.mono hB)
  have sz2 := hb2.size
  have sz3 := kw.lt
  obtain ⟨y, hy⟩ : ∃ y, W.heap.size = y := ⟨_, rfl⟩
  obtain ⟨cw, hcw⟩ : ∃ cw, V.heap.size = cw := ⟨_, rfl⟩
  rw [hy] at ky2 sz1 hB ⊢
  rw [hcw] at kw sz1 sz2 sz3 ⊢
  clear hy hcw ky hbV hb2 hb2' H0
  gi_wp2_with fail
  have sy := ky2.lt
  refine wpIn_rangeK (m := 1) (gf := 44) (lb := #[ptr cw 0]) (N := T.size) (encs := inoE T) (Kp := fun W => Blk W cw #[ptr t 0] 23 ∧ TM W t S) rfl (fun args w => by go_simp) (walk1_tells cw t S T _ hR hsz) (fun _ => rfl)
    (fun k W => I k W ∧ Blk W y #[.func (.yield lid) #[] #[]] 40 ∧ Blk W cw #[ptr t 0] 23)
    (fun c k W => c = .ret ∧ k ≤ T.size ∧ Ix k W) ?stable ?xstable ?keeps ?start ?round ?done ?stop
  case stable =>
    rintro k W W' ⟨j1, j2, j3⟩ hbl
    exact ⟨HH.out.2.1 k W W' j1 (hbl.mono (by omega)), j2.below hbl (by omega), j3.below hbl (by omega)⟩
  case xstable =>
    rintro c k W W' ⟨j1, j0, j2⟩ hbl
    exact ⟨j1, j0, HH.out.2.2.1 k W W' j2 (hbl.mono (by omega))⟩
  case keeps =>
    rintro k W ⟨j1, j2, j3⟩
    exact ⟨j3, (HH.out.1 k W j1).2⟩
  case start => exact ⟨hI2, ky2, kw⟩
  case round =>
    rintro l2 D k W2 hk ⟨j1, j2, j3⟩ g1 g2 g3 g4
    unfold inoE
    have hino := hR.ino_at hk
    have hval : valE S T k = #[.int .i64 (S.v (T.ino.getD k 0))] := rfl
    obtain ⟨i, hi⟩ : ∃ i, T.ino.getD k 0 = i := ⟨_, rfl⟩
    rw [hi] at hino hval ⊢
    clear hi kw ky2 hI2
    have J1 := Lib.hid j1
    have J2 := Lib.hid j2
    have J3 := Lib.hid j3
    clear j1 j2 j3
    gi_wp2
    refine ⟨⟨Fix2.of (OutL.refl [] _) g3 g4 (by simp) (by simp), Above.refl _ _⟩, ?_⟩
    intro W3 hW3
    have hI3 := HH.out.2.1 k W2 W3 J1.out (hW3.below (by omega) (by simp; omega))
    have k3 := J2.out.out hW3 (by simp; omega)
    have q1 := k3.cell 0
    have q2 := k3.lt
    obtain ⟨hbt, htm⟩ := HH.out.1 k W3 hI3
    have q3 := hbt.cell 0
    have q4 := hbt.lt
    have q5 := htm.row.lt
    have nv := htm.nv hino.2
    simp only [List.getElem?_toArray, List.getElem?_cons_zero] at q1 q3
    have HT := Lib.hid htm
    have HI3 := Lib.hid hI3
    have HK3 := Lib.hid k3
    have HCW := Lib.hid (J3.out.out hW3 (by simp; omega))
    have sz4 := hW3.size
    clear J1 J2 J3 hI3 k3 hbt htm
    gi_wp2
    refine wpIn_region_upI W3.heap.size 7 [(true, 0), (true, 1), (true, 2), (false, 3), (true, 4), (true, 5), (true, 6)] (by kernel_rfl) (by kernel_rfl) (by kernel_rfl) (fun _ _ h => h) (fun _ _ d _ _ h => by cases d <;> exact h) ?_
    have hb : Below W3.heap.size W3 W3.drew := (Below.refl _ _).drew
    iterate 3
      first | refine wpS_takeL rfl rfl ?_ | refine wpS_takeN rfl ⟨_, rfl⟩ ?_
      go_big_quiet_step (rfl)
      refine wpQuiet_nil ?_
    refine wpS_doL rfl ?_
    intro K hK
    go_wp2_with ((go_at_call 33; (with_reducible refine (at_any t S i _ (HT.out.of hb) hino.2).mono ?_); rintro e w2 ⟨rfl, hn⟩))
    replace hb := hb.trans (hn.mono hb.size)
    refine hK.out _ _ (up_iff.2 hb) ?_
    clear hK K
    clear hn
    iterate 3
      first | refine wpS_takeL rfl rfl ?_ | refine wpS_takeN rfl ⟨_, rfl⟩ ?_
      go_big_quiet_step (rfl)
      refine wpQuiet_nil ?_
    refine wpS_nil ?_
    simp only [List.drop_succ_cons, List.drop_zero]
    have hIu := HH.out.2.1 k W3 w2 HI3.out (hb.mono (by omega))
    obtain ⟨fn, tmps, assign, body, hy, hR2⟩ := yield_deep (m' := 0) (l0 := l2) (HH.out.2.2.2 k w2 hk hIu)
    rw [hval] at hy
    have HB := Lib.hid hb
    have HK4 := Lib.hid (HK3.out.of hb)
    clear hb HT HI3 HK3 q1 q3 nv
    have hHK3 := HK4.out
    gi_wp2
    refine hR2.mono ?_
    rintro e W5 ⟨(⟨rfl, hI5⟩ | ⟨rfl, hx5⟩), hab⟩
    · have ab5 : Above B W3 W5 := (Above.ofBelow HB.out).trans hab
      have G1 : Fix2 l2 D W3 W5 := ⟨ab5.block _ (by omega) (by omega), ab5.block _ (by omega) (by omega)⟩
      have G2 := hHK3.above hab (by omega)
      have G3 : Blk W5 cw #[ptr t 0] 23 := HCW.out.above ab5 (by omega)
      have G4 : Above (V2.heap.size + 2) W3 W5 := ⟨ab5.size, fun k h1 h2 => ab5.block k (by omega) h2⟩
      have GG := Lib.hid (show (Fix2 l2 D W3 W5 ∧ I (k + 1) W5 ∧ Blk W5 y #[.func (.yield lid) #[] #[]] 40 ∧ Blk W5 cw #[ptr t 0] 23) ∧ Above (V2.heap.size + 2) W3 W5 from ⟨⟨G1, hI5, G2, G3⟩, G4⟩)
      clear hI5 hab ab5 G1 G2 G3 G4 hHK3 HK4 HB hy hR2 hIu
      gi_wp2
      exact GG.out
    · have ab5 : Above B W3 W5 := (Above.ofBelow HB.out).trans hab
      have G1 : Fix2 l2 D W3 W5 := ⟨ab5.block _ (by omega) (by omega), ab5.block _ (by omega) (by omega)⟩
      have G4 : Above (V2.heap.size + 2) W3 W5 := ⟨ab5.size, fun k h1 h2 => ab5.block k (by omega) h2⟩
      have GG := Lib.hid (show (Fix2 l2 D W3 W5 ∧ Ix (k + 1) W5) ∧ Above (V2.heap.size + 2) W3 W5 from ⟨⟨G1, hx5⟩, G4⟩)
      clear hx5 hab ab5 G1 G4 hHK3 HK4 HB hy hR2 hIu
      gi_wp2
      exact ⟨⟨GG.out.1.1, rfl, hk, GG.out.1.2⟩, GG.out.2⟩
  case done =>
    rintro D V5 g1 ⟨j1, j2, j3⟩ hD
    have hfin : Hid (I T.size (V5.putObj D (.deferred none))) := Lib.hid (HH.out.2.1 _ _ _ j1 ((putObj_out V5 D _).below (by have := j3.lt; have := (Array.getElem?_eq_some_iff.1 hD).1; omega) (by simp; omega)))
    clear j1 j2 j3 hI2 ky2 kw
    gi_wp2
    refine ⟨by simp, .inl ⟨_, _, rfl, run_takeDeferred hD, ?_⟩⟩
    exact ⟨_, results_none rfl _ _ _, ⟨_, rfl⟩, .inl hfin.out⟩
  case stop =>
    rintro D c k V5 g1 ⟨rfl, j0, j2⟩ hD
    have hfin : Hid (Ix k (V5.putObj D (.deferred none))) := Lib.hid (HH.out.2.2.1 _ _ _ j2 ((putObj_out V5 D _).below (by have := (Array.getElem?_eq_some_iff.1 hD).1; omega) (by simp; omega)))
    clear j2 hI2 ky2 kw
    gi_wp2
    refine ⟨by simp, .inl ⟨_, _, rfl, run_takeDeferred hD, ?_⟩⟩
    exact ⟨_, results_none rfl _ _ _, ⟨_, rfl⟩, .inr ⟨k, j0, hfin.out⟩⟩
theorem All1_tells (bt t : Nat) (S : TS) (T : Tr) (B : Nat) (hR : Rep S S.root T) (hsz : T.size ≤ 100000) :
    TellsK Try.prog 31 #[ptr bt 0] T.size (valE S T) B (fun W => Blk W bt #[ptr t 0] 23 ∧ TM W t S) :=
  fun m lid I Ix hK hst hxst hY W hB h0 => All1_any m lid bt t B S T hR hsz I Ix hK hst hxst hY W hB h0
end Go.Proofs.Ytabdjplpagcniaa

namespace Go.Proofs.Ytabdjplpagcniaa
open Go.RowKit Go.Shelf
attribute [local go_sem] Oper.semAt_some

/-- the depths are right and the sides alike, from a node on -/
def Bal (S : TS) (i : Nat) : Prop := S.d i = max (S.d (S.k i 0)) (S.d (S.k i 1)) + 1 ∧ S.d (S.k i 0) - S.d (S.k i 1) < 2 ∧ S.d (S.k i 1) - S.d (S.k i 0) < 2
theorem fit_same {S : TS} {i : Nat} (h : S.d i = max (S.d (S.k i 0)) (S.d (S.k i 1)) + 1) : S.fit i = S := by
  unfold TS.fit TS.setD
  have : upd S.d i (max (S.d (S.k i 0)) (S.d (S.k i 1)) + 1) = S.d := by
    funext j; unfold upd; split
    · rename_i e; rw [e, h]
    · rfl
  rw [this]
def lastI (T : Tr) : Nat → Nat
  | 0 => 0
  | k + 1 => T.ino.getD k 0

set_option maxRecDepth 100000 in
set_option maxHeartbeats 2000000 in
theorem Check_is (t : Nat) (S : TS) (c : Int → Int → Int) (T : Tr) (B : Int) (w : World) (h : TM2 w t S) (ho : OrdOk S.ord c) (hv : ∀ i, i < S.len → In64 (S.v i)) (hR : Rep S S.root T) (hsz : T.size ≤ 100000) (hk : KB S) (hd : DL S B) (hB : B < 1000000)
    (hbal : ∀ i ∈ T.ino, Bal S i) (hsort : ∀ k, k + 1 < T.size → c (S.v (T.ino.getD k 0)) (S.v (T.ino.getD (k + 1) 0)) < 0) (hn : S.n = T.size) :
    Calls Try.prog 19 #[ptr t 0] w fun e w' => e = .returned (.bool true) ∧ TM2 w' t S ∧ Fr t S S w w' := by
  refine (callsIn_wide (n := 3)).1 ?_
  refine callsIn_of_wp_marks Try.func19 rfl trivial ?_ rfl
  simp only [Try.ntmps19, List.size_toArray, List.length_cons, List.length_nil, Nat.reduceAdd, Nat.reduceSub, Array.replicate_succ, Array.replicate_zero, List.push_toArray, List.append_toArray, List.nil_append, List.cons_append]
  have HT := Lib.hid h
  have HH := Lib.hid (And.intro ho (And.intro hv (And.intro hk (And.intro hd (And.intro hbal (And.intro hsort hn))))))
  clear h ho hv hk hd hbal hsort hn
  gi_wp2_with fail
  refine ⟨trivial, callsIn_wide.2 ?_⟩
  refine calls_w ?_
  intro V hV
  have kt : Blk V w.heap.size #[ptr t 0] 23 := by rw [hV]; exact (((Blk.new w _ _).alloc _).alloc _).alloc _
  have kr : Blk V (w.heap.size + 1) #[.bool false] 4 := by rw [hV]; exact ((Blk.new1 w _ _ _).alloc _).alloc _
  have kn : Blk V (w.heap.size + 1 + 1) #[.int .i64 0] 3 := by rw [hV]; exact (Blk.new2 w _ _ _ _).alloc _
  have kl : Blk V (w.heap.size + 1 + 1 + 1) #[.int .i64 0] 3 := by rw [hV]; exact Blk.new3 w _ _ _ _ _
  have hbV : Below w.heap.size w V := by rw [hV]; exact (below_a3 _ _ _ _).alloc (by simp; omega) _
  clear hV
  refine (walk_is t V).mono ?_
  rintro e V2 ⟨rfl, kw, hb2⟩
  have T2 := HT.out.of (hbV.trans (hb2.mono hbV.size))
  have F2 : Fr t S S w V2 := Fr.ofBelow (hbV.trans (hb2.mono hbV.size))
  have kt2 := kt.of hb2
  have kr2 := kr.of hb2
  have kn2 := kn.of hb2
  have kl2 := kl.of hb2
  have z1 := kl.lt
  have z2 := kw.lt
  have t1 := HT.out.m.blk.lt
  have t2 := HT.out.m.row.lt
  have t3 := HT.out.lf
  clear kt kr kn kl hbV hb2
  obtain ⟨bt, ebt⟩ : ∃ b, w.heap.size = b := ⟨_, rfl⟩
  obtain ⟨rs, ers⟩ : ∃ b, w.heap.size + 1 = b := ⟨_, rfl⟩
  obtain ⟨nc, enc⟩ : ∃ b, w.heap.size + 1 + 1 = b := ⟨_, rfl⟩
  obtain ⟨lc, elc⟩ : ∃ b, w.heap.size + 1 + 1 + 1 = b := ⟨_, rfl⟩
  obtain ⟨cw, ecw⟩ : ∃ b, V.heap.size = b := ⟨_, rfl⟩
  have o1 : bt < rs := by omega
  have o2 : rs < nc := by omega
  have o3 : nc < lc := by omega
  have o4 : lc < cw := by omega
  have o5 : w.heap.size ≤ bt := by omega
  rw [elc] at kl2 ⊢
  rw [enc] at kn2 ⊢
  rw [ers] at kr2 ⊢
  rw [ebt] at kt2 t1 t2 t3
  rw [ecw] at kw z2 ⊢
  rw [show w.heap.size = bt from ebt]
  clear ers enc elc ecw z1
  gi_wp2_with fail
  obtain ⟨J, hJ⟩ : ∃ J : Nat → World → Prop, J = fun k W => TM2 W t S ∧ Blk W bt #[ptr t 0] 23 ∧ Blk W rs #[.bool false] 4 ∧ Blk W nc #[.int .i64 (k : Nat)] 3 ∧ Blk W lc #[.int .i64 (lastI T k : Nat)] 3 ∧ Blk W cw #[ptr t 0] 23 ∧ Fr t S S w W := ⟨_, rfl⟩
  have HJ : Hid (∀ k W, J k W ↔ (TM2 W t S ∧ Blk W bt #[ptr t 0] 23 ∧ Blk W rs #[.bool false] 4 ∧ Blk W nc #[.int .i64 (k : Nat)] 3 ∧ Blk W lc #[.int .i64 (lastI T k : Nat)] 3 ∧ Blk W cw #[ptr t 0] 23 ∧ Fr t S S w W)) := Lib.hid fun k W => by rw [hJ]
  clear hJ
  refine wpIn_rangeK (m := 1) (gf := 44) (lb := #[ptr cw 0]) (N := T.size) (encs := inoE T) (Kp := fun W => Blk W cw #[ptr t 0] 23 ∧ TM W t S) rfl (fun args w => by go_simp) (walk1_tells cw t S T _ hR hsz) (fun _ => rfl)
    J (fun _ _ _ => False) ?stable (fun _ _ _ _ h _ => h.elim) ?keeps ?start ?round ?done (fun _ _ _ _ _ h _ => h.elim)
  case stable =>
    intro k W W' hj hbl
    obtain ⟨j1, j2, j3, j4, j5, j6, j7⟩ := (HJ.out k W).1 hj
    refine (HJ.out k W').2 ⟨⟨j1.m.below hbl (by omega) (by omega) (.inr (by omega)), Nat.lt_of_lt_of_le j1.lf hbl.size⟩, j2.below hbl (by omega), j3.below hbl (by omega), j4.below hbl (by omega), j5.below hbl (by omega), j6.below hbl (by omega), ?_⟩
    exact ⟨⟨hbl.os.trans j7.out.os, hbl.tape.trans j7.out.tape, hbl.output.trans j7.out.output, Nat.le_trans j7.out.size hbl.size, fun b hb hc => (hbl.block b (by omega)).trans (j7.out.block b hb hc)⟩, j7.nb, j7.fb⟩
  case keeps =>
    intro k W hj
    obtain ⟨j1, j2, j3, j4, j5, j6, j7⟩ := (HJ.out k W).1 hj
    exact ⟨j6, j1.m⟩
  case start => exact (HJ.out 0 V2).2 ⟨T2, kt2, kr2, kn2, kl2, kw, F2⟩
  case round =>
    clear T2 kt2 kr2 kn2 kl2 kw F2
    rintro l2 D k W2 hk hj g1 g2 g3 g4
    obtain ⟨j1, j2, j3, j4, j5, j6, j7⟩ := (HJ.out k W2).1 hj
    unfold inoE
    have hino := hR.ino_at hk
    have hmem : T.ino.getD k 0 ∈ T.ino := by
      have hl : k < T.ino.length := by rw [Tr.ino_len]; exact hk
      rw [List.getD_eq_getElem?_getD, List.getElem?_eq_getElem hl]; exact List.getElem_mem hl
    obtain ⟨i, hi⟩ : ∃ i, T.ino.getD k 0 = i := ⟨_, rfl⟩
    rw [hi] at hino hmem ⊢
    have J1 := Lib.hid j1
    have J2 := Lib.hid (And.intro j2 (And.intro j3 (And.intro j4 (And.intro j5 (And.intro j6 j7)))))
    have HI := Lib.hid hi
    clear j1 j2 j3 j4 j5 j6 j7 hj hi
    obtain ⟨hbal1, hbal2, hbal3⟩ := HH.out.2.2.2.2.1 i hmem
    have hk0 := HH.out.2.2.1 i hino.2 0 (by decide)
    have hk1 := HH.out.2.2.1 i hino.2 1 (by decide)
    have HFS := Lib.hid (fit_same hbal1)
    have hdb : DB S := HH.out.2.2.2.1.db (by omega)
    have HDB := Lib.hid hdb
    obtain ⟨a0, ha0⟩ : ∃ a, S.d (S.k i 0) - S.d (S.k i 1) = a := ⟨_, rfl⟩
    obtain ⟨a1, ha1⟩ : ∃ a, S.d (S.k i 1) - S.d (S.k i 0) = a := ⟨_, rfl⟩
    rw [ha0] at hbal2
    rw [ha1] at hbal3
    have A0 := Lib.hid ha0
    have A1 := Lib.hid ha1
    have hge0 : ¬ 2 ≤ a0 := by omega
    have hge1 : ¬ 2 ≤ a1 := by omega
    obtain ⟨dd, hdd⟩ : ∃ d, S.d i = d := ⟨_, rfl⟩
    have HDD := Lib.hid hdd
    clear hbal1 hmem ha0 ha1 hdb hdd
    gi_wp2
    refine ⟨⟨Fix2.of (OutL.refl [] _) g3 g4 (by simp) (by simp), Above.refl _ _⟩, ?_⟩
    intro W3 hW3
    have o9 := hW3
    obtain ⟨j2, j3, j4, j5, j6, j7⟩ := J2.out
    have T3 := Lib.hid (J1.out.outs hW3 (by simp; omega) (by simp; omega) (by simp; omega))
    have K3 := Lib.hid (And.intro (j2.out hW3 (by simp; omega)) (And.intro (j3.out hW3 (by simp; omega)) (And.intro (j4.out hW3 (by simp; omega)) (And.intro (j5.out hW3 (by simp; omega)) (And.intro (j6.out hW3 (by simp; omega)) (And.intro (j7.outl hW3 (by simp; omega)) (Above.refl (V2.heap.size + 2) W3)))))))
    have sz3 := hW3.size
    have q3 : W3.cell? ⟨bt, 0, none⟩ = some (ptr t 0) := K3.out.1.cell 0
    clear j2 j3 j4 j5 j6 j7 J1 J2 hW3 o9
    gi_wp2_with fail
    refine ⟨trivial, CallsIn.inRound l2 (callsIn_wide.2 ?_)⟩
    refine (at_any t S i _ T3.out.m hino.2).mono ?_
    rintro e W4 ⟨rfl, hn⟩
    have HW3 := Lib.hid (OutL.refl [S.nb] W3)
    have T4 := Lib.hid (T3.out.of hn)
    have HW4 := Lib.hid (HW3.out.trans (.ofBelow hn))
    have q4 : W4.cell? ⟨bt, 0, none⟩ = some (ptr t 0) := (K3.out.1.out HW4.out (by simp; omega)).cell 0
    have nd := T4.out.m.nd hino.2
    rw [HDD.out] at nd
    clear hn T3 HW3 q3
    gi_wp2_with fail
    refine ⟨trivial, CallsIn.inRound l2 (callsIn_wide.2 ?_)⟩
    refine (fit_any t S i _ T4.out.m HDB.out hino.2 hk0 hk1).mono ?_
    rintro e W5 ⟨rfl, T5, o5⟩
    rw [HFS.out] at T5
    have HW5 := Lib.hid (HW4.out.trans o5)
    have T5 := Lib.hid (TM2.mk T5 (Nat.lt_of_lt_of_le T4.out.lf o5.size))
    have q5 : W5.cell? ⟨bt, 0, none⟩ = some (ptr t 0) := (K3.out.1.out HW5.out (by simp; omega)).cell 0
    clear o5 T4 HW4 q4 nd
    gi_wp2_with fail
    refine ⟨trivial, CallsIn.inRound l2 (callsIn_wide.2 ?_)⟩
    refine (at_any t S i _ T5.out.m hino.2).mono ?_
    rintro e W6 ⟨rfl, hn⟩
    have T6 := Lib.hid (T5.out.of hn)
    have HW6 := Lib.hid (HW5.out.trans (.ofBelow hn))
    have q6 : W6.cell? ⟨bt, 0, none⟩ = some (ptr t 0) := (K3.out.1.out HW6.out (by simp; omega)).cell 0
    have nd := T6.out.m.nd hino.2
    rw [HDD.out] at nd
    clear hn T5 HW5 q5
    gi_wp2_with fail
    refine ⟨trivial, CallsIn.inRound l2 (callsIn_wide.2 ?_)⟩
    refine (lean0_any t S i _ T6.out.m HDB.out hino.2 hk0 hk1).mono ?_
    rintro e W7 ⟨rfl, hn⟩
    rw [A0.out]
    have T7 := Lib.hid (T6.out.of hn)
    have HW7 := Lib.hid (HW6.out.trans (.ofBelow hn))
    have q7 : W7.cell? ⟨bt, 0, none⟩ = some (ptr t 0) := (K3.out.1.out HW7.out (by simp; omega)).cell 0
    clear hn T6 HW6 q6 nd
    gi_wp2_with fail
    refine ⟨trivial, CallsIn.inRound l2 (callsIn_wide.2 ?_)⟩
    refine (lean1_any t S i _ T7.out.m HDB.out hino.2 hk0 hk1).mono ?_
    rintro e W8 ⟨rfl, hn⟩
    rw [A1.out]
    have T8 := Lib.hid (T7.out.of hn)
    have HW8 := Lib.hid (HW7.out.trans (.ofBelow hn))
    have q8 : W8.cell? ⟨bt, 0, none⟩ = some (ptr t 0) := (K3.out.1.out HW8.out (by simp; omega)).cell 0
    clear hn T7 HW7 q7
    obtain ⟨p1, p2, p3, p4, p5, p6, p7⟩ := K3.out
    have HK8 := Lib.hid (And.intro (p1.out HW8.out (by simp; omega)) (And.intro (p2.out HW8.out (by simp; omega)) (And.intro (p3.out HW8.out (by simp; omega)) (And.intro (p4.out HW8.out (by simp; omega)) (And.intro (p5.out HW8.out (by simp; omega)) (And.intro (p6.trans (Fr.ofOut (t := t) (S := S) (S' := S) (HW8.out.mono fun k _ h => by simp at h ⊢; exact .inr h) rfl rfl)) (Above.ofOut (B := V2.heap.size + 2) HW8.out (by simp; omega))))))))
    have HFX : Hid (∀ w2, OutL [S.nb] W3 w2 → Fix2 l2 D W3 w2) := Lib.hid fun w2 h => ⟨h.block l2 (by omega) (by simp; omega), h.block D (by omega) (by simp; omega)⟩
    have HT8 := T8
    have sz8 := HW8.out.size
    clear p1 p2 p3 p4 p5 p6 p7 K3 T8 A0 A1 HFS hbal2 hbal3
    have x5 := HK8.out.2.2.2.1.cell 0
    have x6 := HK8.out.2.2.2.1.lt
    have x7 := HT8.out.m.blk.lt
    have x8 := HT8.out.m.row.lt
    have x9 := HK8.out.1.lt
    have x0 := HT8.out.m.c0
    have nvi := HT8.out.m.nv hino.2
    obtain ⟨fid, hof, hrun, hc⟩ := HH.out.1
    rw [hof] at x0
    simp only [List.getElem?_toArray, List.getElem?_cons_zero] at x5
    cases k with
    | zero =>
      rw [show lastI T 0 = 0 from rfl] at x5
      clear hc hof nvi x0
      gi_wp2_with fail
      refine wpIn_region_up W8.heap.size 19 [(true, 0), (true, 1), (true, 2), (true, 3), (true, 4), (true, 5), (true, 6), (true, 7), (true, 8), (true, 13), (true, 14), (false, 9), (true, 10), (true, 11), (true, 12), (false, 15), (true, 16), (true, 17), (true, 18)] (by kernel_rfl) (by kernel_rfl) (by kernel_rfl) (fun _ _ h => h) (fun _ _ d _ _ h => by cases d <;> exact h) ?_
      have hb : Below W8.heap.size W8 W8.drew := (Below.refl _ _).drew
      iterate 11
        first | refine wpS_takeL rfl rfl ?_ | refine wpS_takeN rfl ⟨_, rfl⟩ ?_
        go_big_quiet_step (rfl)
        refine wpQuiet_nil ?_
      refine wpS_doL rfl ?_
      intro K hK
      go_wp2_with (fail)
      try replace hb := hb.trans (hn.mono hb.size)
      refine hK.out _ _ (up_iff.2 hb) ?_
      clear hK K
      try clear hn
      iterate 3
        first | refine wpS_takeL rfl rfl ?_ | refine wpS_takeN rfl ⟨_, rfl⟩ ?_
        go_big_quiet_step (rfl)
        refine wpQuiet_nil ?_
      refine wpS_doL rfl ?_
      intro K hK
      go_wp2_with (fail)
      try replace hb := hb.trans (hn.mono hb.size)
      refine hK.out _ _ (up_iff.2 hb) ?_
      clear hK K
      try clear hn
      iterate 3
        first | refine wpS_takeL rfl rfl ?_ | refine wpS_takeN rfl ⟨_, rfl⟩ ?_
        go_big_quiet_step (rfl)
        refine wpQuiet_nil ?_
      refine wpS_nil ?_
      simp only [List.drop_succ_cons, List.drop_zero]
      refine list_world ?_
      intro w2 hw2
      rw [← hw2] at hb
      clear hw2
      go_wp2_with fail
      have T9 := HT8.out.of hb
      have K9 := HK8.out
      have n9 := K9.2.2.1.of hb
      have r9 := K9.2.1.of hb
      have l9 := K9.2.2.2.1.of hb
      have b9 := K9.1.of hb
      have c9 := K9.2.2.2.2.1.of hb
      have F9 := (K9.2.2.2.2.2.1).of hb
      have ab9 := (K9.2.2.2.2.2.2).trans (Above.ofBelow (B := V2.heap.size + 2) hb)
      have x1 := n9.cell 0
      have x2 := n9.free 0
      have x3 := l9.cell 0
      have x4 := l9.free 0
      simp only [List.getElem?_toArray, List.getElem?_cons_zero] at x1 x3
      have y1 := n9.lt
      have y2 := l9.lt
      have o6 : nc ≠ lc := by omega
      have osets : OutL [nc, lc] w2 ((w2.setCell ⟨nc, 0, none⟩ (.int .i64 (0 + 1 : Nat))).setCell ⟨lc, 0, none⟩ (.int .i64 i)) := ((OutL.refl [nc, lc] w2).set (b := nc) (by simp) 0 none _).set (b := lc) (by simp) 0 none _
      have szb := hb.size
      have GG : Hid ((Fix2 l2 D W3 ((w2.setCell ⟨nc, 0, none⟩ (.int .i64 (0 + 1 : Nat))).setCell ⟨lc, 0, none⟩ (.int .i64 i)) ∧ J (0 + 1) ((w2.setCell ⟨nc, 0, none⟩ (.int .i64 (0 + 1 : Nat))).setCell ⟨lc, 0, none⟩ (.int .i64 i))) ∧ Above (V2.heap.size + 2) W3 ((w2.setCell ⟨nc, 0, none⟩ (.int .i64 (0 + 1 : Nat))).setCell ⟨lc, 0, none⟩ (.int .i64 i))) := by
        have hl9 := ab9.trans (Above.ofOut (B := V2.heap.size + 2) osets (by simp; omega))
        have hfix := (HFX.out w2 (HW8.out.trans (.ofBelow hb)))
        refine Lib.hid ⟨⟨⟨(osets.block l2 (by omega) (by simp; omega)).trans hfix.1, (osets.block D (by omega) (by simp; omega)).trans hfix.2⟩, (HJ.out (0 + 1) _).2 ⟨T9.outs osets (by simp; omega) (by simp; omega) (by simp; omega), b9.out osets (by simp; omega), r9.out osets (by simp; omega), (n9.put 0 _).set (by omega) 0 none _, ?_, c9.out osets (by simp; omega), F9.outl osets (by simp; omega)⟩⟩, hl9⟩
        rw [show lastI T (0 + 1) = i from HI.out]
        exact (l9.set (by omega) 0 none _).put 0 _
      obtain ⟨kk, hkk⟩ : ∃ kk : Int, ((0 : Nat) : Int) = kk := ⟨_, rfl⟩
      have HKK := Lib.hid (show wrap64 (kk + 1) = ((0 + 1 : Nat) : Int) by rw [wrap64_id (by unfold In64; omega)]; omega)
      rw [hkk] at x1
      clear T9 K9 n9 r9 l9 b9 c9 F9 ab9 osets HT8 HK8 hb HFX HW8 hkk
      gi_wp2
      rw [HKK.out]
      exact GG.out
    | succ k =>
      have hcs := HH.out.2.2.2.2.2.1 k hk
      rw [HI.out] at hcs
      obtain ⟨i1, hi1⟩ : ∃ i1, T.ino.getD k 0 = i1 := ⟨_, rfl⟩
      have hin1 := hR.ino_at (k := k) (by omega)
      rw [hi1] at hcs hin1
      rw [show lastI T (k + 1) = i1 from hi1] at x5
      have nv1 := HT8.out.m.nv hin1.2
      have hne : ((i1 : Int) == 0) = false := by simp; omega
      have hne2 : ((i1 : Int) != 0) = true := by simp; omega
      have hc1 := fun w => hc (S.v i1) (S.v i) w (HH.out.2.1 i1 hin1.2) (HH.out.2.1 i hino.2)
      obtain ⟨cc, hcc⟩ : ∃ cc, c (S.v i1) (S.v i) = cc := ⟨_, rfl⟩
      rw [hcc] at hc1 hcs
      have hcc0 : ¬ 0 ≤ cc := by omega
      have HC := Lib.hid hc1
      clear hc hof hc1 hcc hcs hi1
      gi_wp2_with fail
      refine wpIn_region_up W8.heap.size 19 [(true, 0), (true, 1), (true, 2), (true, 3), (true, 4), (true, 5), (true, 6), (true, 7), (true, 8), (true, 13), (true, 14), (false, 9), (true, 10), (true, 11), (true, 12), (false, 15), (true, 16), (true, 17), (true, 18)] (by kernel_rfl) (by kernel_rfl) (by kernel_rfl) (fun _ _ h => h) (fun _ _ d _ _ h => by cases d <;> exact h) ?_
      have hb : Below W8.heap.size W8 W8.drew := (Below.refl _ _).drew
      iterate 11
        first | refine wpS_takeL rfl rfl ?_ | refine wpS_takeN rfl ⟨_, rfl⟩ ?_
        go_big_quiet_step (rfl)
        refine wpQuiet_nil ?_
      refine wpS_doL rfl ?_
      intro K hK
      go_wp2_with ((go_at_call 33; (first | (with_reducible refine (at_any t S i1 _ (HT8.out.m.of hb) hin1.2).mono ?_) | (with_reducible refine (at_any t S i _ (HT8.out.m.of hb) hino.2).mono ?_)); rintro e w2 ⟨rfl, hn⟩))
      try replace hb := hb.trans (hn.mono hb.size)
      refine hK.out _ _ (up_iff.2 hb) ?_
      clear hK K
      try clear hn
      iterate 3
        first | refine wpS_takeL rfl rfl ?_ | refine wpS_takeN rfl ⟨_, rfl⟩ ?_
        go_big_quiet_step (rfl)
        refine wpQuiet_nil ?_
      refine wpS_doL rfl ?_
      intro K hK
      go_wp2_with ((go_at_call 33; (first | (with_reducible refine (at_any t S i1 _ (HT8.out.m.of hb) hin1.2).mono ?_) | (with_reducible refine (at_any t S i _ (HT8.out.m.of hb) hino.2).mono ?_)); rintro e w2 ⟨rfl, hn⟩))
      try replace hb := hb.trans (hn.mono hb.size)
      refine hK.out _ _ (up_iff.2 hb) ?_
      clear hK K
      try clear hn
      iterate 3
        first | refine wpS_takeL rfl rfl ?_ | refine wpS_takeN rfl ⟨_, rfl⟩ ?_
        go_big_quiet_step (rfl)
        refine wpQuiet_nil ?_
      refine wpS_nil ?_
      simp only [List.drop_succ_cons, List.drop_zero]
      go_wp2_with ((with_reducible refine (HC.out _).mono ?_); rintro e w4 ⟨rfl, hn⟩)
      have hb := hb.trans (hn.mono hb.size)
      clear hn
      have T9 := HT8.out.of hb
      have K9 := HK8.out
      have n9 := K9.2.2.1.of hb
      have r9 := K9.2.1.of hb
      have l9 := K9.2.2.2.1.of hb
      have b9 := K9.1.of hb
      have c9 := K9.2.2.2.2.1.of hb
      have F9 := (K9.2.2.2.2.2.1).of hb
      have ab9 := (K9.2.2.2.2.2.2).trans (Above.ofBelow (B := V2.heap.size + 2) hb)
      have x1 := n9.cell 0
      have x2 := n9.free 0
      have x3 := l9.cell 0
      have x4 := l9.free 0
      simp only [List.getElem?_toArray, List.getElem?_cons_zero] at x1 x3
      have y1 := n9.lt
      have y2 := l9.lt
      have o6 : nc ≠ lc := by omega
      have osets : OutL [nc, lc] w4 ((w4.setCell ⟨nc, 0, none⟩ (.int .i64 ((k + 1) + 1 : Nat))).setCell ⟨lc, 0, none⟩ (.int .i64 i)) := ((OutL.refl [nc, lc] w4).set (b := nc) (by simp) 0 none _).set (b := lc) (by simp) 0 none _
      have szb := hb.size
      have GG : Hid ((Fix2 l2 D W3 ((w4.setCell ⟨nc, 0, none⟩ (.int .i64 ((k + 1) + 1 : Nat))).setCell ⟨lc, 0, none⟩ (.int .i64 i)) ∧ J ((k + 1) + 1) ((w4.setCell ⟨nc, 0, none⟩ (.int .i64 ((k + 1) + 1 : Nat))).setCell ⟨lc, 0, none⟩ (.int .i64 i))) ∧ Above (V2.heap.size + 2) W3 ((w4.setCell ⟨nc, 0, none⟩ (.int .i64 ((k + 1) + 1 : Nat))).setCell ⟨lc, 0, none⟩ (.int .i64 i))) := by
        have hl9 := ab9.trans (Above.ofOut (B := V2.heap.size + 2) osets (by simp; omega))
        have hfix := (HFX.out w4 (HW8.out.trans (.ofBelow hb)))
        refine Lib.hid ⟨⟨⟨(osets.block l2 (by omega) (by simp; omega)).trans hfix.1, (osets.block D (by omega) (by simp; omega)).trans hfix.2⟩, (HJ.out ((k + 1) + 1) _).2 ⟨T9.outs osets (by simp; omega) (by simp; omega) (by simp; omega), b9.out osets (by simp; omega), r9.out osets (by simp; omega), (n9.put 0 _).set (by omega) 0 none _, ?_, c9.out osets (by simp; omega), F9.outl osets (by simp; omega)⟩⟩, hl9⟩
        rw [show lastI T ((k + 1) + 1) = i from HI.out]
        exact (l9.set (by omega) 0 none _).put 0 _
      obtain ⟨kk, hkk⟩ : ∃ kk : Int, (((k + 1) : Nat) : Int) = kk := ⟨_, rfl⟩
      have HKK := Lib.hid (show wrap64 (kk + 1) = (((k + 1) + 1 : Nat) : Int) by rw [wrap64_id (by unfold In64; omega)]; omega)
      rw [hkk] at x1
      clear T9 K9 n9 r9 l9 b9 c9 F9 ab9 osets HT8 HK8 hb HFX HW8 hkk
      gi_wp2
      rw [HKK.out]
      exact GG.out
  case done =>
    clear T2 kt2 kr2 kn2 kl2 kw F2
    intro D W g1 hj hD
    obtain ⟨j1, j2, j3, j4, j5, j6, j7⟩ := (HJ.out T.size W).1 hj
    have x1 := j4.cell 0
    have x2 := j2.cell 0
    have x3 := j1.m.c4
    have x4 := j3.cell 0
    have x5 := j3.free 0
    rw [HH.out.2.2.2.2.2.2] at x3
    simp only [List.getElem?_toArray, List.getElem?_cons_zero] at x1 x2 x4
    have y1 := j4.lt
    have y2 := j3.lt
    have y3 := j2.lt
    have y4 := j1.m.blk.lt
    have HT5 := Lib.hid j1
    have HK5 := Lib.hid (And.intro j3 j7)
    obtain ⟨kk, hkk⟩ : ∃ kk : Int, ((T.size : Nat) : Int) = kk := ⟨_, rfl⟩
    rw [hkk] at x1 x3
    clear j1 j2 j3 j4 j5 j6 j7 hj hkk
    gi_wp2_with fail
    gi_region
    gi_wp2
    have hK : ((W.setCell ⟨rs, 0, none⟩ (.bool true)).drew).heap[D]? = some (.deferred (some [])) := (Below.heap_setCell _ _ _ _ (show D ≠ rs by omega)).trans hD
    refine ⟨by simp, .inl ⟨_, _, rfl, run_takeDeferred hK, ?_⟩⟩
    have o7 : OutL [rs, D] W ((W.setCell ⟨rs, 0, none⟩ (.bool true)).drew.putObj D (.deferred none)) := ((((OutL.refl [rs, D] W).set (b := rs) (by simp) 0 none _).drew).trans ((putObj_out _ D _).mono fun k _ h => by simp at h ⊢; exact .inr h))
    have h5 : Blk ((W.setCell ⟨rs, 0, none⟩ (.bool true)).drew.putObj D (.deferred none)) rs #[.bool true] 4 := (((HK5.out.1.put 0 (.bool true)).of (Below.refl _ _).drew)).out (putObj_out _ D _) (by simp; omega)
    have h6 := h5.cell 0
    simp only [List.getElem?_toArray, List.getElem?_cons_zero] at h6
    have T9 := HT5.out.outs o7 (by simp; omega) (by simp; omega) (by simp; omega)
    have F9 := HK5.out.2.outl o7 (by simp; omega)
    refine ⟨.bool true, ?_, rfl, T9, F9⟩
    simp [results, Try.results19, go_sem, h6]
end Go.Proofs.Ytabdjplpagcniaa

namespace Go.Proofs.Ytabdjplpagcniaa
open Go.RowKit

def ten (n : Int) : Int := n / 10
def cten (x y : Int) : Int := if ten x < ten y then -1 else if ten y < ten x then 1 else 0
theorem Tens_is (n : Int) (h : In64 n) (w : World) :
    Calls Try.prog 28 #[.int .i64 n] w fun e w' => e = .returned (.int .i64 (ten n)) ∧ Below w.heap.size w w' := by
  unfold In64 at h
  by_cases h0 : n < 0
  · have e : Hid (wrap64 (-wrap64 (wrap64 (-(n + 1).tdiv 10) + 1)) = ten n) := by
      have e3 : -(n + 1).tdiv 10 = (-(n + 1)) / 10 := by rw [← Int.neg_tdiv, Int.tdiv_eq_ediv_of_nonneg (by omega)]
      have w3 : wrap64 ((-(n + 1)) / 10) = (-(n + 1)) / 10 := wrap64_id (by unfold In64; omega)
      have w4 : wrap64 ((-(n + 1)) / 10 + 1) = (-(n + 1)) / 10 + 1 := wrap64_id (by unfold In64; omega)
      have w5 : wrap64 (-((-(n + 1)) / 10 + 1)) = -((-(n + 1)) / 10 + 1) := wrap64_id (by unfold In64; omega)
      refine Lib.hid ?_
      rw [e3, w3, w4, w5]; unfold ten; omega
    go_enter Try.func28, Try.ntmps28
    go_wp2
    go_ret
    exact ⟨by rw [← e.out]; rfl, Below.refl _ _⟩
  · go_enter Try.func28, Try.ntmps28
    go_wp2
    go_ret
    exact ⟨rfl, Below.refl _ _⟩
theorem tens_is (x y : Int) (hx : In64 x) (hy : In64 y) (w : World) :
    Calls Try.prog 9 #[.int .i64 x, .int .i64 y] w fun e w' => e = .returned (.int .i64 (cten x y)) ∧ Below w.heap.size w w' := by
  obtain ⟨a, ha⟩ : ∃ a, ten x = a := ⟨_, rfl⟩
  obtain ⟨b, hb⟩ : ∃ b, ten y = b := ⟨_, rfl⟩
  have h1 := fun w => Tens_is x hx w
  have h2 := fun w => Tens_is y hy w
  unfold cten
  rw [ha] at h1 ⊢
  rw [hb] at h2 ⊢
  have H1 := Lib.hid h1
  have H2 := Lib.hid h2
  clear h1 h2 ha hb
  by_cases c1 : a < b
  · rw [if_pos c1]
    go_enter Try.func9, Try.ntmps9
    go_wp2_with fail
    refine (H1.out _).mono ?_
    rintro e w1 ⟨rfl, hn1⟩
    go_wp2_with fail
    refine (H2.out _).mono ?_
    rintro e w2 ⟨rfl, hn2⟩
    go_wp2
    go_ret
    exact ⟨rfl, hn1.trans (hn2.mono hn1.size)⟩
  · by_cases c2 : b < a
    · rw [if_neg c1, if_pos c2]
      go_enter Try.func9, Try.ntmps9
      go_wp2_with fail
      refine (H1.out _).mono ?_
      rintro e w1 ⟨rfl, hn1⟩
      go_wp2_with fail
      refine (H2.out _).mono ?_
      rintro e w2 ⟨rfl, hn2⟩
      go_wp2
      go_ret
      exact ⟨rfl, hn1.trans (hn2.mono hn1.size)⟩
    · rw [if_neg c1, if_neg c2]
      go_enter Try.func9, Try.ntmps9
      go_wp2_with fail
      refine (H1.out _).mono ?_
      rintro e w1 ⟨rfl, hn1⟩
      go_wp2_with fail
      refine (H2.out _).mono ?_
      rintro e w2 ⟨rfl, hn2⟩
      go_wp2
      go_ret
      exact ⟨rfl, hn1.trans (hn2.mono hn1.size)⟩
theorem tens_ord : OrdOk (.func (.func 9) #[] #[]) cten := ⟨_, rfl, run_tens, fun a b w ha hb => tens_is a b ha hb w⟩
theorem ordk_ten : OrdK cten ten := fun x y => by unfold cten; split <;> (try split) <;> omega
/-- a slice of ints that is owned -/
def IL (w : World) (base : Nat) (v : Value) (L : List Int) : Prop := w.ownsRow base 3 1 v L.length (L.map fun x => .int .i64 x)
theorem IL.nil (w : World) (base : Nat) : IL w base (.slice none 0 0) [] := ⟨rfl, .inl ⟨rfl, rfl⟩⟩
theorem IL.of {w w' : World} {base : Nat} {v : Value} {L : List Int} (h : IL w base v L) (hb : Below w.heap.size w w') : IL w' base v L := own_below h hb
theorem IL.mono {w : World} {base base' : Nat} {v : Value} {L : List Int} (h : IL w base v L) (hb : base' ≤ base) : IL w base' v L := by
  refine ⟨h.1, h.2.imp id ?_⟩
  rintro ⟨g, cap, cur, rfl, hbg, r⟩
  exact ⟨g, cap, cur, rfl, by omega, r⟩
/-- where one is that is the same -/
def fnd (x : Int) : List Int → Int
  | [] => -1
  | y :: r => if ten y = ten x then 0 else if fnd x r < 0 then -1 else fnd x r + 1
end Go.Proofs.Ytabdjplpagcniaa

namespace Go.Proofs.Ytabdjplpagcniaa
open Go.RowKit

def insR (x : Int) : List Int → List Int
  | [] => [x]
  | y :: r => if ten x < ten y then x :: y :: r else y :: insR x r
end Go.Proofs.Ytabdjplpagcniaa

namespace Go.Proofs.Ytabdjplpagcniaa
open Go.RowKit

/-- what Put makes of a set, as its list says -/
theorem Put_ok (t : Nat) {key : Int → Int} {c : Int → Int → Int} {S : TS} {T : Tr} {q : Nat} (hc : OrdK c key) (h : Inv key S T q) (x : Int) (hx : In64 x) (hn : T.found (fun i => c x (S.v i)) = 0) (hq : q ≤ 400) (w : World) (hw : TM2 w t S) (ho : OrdOk S.ord c) :
    Calls Try.prog 17 #[ptr t 0, .int .i64 x] w fun e w' => e = .returned (.bool true) ∧ ∃ S', (∃ T' P Q, Inv key S' T' (q + 1) ∧ T.no = P ++ Q ∧ (∀ n ∈ P, key (S.v n) < key x) ∧ (∀ n ∈ Q, key x < key (S.v n)) ∧ vals S' T' = P.map S.v ++ x :: Q.map S.v) ∧ S'.ord = S.ord ∧ TM2 w' t S' ∧ Fr t S S' w w' := by
  have hsz := h.sz
  have hln := h.len
  have hfl := h.fl
  have hnn := h.n
  refine (Put_new t S c x T _ rfl hn _ rfl (2000 * q + 1) w hw ho hx h.ok.rep h.v64 (by omega) h.l0 (by omega) (fun j hj => (h.fr j hj).1) h.kb h.dl (by omega) (by omega) (by omega)).mono ?_
  rintro e w' ⟨rfl, g, cap, S', hS', g1, g2⟩
  obtain ⟨T', P, Q, i1, i2, i3, i4, i5⟩ := put_inv hc h x hx hn g cap hq
  rw [← hS'] at i1 i5
  refine ⟨rfl, S', ⟨T', P, Q, i1, i2, i3, i4, i5⟩, ?_, g1, g2⟩
  rw [hS']
  show ((S.fresh x g cap).hang _ _).ord = _
  rw [(hang_sm (S.fresh x g cap) _ _).2.2.2.2.2.2.1, (fresh_sm S x g cap).2.2.2.1]
theorem fnd_split (x : Int) : ∀ (A B : List Int) (y : Int), (∀ z ∈ A, ten z ≠ ten x) → ten y = ten x → fnd x (A ++ y :: B) = A.length
  | [], B, y, _, hy => by show (if ten y = ten x then (0 : Int) else _) = _; rw [if_pos hy]; rfl
  | z :: A, B, y, hA, hy => by
    have := fnd_split x A B y (fun u hu => hA u (List.mem_cons_of_mem _ hu)) hy
    show (if ten z = ten x then (0 : Int) else if fnd x (A ++ y :: B) < 0 then -1 else fnd x (A ++ y :: B) + 1) = _
    rw [if_neg (hA z (by simp)), this, if_neg (by omega), List.length_cons]; omega
theorem fnd_none (x : Int) : ∀ (A : List Int), (∀ z ∈ A, ten z ≠ ten x) → fnd x A = -1
  | [], _ => rfl
  | z :: A, hA => by
    have := fnd_none x A (fun u hu => hA u (List.mem_cons_of_mem _ hu))
    show (if ten z = ten x then (0 : Int) else if fnd x A < 0 then -1 else fnd x A + 1) = _
    rw [if_neg (hA z (by simp)), this, if_pos (by decide)]
theorem insR_split (x : Int) : ∀ (A B : List Int), (∀ z ∈ A, ¬ ten x < ten z) → (∀ z ∈ B, ten x < ten z) → insR x (A ++ B) = A ++ x :: B
  | [], [], _, _ => rfl
  | [], y :: B, _, hB => by show insR x (y :: B) = x :: y :: B; unfold insR; rw [if_pos (hB y (by simp))]
  | z :: A, B, hA, hB => by
    show insR x (z :: (A ++ B)) = z :: (A ++ x :: B)
    rw [insR, if_neg (hA z (by simp)), insR_split x A B (fun u hu => hA u (List.mem_cons_of_mem _ hu)) hB]
/-- where the set and the list stand -/
structure St (B : Nat) (w : World) (t : Nat) (S : TS) (T : Tr) (q : Nat) (v : Value) (L : List Int) : Prop where
  m : TM2 w t S
  inv : Inv ten S T q
  ord : S.ord = .func (.func 9) #[] #[]
  il : IL w B v L
  lv : vals S T = L
  dis : ∀ k, v.ownBlock = some k → k ≠ t ∧ k ≠ S.nb ∧ k ≠ S.fb
  bt : B ≤ t
  bn : B ≤ S.nb
  bf : B ≤ S.fb
section
variable {B : Nat} {w : World} {t : Nat} {S : TS} {T : Tr} {q : Nat} {v : Value} {L : List Int}
theorem St.ok (h : St B w t S T q v L) : OrdOk S.ord cten := by rw [h.ord]; exact tens_ord
theorem St.of {w' : World} (h : St B w t S T q v L) (hb : Below w.heap.size w w') : St B w' t S T q v L := ⟨h.m.of hb, h.inv, h.ord, h.il.of hb, h.lv, h.dis, h.bt, h.bn, h.bf⟩
theorem St.len (h : St B w t S T q v L) : L.length = T.size := by rw [← h.lv]; unfold vals; rw [List.length_map, Tr.no_len]
/-- the list finds what the set finds -/
theorem St.fnd (h : St B w t S T q v L) (x : Int) : (T.found (fun i => cten x (S.v i)) = 0 ∧ Proofs.Ytabdjplpagcniaa.fnd x L = -1) ∨ (T.found (fun i => cten x (S.v i)) ≠ 0 ∧ 0 ≤ Proofs.Ytabdjplpagcniaa.fnd x L) := by
  have hpos := fun n hn => (h.inv.ok.pos n hn).1
  by_cases h0 : T.found (fun i => cten x (S.v i)) = 0
  · left
    refine ⟨h0, fnd_none x L fun z hz => ?_⟩
    rw [← h.lv] at hz
    obtain ⟨n, hn, rfl⟩ := List.mem_map.1 hz
    have hnil := (zip_found (fun i => cten x (S.v i)) T [] hpos).1 h0
    have hp := zip_plug (fun i => cten x (S.v i)) T []
    have hs := zip_sides ordk_ten x T [] h.inv.srt (fun n hn => by cases hn) (fun n hn => by cases hn)
    rw [hnil] at hp
    have hn' : n ∈ (plug (zipOf (fun i => cten x (S.v i)) T []).1 .nil).no := by rw [hp]; exact hn
    rw [plug_split] at hn'
    rcases List.mem_append.1 hn' with hm | hm
    · rcases List.mem_append.1 hm with hm | hm
      · have := (ordk_ten x (S.v n)).2.1 (hs.1 n hm); omega
      · cases hm
    · have := (ordk_ten x (S.v n)).1.1 (hs.2 n hm); omega
  · right
    refine ⟨h0, ?_⟩
    obtain ⟨z, l, r, z1, z2, z3, z4, z5, z6, z7⟩ := found_split ordk_ten h.inv x _ rfl h0
    have hno : T.no = (pre z ++ l.no) ++ (T.found fun i => cten x (S.v i)) :: (r.no ++ post z) := by
      have : (plug z (.nd (T.found fun i => cten x (S.v i)) l r)).no = T.no := by rw [z2]
      rw [← this, plug_split, nd_no]; simp
    have hL : L = (pre z ++ l.no).map S.v ++ S.v (T.found fun i => cten x (S.v i)) :: (r.no ++ post z).map S.v := by
      rw [← h.lv]; unfold vals; rw [hno, List.map_append, List.map_cons]
    rw [hL, fnd_split x _ _ _ (fun u hu => by obtain ⟨m, hm, rfl⟩ := List.mem_map.1 hu; have := z6 m hm; omega) z5]
    omega
/-- a step of the set: the list follows -/
theorem St.next {w' : World} {S' : TS} {T' : Tr} {v' : Value} {L' : List Int} (h : St B w t S T q v L) (hm : TM2 w' t S') (hf : Fr t S S' w w') (hi : Inv ten S' T' (q + 1)) (ho : S'.ord = S.ord) (hil : IL w' B v' L') (hlv : vals S' T' = L') (hd : ∀ k, v'.ownBlock = some k → k ≠ t ∧ k ≠ S'.nb ∧ k ≠ S'.fb) : St B w' t S' T' (q + 1) v' L' := by
  have hs := h.m.m.blk.lt
  have h1 := hf.nb
  have h2 := hf.fb
  have h3 := h.bt
  have h4 := h.bn
  have h5 := h.bf
  exact ⟨hm, hi, ho.trans h.ord, hil, hlv, hd, h.bt, by omega, by omega⟩
theorem St.more (h : St B w t S T q v L) : St B w t S T (q + 1) v L := ⟨h.m, h.inv.more, h.ord, h.il, h.lv, h.dis, h.bt, h.bn, h.bf⟩
theorem St.below {w' : World} {S' : TS} (h : St B w t S T q v L) (hf : Fr t S S' w w') : Below B w w' :=
  ⟨hf.out.os, hf.out.tape, hf.out.output, hf.out.size, fun k hk => hf.out.block k (by have := h.m.m.blk.lt; have := h.bt; omega) (by have := h.bt; have := h.bn; have := h.bf; simp; omega)⟩
/-- a slice that is none of the set's stays -/
theorem IL.fr {w w' : World} {t : Nat} {S S' : TS} {base : Nat} {v : Value} {L : List Int} (h : IL w base v L) (hf : Fr t S S' w w') (hd : ∀ k, v.ownBlock = some k → k ≠ t ∧ k ≠ S.nb ∧ k ≠ S.fb) : IL w' base v L ∧ ∀ k, v.ownBlock = some k → k ≠ t ∧ k ≠ S'.nb ∧ k ≠ S'.fb := by
  refine ⟨⟨h.1, h.2.imp id ?_⟩, fun k hk => ?_⟩
  · rintro ⟨g, cap, cur, rfl, hbg, hg, r⟩
    have := hd g rfl
    exact ⟨g, cap, cur, rfl, hbg, (hf.keep (Array.getElem?_eq_some_iff.1 hg).1 this.1 this.2.1 this.2.2).1.trans hg, r⟩
  · have h1 := (wayown h k hk).1
    have h2 := hd k hk
    have h3 := hf.keep h1 h2.1 h2.2.1 h2.2.2
    exact ⟨h2.1, h3.2.1, h3.2.2⟩
end
end Go.Proofs.Ytabdjplpagcniaa

namespace Go.Proofs.Ytabdjplpagcniaa
open Go.RowKit

theorem no_ino : ∀ T : Tr, T.no = T.ino
  | .nil => rfl
  | .nd i l r => by show l.no ++ i :: r.no = l.ino ++ i :: r.ino; rw [no_ino l, no_ino r]
theorem bal_of {S : TS} (h0 : S.d 0 = 0) : ∀ {j : Nat} {T : Tr}, Ok S j T → Avl T → ∀ i ∈ T.no, Bal S i
  | _, .nil, _, _, i, hi => by cases hi
  | _, .nd n l r, h, ha, i, hi => by
    have hi : i ∈ l.no ++ n :: r.no := hi
    rcases List.mem_append.1 hi with h1 | h1
    · exact bal_of h0 h.2.2.2.2.1 ha.2.2.1 i h1
    · rcases List.mem_cons.1 h1 with rfl | h1
      · have e1 := Ok.d h0 h.2.2.2.2.1
        have e2 := Ok.d h0 h.2.2.2.2.2
        have e3 : S.d i = ((max l.ht r.ht + 1 : Nat) : Int) := h.2.2.2.1
        have a1 := ha.1
        have a2 := ha.2.1
        unfold Bal
        rw [e1, e2, e3]
        refine ⟨by push_cast; omega, by omega, by omega⟩
      · exact bal_of h0 h.2.2.2.2.2 ha.2.2.2 i h1
section
variable {key : Int → Int} {c : Int → Int → Int} {S : TS} {T : Tr} {q : Nat}
theorem Inv.bal (h : Inv key S T q) : ∀ i ∈ T.ino, Bal S i := by rw [← no_ino]; exact bal_of h.d0 h.ok h.avl
theorem Inv.rises (hc : OrdK c key) (h : Inv key S T q) : ∀ k, k + 1 < T.size → c (S.v (T.ino.getD k 0)) (S.v (T.ino.getD (k + 1) 0)) < 0 := by
  intro k hk
  have hl : T.no.length = T.size := Tr.no_len T
  rw [← no_ino, (hc _ _).1]
  have := List.pairwise_iff_getElem.1 h.srt k (k + 1) (by omega) (by omega) (by omega)
  rwa [List.getD_eq_getElem?_getD, List.getD_eq_getElem?_getD, List.getElem?_eq_getElem (by omega), List.getElem?_eq_getElem (by omega)]
theorem Inv.check (hc : OrdK c key) (h : Inv key S T q) (hq : q ≤ 400) (t : Nat) (w : World) (hw : TM2 w t S) (ho : OrdOk S.ord c) :
    Calls Try.prog 19 #[ptr t 0] w fun e w' => e = .returned (.bool true) ∧ TM2 w' t S ∧ Fr t S S w w' :=
  Check_is t S c T _ w hw ho h.v64 h.ok.rep (by have := h.sz; omega) h.kb h.dl (by omega) h.bal (h.rises hc) h.n
theorem near1_find (f : Nat → Int) : ∀ (T : Tr) (b : Nat), (∀ P i Q, T.no = P ++ i :: Q → 0 ≤ f i → ∀ n ∈ P, 0 ≤ f n) → T.near1 f b = (T.no.find? fun i => decide (f i < 0)).getD b
  | .nil, b, _ => rfl
  | .nd n l r, b, h => by
    have hl : ∀ P i Q, l.no = P ++ i :: Q → 0 ≤ f i → ∀ n ∈ P, 0 ≤ f n := fun P i Q e => h P i (Q ++ n :: r.no) (by rw [nd_no, e]; simp)
    have hr : ∀ P i Q, r.no = P ++ i :: Q → 0 ≤ f i → ∀ n ∈ P, 0 ≤ f n := fun P i Q e h0 m hm => h (l.no ++ n :: P) i Q (by rw [nd_no, e]; simp) h0 m (by simp [hm])
    show (if f n < 0 then l.near1 f n else r.near1 f b) = ((l.no ++ n :: r.no).find? _).getD b
    rw [List.find?_append]
    by_cases hn : f n < 0
    · rw [if_pos hn, near1_find f l n hl, List.find?_cons_of_pos (by simpa using hn)]
      cases l.no.find? (fun i => decide (f i < 0)) <;> rfl
    · rw [if_neg hn, near1_find f r b hr, List.find?_cons_of_neg (by simpa using hn)]
      have hnone : l.no.find? (fun i => decide (f i < 0)) = none := by
        rw [List.find?_eq_none]; intro m hm
        have := h l.no n r.no (nd_no n l r) (by omega) m hm
        simp; omega
      rw [hnone]; rfl
/-- before and behind a node -/
theorem Inv.cut (h : Inv key S T q) {P Q : List Nat} {i : Nat} (e : T.no = P ++ i :: Q) : (∀ n ∈ P, key (S.v n) < key (S.v i)) ∧ ∀ n ∈ Q, key (S.v i) < key (S.v n) := by
  have := h.srt
  rw [e] at this
  unfold Srt at this
  rw [List.pairwise_append, List.pairwise_cons] at this
  exact ⟨fun n hn => this.2.2 n hn i (by simp), fun n hn => this.2.1.1 n hn⟩
theorem Inv.near1 (hc : OrdK c key) (h : Inv key S T q) (x : Int) : T.near1 (fun i => c x (S.v i)) 0 = (T.no.find? fun i => decide (key x < key (S.v i))).getD 0 := by
  rw [near1_find]
  · congr 1; congr 1; funext i; exact decide_eq_decide.2 (hc x (S.v i)).1
  · intro P i Q e h0 n hn
    have a1 := (h.cut e).1 n hn
    have a2 := hc x (S.v i)
    have a3 := hc x (S.v n)
    have : ¬ key x < key (S.v n) := by
      intro hh; have := a2.1.2 (by omega); omega
    by_cases hh : c x (S.v n) < 0
    · exact absurd (a3.1.1 hh) this
    · omega
/-- the value found, in the list of values -/
theorem find_val (h : Inv key S T q) (l : List Nat) (hl : ∀ n ∈ l, n ∈ T.no) (p : Int → Bool) :
    S.v ((l.find? fun i => p (S.v i)).getD 0) = ((l.map S.v).find? p).getD 0 ∧ (decide ((l.find? fun i => p (S.v i)).getD 0 ≠ 0) = ((l.map S.v).find? p).isSome) := by
  rw [List.find?_map]
  have e : (p ∘ S.v) = fun i => p (S.v i) := rfl
  rw [e]
  cases hf : l.find? (fun i => p (S.v i)) with
  | none => exact ⟨h.v0, rfl⟩
  | some n =>
    have hn := hl n (List.mem_of_find?_eq_some hf)
    have := (h.ok.pos n hn).1
    exact ⟨rfl, by simp; omega⟩
theorem Inv.next (hc : OrdK c key) (h : Inv key S T q) (x : Int) : S.v (T.near1 (fun i => c x (S.v i)) 0) = ((vals S T).find? fun y => decide (key x < key y)).getD 0 ∧ decide (T.near1 (fun i => c x (S.v i)) 0 ≠ 0) = ((vals S T).find? fun y => decide (key x < key y)).isSome := by
  rw [h.near1 hc]; exact find_val h T.no (fun _ hn => hn) (fun y => decide (key x < key y))
theorem end0_no : ∀ T : Tr, ((T.down0).getD ((T.down0).length - 1) (0, 0)).1 = T.no.headD 0
  | .nil => rfl
  | .nd n .nil r => rfl
  | .nd n (.nd m a b) r => by
    have ih := end0_no (.nd m a b)
    have e1 : (Tr.nd n (.nd m a b) r).down0 = (n, 0) :: (Tr.nd m a b).down0 := rfl
    have e2 : (Tr.nd m a b).down0 = (m, 0) :: a.down0 := rfl
    rw [e1, List.length_cons, Nat.add_sub_cancel]
    have e3 : (Tr.nd m a b).down0.length = a.down0.length + 1 := by rw [e2]; rfl
    rw [e3, Nat.add_sub_cancel] at ih
    rw [e3, List.getD_cons_succ, ih, nd_no, nd_no, nd_no]
    cases a.no <;> rfl
theorem head_val (h : Inv key S T q) (l : List Nat) (hl : ∀ n ∈ l, n ∈ T.no) : S.v (l.headD 0) = (l.map S.v).headD 0 ∧ decide (l.headD 0 ≠ 0) = !(l.map S.v).isEmpty := by
  cases l with
  | nil => exact ⟨h.v0, rfl⟩
  | cons n l =>
    have := (h.ok.pos n (hl n (by simp))).1
    exact ⟨rfl, by simp; omega⟩
theorem Inv.root (h : Inv key S T q) : S.root < S.len := by
  rcases h.ok.root with e | e
  · rw [e]; exact h.l0
  · exact (h.ok.pos _ e).2
end
/-- as many as a tree of a depth has at least -/
def least : Nat → Nat
  | 0 => 0
  | 1 => 1
  | n + 2 => least (n + 1) + least n + 1
theorem least_mono : ∀ n, least n ≤ least (n + 1)
  | 0 => by decide
  | n + 1 => by show least (n + 1) ≤ least (n + 1) + least n + 1; omega
theorem least_size : ∀ T : Tr, Avl T → least T.ht ≤ T.size
  | .nil, _ => Nat.le_refl _
  | .nd i l r, h => by
    have h1 := least_size l h.2.2.1
    have h2 := least_size r h.2.2.2
    have a1 := h.1
    have a2 := h.2.1
    show least (max l.ht r.ht + 1) ≤ l.size + r.size + 1
    have hm : ∀ a b : Nat, a ≤ b → b ≤ a + 1 → least (b + 1) ≤ least a + least b + 1 := by
      intro a b h3 h4
      cases b with
      | zero => show 1 ≤ _; omega
      | succ b =>
        show least (b + 1) + least b + 1 ≤ _
        rcases Nat.lt_or_ge a (b + 1) with h5 | h5
        · have : a = b := by omega
          rw [this]; omega
        · have : a = b + 1 := by omega
          have := least_mono b
          rw [‹a = b + 1›]; omega
    rcases Nat.le_total l.ht r.ht with h3 | h3
    · rw [Nat.max_eq_right h3]; have := hm _ _ h3 a2; omega
    · rw [Nat.max_eq_left h3]; have := hm _ _ h3 a1; omega
theorem size_ht : ∀ T : Tr, T.size < 2 ^ T.ht
  | .nil => by decide
  | .nd i l r => by
    have h1 := size_ht l
    have h2 := size_ht r
    show l.size + r.size + 1 < 2 ^ (max l.ht r.ht + 1)
    have h3 : 2 ^ l.ht ≤ 2 ^ max l.ht r.ht := Nat.pow_le_pow_right (by decide) (by omega)
    have h4 : 2 ^ r.ht ≤ 2 ^ max l.ht r.ht := Nat.pow_le_pow_right (by decide) (by omega)
    rw [Nat.pow_succ]; omega
end Go.Proofs.Ytabdjplpagcniaa

namespace Go.Proofs.Ytabdjplpagcniaa
open Go.RowKit

/-- where a set of tens stands -/
structure Ss (B : Nat) (w : World) (t : Nat) (S : TS) (T : Tr) (q : Nat) (L : List Int) : Prop where
  m : TM2 w t S
  inv : Inv ten S T q
  ord : S.ord = .func (.func 9) #[] #[]
  lv : vals S T = L
  bt : B ≤ t
  bn : B ≤ S.nb
  bf : B ≤ S.fb
section
variable {B : Nat} {w : World} {t : Nat} {S : TS} {T : Tr} {q : Nat} {v : Value} {L : List Int}
theorem Ss.ok (h : Ss B w t S T q L) : OrdOk S.ord cten := by rw [h.ord]; exact tens_ord
theorem Ss.of {w' : World} (h : Ss B w t S T q L) (hb : Below w.heap.size w w') : Ss B w' t S T q L := ⟨h.m.of hb, h.inv, h.ord, h.lv, h.bt, h.bn, h.bf⟩
theorem Ss.len (h : Ss B w t S T q L) : T.size = L.length := by rw [← h.lv]; unfold vals; rw [List.length_map, Tr.no_len]
theorem Ss.more (h : Ss B w t S T q L) : Ss B w t S T (q + 1) L := ⟨h.m, h.inv.more, h.ord, h.lv, h.bt, h.bn, h.bf⟩
theorem Ss.below {w' : World} {S' : TS} (h : Ss B w t S T q L) (hf : Fr t S S' w w') : Below B w w' :=
  ⟨hf.out.os, hf.out.tape, hf.out.output, hf.out.size, fun k hk => hf.out.block k (by have := h.m.m.blk.lt; have := h.bt; omega) (by have := h.bt; have := h.bn; have := h.bf; simp; omega)⟩
theorem Ss.fnd (h : Ss B w t S T q L) (x : Int) : (T.found (fun i => cten x (S.v i)) = 0 ∧ Proofs.Ytabdjplpagcniaa.fnd x L = -1) ∨ (T.found (fun i => cten x (S.v i)) ≠ 0 ∧ 0 ≤ Proofs.Ytabdjplpagcniaa.fnd x L) := by
  have hpos := fun n hn => (h.inv.ok.pos n hn).1
  by_cases h0 : T.found (fun i => cten x (S.v i)) = 0
  · left
    refine ⟨h0, fnd_none x L fun z hz => ?_⟩
    rw [← h.lv] at hz
    obtain ⟨n, hn, rfl⟩ := List.mem_map.1 hz
    have hnil := (zip_found (fun i => cten x (S.v i)) T [] hpos).1 h0
    have hp := zip_plug (fun i => cten x (S.v i)) T []
    have hs := zip_sides ordk_ten x T [] h.inv.srt (fun n hn => by cases hn) (fun n hn => by cases hn)
    rw [hnil] at hp
    have hn' : n ∈ (plug (zipOf (fun i => cten x (S.v i)) T []).1 .nil).no := by rw [hp]; exact hn
    rw [plug_split] at hn'
    rcases List.mem_append.1 hn' with hm | hm
    · rcases List.mem_append.1 hm with hm | hm
      · have := (ordk_ten x (S.v n)).2.1 (hs.1 n hm); omega
      · cases hm
    · have := (ordk_ten x (S.v n)).1.1 (hs.2 n hm); omega
  · right
    refine ⟨h0, ?_⟩
    obtain ⟨z, l, r, z1, z2, z3, z4, z5, z6, z7⟩ := found_split ordk_ten h.inv x _ rfl h0
    have hno : T.no = (pre z ++ l.no) ++ (T.found fun i => cten x (S.v i)) :: (r.no ++ post z) := by
      have : (plug z (.nd (T.found fun i => cten x (S.v i)) l r)).no = T.no := by rw [z2]
      rw [← this, plug_split, nd_no]; simp
    have hL : L = (pre z ++ l.no).map S.v ++ S.v (T.found fun i => cten x (S.v i)) :: (r.no ++ post z).map S.v := by
      rw [← h.lv]; unfold vals; rw [hno, List.map_append, List.map_cons]
    rw [hL, fnd_split x _ _ _ (fun u hu => by obtain ⟨m, hm, rfl⟩ := List.mem_map.1 hu; have := z6 m hm; omega) z5]
    omega
theorem Ss.put_new (h : Ss B w t S T q L) (x : Int) (hx : In64 x) (hq : q ≤ 400) (hf : Proofs.Ytabdjplpagcniaa.fnd x L = -1) :
    Calls Try.prog 17 #[ptr t 0, .int .i64 x] w fun e w' => e = .returned (.bool true) ∧ (∃ S' T', Ss B w' t S' T' (q + 1) (insR x L)) ∧ Below B w w' := by
  have h0 : T.found (fun i => cten x (S.v i)) = 0 := by rcases h.fnd x with a | a; exact a.1; omega
  refine (Put_ok t ordk_ten h.inv x hx h0 hq w h.m h.ok).mono ?_
  rintro e w' ⟨rfl, S', ⟨T', P, Q, i1, i2, i3, i4, i5⟩, i6, i7, i8⟩
  have hs := h.m.m.blk.lt
  have h1 := i8.nb
  have h2 := i8.fb
  have h3 := h.bt
  have h4 := h.bn
  have h5 := h.bf
  refine ⟨rfl, ⟨S', T', i7, i1, i6.trans h.ord, ?_, h.bt, by omega, by omega⟩, h.below i8⟩
  have hL : L = P.map S.v ++ Q.map S.v := by rw [← h.lv]; unfold vals; rw [i2, List.map_append]
  rw [i5, hL, insR_split]
  · intro z hz; obtain ⟨m, hm, rfl⟩ := List.mem_map.1 hz; have := i3 m hm; omega
  · intro z hz; obtain ⟨m, hm, rfl⟩ := List.mem_map.1 hz; have := i4 m hm; omega
theorem Ss.put_old (h : Ss B w t S T q L) (x : Int) (hx : In64 x) (hq : q ≤ 400) (hf : 0 ≤ Proofs.Ytabdjplpagcniaa.fnd x L) :
    Calls Try.prog 17 #[ptr t 0, .int .i64 x] w fun e w' => e = .returned (.bool false) ∧ Below w.heap.size w w' := by
  have h0 : T.found (fun i => cten x (S.v i)) ≠ 0 := by rcases h.fnd x with a | a; omega; exact a.1
  exact Put_old t S cten x T _ rfl h0 w h.m.m h.ok hx h.inv.ok.rep h.inv.v64 (by have := h.inv.sz; omega)
theorem Ss.next (h : Ss B w t S T q L) (x : Int) (hx : In64 x) :
    Calls Try.prog 22 #[ptr t 0, .int .i64 x] w fun e w' => e = .returned (.tuple #[.int .i64 ((L.find? fun y => decide (ten x < ten y)).getD 0), .bool (L.find? fun y => decide (ten x < ten y)).isSome]) ∧ Below w.heap.size w w' := by
  have e := h.inv.next ordk_ten x
  rw [h.lv] at e
  have := Next_is t S cten x T _ rfl _ rfl _ e.2 w h.m.m h.ok hx h.inv.l0 h.inv.ok.rep h.inv.v64
  rwa [e.1] at this
theorem Ss.first (h : Ss B w t S T q L) (hq : q ≤ 400) :
    Calls Try.prog 24 #[ptr t 0] w fun e w' => e = .returned (.tuple #[.int .i64 (L.headD 0), .bool (!L.isEmpty)]) ∧ Below w.heap.size w w' := by
  have e := head_val h.inv T.no (fun _ hn => hn)
  have e3 : T.no.map S.v = L := h.lv
  rw [e3, ← end0_no] at e
  have hnl : ((T.down0).getD ((T.down0).length - 1) (0, 0)).1 < S.len := by
    rw [end0_no]
    cases hl : T.no with
    | nil => exact h.inv.l0
    | cons n l => exact (h.inv.ok.pos n (by rw [hl]; simp)).2
  have := First_is t S T _ rfl _ e.2 w h.m.m h.inv.l0 h.inv.ok.rep hnl (by have := h.inv.sz; omega)
  rwa [e.1] at this
theorem Ss.check (h : Ss B w t S T q L) (hq : q ≤ 400) :
    Calls Try.prog 19 #[ptr t 0] w fun e w' => e = .returned (.bool true) ∧ TM2 w' t S ∧ Fr t S S w w' := h.inv.check ordk_ten hq t w h.m h.ok
theorem Ss.tall (h : Ss B w t S T q L) (n : Int) (hn : n = L.length) :
    Calls Try.prog 20 #[ptr t 0] w fun e w' => e = .returned (.int .i64 n) ∧ Below w.heap.size w w' := by
  have e : S.n = n := by rw [h.inv.n, h.len, hn]
  rw [← e]; exact Len_is t S w h.m.m
theorem Ss.deep (h : Ss B w t S T q L) (d : Int) (hd : d = T.ht) :
    Calls Try.prog 12 #[ptr t 0] w fun e w' => e = .returned (.int .i64 d) ∧ Below w.heap.size w w' := by
  have e : S.d S.root = d := by rw [Ok.d h.inv.d0 h.inv.ok, hd]
  rw [← e]; exact Deep_is t S w h.m.m h.inv.root
theorem Ss.new (nb : Nat) (hm : TM2 w t (TS.new (.func (.func 9) #[] #[]) nb)) (ht : B ≤ t) (hn : B ≤ nb) : Ss B w t (TS.new (.func (.func 9) #[] #[]) nb) .nil 0 [] := by
  refine ⟨hm, ⟨rfl, trivial, List.nodup_nil, Nat.zero_lt_one, rfl, rfl, ?_, ?_, ?_, ?_, rfl, List.Pairwise.nil, ?_, Nat.le_refl _, Nat.le_refl _, Nat.le_refl _⟩, rfl, rfl, ht, hn, hn⟩
  · intro i hi s hs; exact Nat.zero_lt_one
  · intro i hi; exact ⟨by show (0 : Int) ≤ 0; omega, by show (0 : Int) ≤ _; omega⟩
  · intro j hj; exact absurd hj (Nat.not_lt_zero _)
  · intro i j hi; exact absurd hi (Nat.not_lt_zero _)
  · intro i hi; show In64 0; unfold In64; omega
end
end Go.Proofs.Ytabdjplpagcniaa

namespace Go.Proofs.Ytabdjplpagcniaa
open Go.RowKit

theorem deep3 {T : Tr} (ha : Avl T) (hs : T.size = 3) : T.ht = 2 := by
  have h1 := least_size T ha
  have h2 := size_ht T
  rw [hs] at h1 h2
  have h3 : T.ht < 3 := by
    rcases Nat.lt_or_ge T.ht 3 with h | h
    · exact h
    · exfalso
      have hm : ∀ a b, a ≤ b → least a ≤ least b := by
        intro a b hab
        induction hab with
        | refl => exact Nat.le_refl _
        | step _ ih => exact Nat.le_trans ih (least_mono _)
      have := hm 3 _ h
      have h4 : least 3 = 4 := rfl
      omega
  have h5 : ¬ T.ht = 0 := fun h => by rw [h] at h2; omega
  have h6 : ¬ T.ht = 1 := fun h => by rw [h] at h2; omega
  omega
set_option maxRecDepth 100000 in
set_option maxHeartbeats 2000000 in
theorem awake_is (w : World) :
    Calls Try.prog 10 #[] w fun e w' => e = .returned (.bool true) ∧ Below w.heap.size w w' := by
  go_enter Try.func10, Try.ntmps10
  go_wp2_with fail
  refine (New_is 9 w).mono ?_
  rintro e W1 ⟨t, nb, rfl, hm, ht, hnb, hb1⟩
  have S0 := Lib.hid (Ss.new (B := w.heap.size) nb hm ht hnb)
  have z1 := hb1.size
  clear hm
  go_wp2_with fail
  refine (S0.out.put_new 50 (by unfold In64; omega) (by omega) rfl).mono ?_
  rintro e W2 ⟨rfl, ⟨S1, T1, hs⟩, hb⟩
  have hb2 := hb1.trans hb
  have S1' := Lib.hid hs
  clear hs hb hb1 S0 z1
  go_wp2_with fail
  refine (S1'.out.put_new 30 (by unfold In64; omega) (by omega) (by decide)).mono ?_
  rintro e W3 ⟨rfl, ⟨S2, T2, hs⟩, hb⟩
  have hb3 := hb2.trans hb
  have S2' := Lib.hid hs
  clear hs hb hb2 S1'
  go_wp2_with fail
  refine (S2'.out.put_new 80 (by unfold In64; omega) (by omega) (by decide)).mono ?_
  rintro e W4 ⟨rfl, ⟨S3, T3, hs⟩, hb⟩
  have hb4 := hb3.trans hb
  have eL : insR 80 (insR 30 (insR 50 [])) = [30, 50, 80] := by decide
  rw [eL] at hs
  have S3' := Lib.hid hs
  clear hs hb hb3 S2' eL
  go_wp2_with fail
  refine (S3'.out.put_old 55 (by unfold In64; omega) (by omega) (by decide)).mono ?_
  rintro e W5 ⟨rfl, hb⟩
  have S4 := Lib.hid (S3'.out.of hb)
  have hb5 := hb4.trans (hb.mono hb4.size)
  clear hb hb4 S3'
  go_wp2_with fail
  refine (S4.out.next 50 (by unfold In64; omega)).mono ?_
  rintro e W6 ⟨he, hb⟩
  have he' : e = .returned (.tuple #[.int .i64 80, .bool true]) := he
  subst he'
  have S5 := Lib.hid (S4.out.of hb)
  have hb6 := hb5.trans (hb.mono hb5.size)
  clear hb hb5 S4 he
  go_wp2_with fail
  refine (S5.out.next 40 (by unfold In64; omega)).mono ?_
  rintro e W7 ⟨he, hb⟩
  have he' : e = .returned (.tuple #[.int .i64 50, .bool true]) := he
  subst he'
  have S6 := Lib.hid (S5.out.of hb)
  have hb7 := hb6.trans (hb.mono hb6.size)
  clear hb hb6 S5 he
  go_wp2_with fail
  refine (S6.out.tall 3 rfl).mono ?_
  rintro e W8 ⟨rfl, hb⟩
  have S7 := Lib.hid (S6.out.of hb)
  have hb8 := hb7.trans (hb.mono hb7.size)
  clear hb hb7 S6
  go_wp2_with fail
  refine (S7.out.check (by omega)).mono ?_
  rintro e W9 ⟨rfl, hm, hf⟩
  have S8 := Lib.hid (show Ss w.heap.size W9 t S3 T3 _ _ from ⟨hm, S7.out.inv, S7.out.ord, S7.out.lv, S7.out.bt, S7.out.bn, S7.out.bf⟩)
  have hb9 := hb8.trans (S7.out.below hf)
  clear hm hf hb8 S7
  go_wp2_with fail
  refine (S8.out.deep 2 (by rw [deep3 S8.out.inv.avl S8.out.len]; rfl)).mono ?_
  rintro e W10 ⟨rfl, hb⟩
  have hb10 := hb9.trans (hb.mono hb9.size)
  clear hb hb9 S8
  go_wp2
  go_ret
  exact ⟨rfl, hb10⟩
end Go.Proofs.Ytabdjplpagcniaa

namespace Go.Proofs.Ytabdjplpagcniaa
open Go.RowKit

/-- a slice of calls -/
structure Ops (w : World) (ao : Option Addr) (n cap : Nat) (K X : Nat → Int) : Prop where
  ptr : 0 < n → ∃ a, ao = some a ∧ a.block < w.heap.size ∧ ∀ i, i < n → w.cell? (a.add (i * 2)) = some (.int .i64 (K i)) ∧ w.cell? ((a.add (i * 2)).add 1) = some (.int .i64 (X i))
  capl : n ≤ cap
  capb : cap ≤ 9223372036854775807
  x64 : ∀ i, i < n → In64 (X i)
theorem Ops.at {w wr : World} {ao : Option Addr} {n cap : Nat} {K X : Nat → Int} (h : Ops w ao n cap K X) (hb : Below w.heap.size w wr) {i : Nat} (hi : i < n) :
    ∃ a, ao = some a ∧ wr.cell? (a.add (i * 2)) = some (.int .i64 (K i)) ∧ wr.cell? { block := (a.add (i * 2)).block, off := (a.add (i * 2)).off + 1 } = some (.int .i64 (X i)) ∧ In64 (X i) := by
  obtain ⟨a, h1, h2, h3⟩ := h.ptr (by omega)
  have e1 : ∀ k, (a.add k).block = a.block := fun k => by unfold Addr.add; split <;> rfl
  have e2 : ∀ k l, ((a.add k).add l).block = a.block := fun k l => by unfold Addr.add; split <;> split <;> rfl
  refine ⟨a, h1, ?_, ?_, h.x64 i hi⟩
  · rw [hb.cell (by rw [e1]; exact h2)]; exact (h3 i hi).1
  · have : wr.cell? ((a.add (i * 2)).add 1) = some (.int .i64 (X i)) := by rw [hb.cell (by rw [e2]; exact h2)]; exact (h3 i hi).2
    exact this
theorem St.new {B : Nat} {w : World} {t : Nat} (nb : Nat) (hm : TM2 w t (TS.new (.func (.func 9) #[] #[]) nb)) (ht : B ≤ t) (hn : B ≤ nb) :
    St B w t (TS.new (.func (.func 9) #[] #[]) nb) .nil 0 (.slice none 0 0) [] := by
  have h := Ss.new nb hm ht hn
  exact ⟨h.m, h.inv, h.ord, IL.nil _ _, h.lv, (fun k hk => absurd (hk : (none : Option Nat) = some k) nofun), h.bt, h.bn, h.bf⟩
end Go.Proofs.Ytabdjplpagcniaa

