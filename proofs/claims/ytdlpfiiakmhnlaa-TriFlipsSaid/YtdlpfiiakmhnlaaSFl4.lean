/- My texts TrAc, TrAd, TrAe, TrAb, TrAf, TrAgd, TrAh, TrAi, TrAl, TrAm, TrAr, TrAt, TrAu, TrAv, BsG, TrIn, TrAw, TrDa, TrDb, TrBp, TrBq, TrBe, TrBi, TrBk, TrBx, TrDc, TrDd, joined: what the last one needs of them. Conditions: as each lemma says. -/
import Derived.Test.YtdlpfiiakmhnlaaSFl3
import Derived.KernelRfl
import Derived.StillTail
import Derived.OrdersHeld
import Derived.Deep.Quiet
import Derived.Below
import Derived.WalkKit
import Derived.Test.YtdlpfiiakmhnlaaProg
import Derived.WalkSpells
import Derived.StillTactics
import Derived.Laws.Pointers
import Derived.Deep.RegionHeld3
import Derived.RowKit3
import Derived.Deep.QuietTactic
import Derived.BigQuiet
import Derived.BigRegion
import Derived.Lib.Hide
import Derived.WalkSmall
import Derived.Laws.BitsAllLaws
import Derived.IntWalk
import Derived.Deep.OwnRows
import Derived.Deep.LoopGhost
import Derived.Shelf.Bits.Mul64
import Derived.ProofKit
import Derived.OpenShut
import Derived.ShutString
import Derived.ChangeOld
import Derived.Lib.SmallJoins
import Derived.Laws.IdiomArrays
import Derived.Laws.CopyOwn
import Derived.Laws.AppendOwn
import Derived.Deep.DeepAppendRoom
import Derived.Lib.AppendZerosOnto
import Derived.Lib.Overlaps
import Derived.Deep.RegionLaw
import Derived.Shelf.RegionOpenPlain
import Derived.Deep.RegionWith
import Derived.Sort.LoopGhostIn
import Derived.RangeFuncNested
import Derived.RangeFuncBound
import Derived.RangeFuncCalls
import Derived.RangeFuncLeaves
import Derived.OwnWalk
import Derived.OwnWalkIn
import Derived.TacticsInMore
import Derived.LoopNIn
import Derived.LoopIn
import Derived.Deep.DeepFit
import Derived.Deep.DeepCutAuto
import Derived.Shelf.Abstract
import Derived.Shelf.RegionOpen
import Derived.Maps.OwnIn
import Derived.WalkMore
import Derived.Deep.SlicePairs
namespace Go.Proofs.Ytdlpfiiakmhnlaa
open Go.RowKit

/-- the sides put, and the hull around them -/
structure Brd (h : List Nat) (l : List Tri3) : Prop where
  way : ∀ i, i < h.length → gSd l (gH h i) (gH h ((i + 1) % h.length))
  rev : ∀ a b, gSd l a b → gSd l b a ∨ ∃ i, i < h.length ∧ a = gH h i ∧ b = gH h ((i + 1) % h.length)
theorem Sd_l {l l' : List Tri3} {a b : Nat} (h : gSd l a b) : gSd (l ++ l') a b := by
  obtain ⟨t, ht, s⟩ := h; exact ⟨t, List.mem_append_left _ ht, s⟩
theorem Sd_r {l l' : List Tri3} {a b : Nat} (h : gSd l' a b) : gSd (l ++ l') a b := by
  obtain ⟨t, ht, s⟩ := h; exact ⟨t, List.mem_append_right _ ht, s⟩
theorem begT_mem {b : List Nat} {q k : Nat} (hk : k < q - 1) : (gH b k, gH b (k + 1), q) ∈ begT b q := List.mem_iff_getElem?.2 ⟨k, begT_at b q k hk⟩
theorem addT_mem2 {h : List Nat} {p f j k : Nat} (hk : k < j) : (gH h ((f + k) % h.length), p, gH h ((f + (k + 1)) % h.length)) ∈ addT h p f j := by
  refine List.mem_iff_getElem?.2 ⟨k, ?_⟩
  rw [addT_at h p f j k hk]
  show some (_, _, gH h (((f + k) % h.length + 1) % h.length)) = _
  rw [Nat.mod_add_mod]; rfl
theorem beg_brd {b : List Nat} {q : Nat} (h2 : 2 ≤ q) (hb : b.length = q) : Brd (b ++ [q]) (begT b q) := by
  have ll : (b ++ [q]).length = q + 1 := by simp [hb]
  have gq : gH (b ++ [q]) q = q := by have := gH_app2 b q; rwa [hb] at this
  have gi : ∀ i, i < q → gH (b ++ [q]) i = gH b i := fun i hi => gH_app _ _ i (by omega)
  refine ⟨fun i hi => ?_, fun x y ⟨t, ht, s⟩ => ?_⟩
  · rw [ll] at hi ⊢
    rcases Nat.lt_or_ge i q with h | h
    · rw [Nat.mod_eq_of_lt (by omega), gi i h]
      rcases Nat.lt_or_ge (i + 1) q with h4 | h4
      · rw [gi _ h4]
        exact ⟨_, begT_mem (show i < q - 1 by omega), .inl ⟨rfl, rfl⟩⟩
      · rw [show i + 1 = q by omega, gq]
        exact ⟨_, begT_mem (show q - 2 < q - 1 by omega), .inr (.inl ⟨by rw [show q - 2 + 1 = i by omega], rfl⟩)⟩
    · rw [show i = q by omega, Nat.mod_self, gq, gi 0 (by omega)]
      exact ⟨_, begT_mem (show 0 < q - 1 by omega), .inr (.inr ⟨rfl, rfl⟩)⟩
  · obtain ⟨k, hk⟩ := List.mem_iff_getElem?.1 ht
    obtain ⟨hk, rfl⟩ := begT_get _ _ _ _ hk
    rcases s with ⟨e1, e2⟩ | ⟨e1, e2⟩ | ⟨e1, e2⟩ <;> simp only [] at e1 e2 <;> rw [e1, e2] <;> clear e1 e2
    · refine .inr ⟨k, by omega, (gi k (by omega)).symm, ?_⟩
      rw [ll, Nat.mod_eq_of_lt (by omega), gi _ (by omega)]
    · rcases Nat.lt_or_ge (k + 1) (q - 1) with h | h
      · exact .inl ⟨_, begT_mem h, .inr (.inr ⟨rfl, rfl⟩)⟩
      · refine .inr ⟨k + 1, by omega, (gi _ (by omega)).symm, ?_⟩
        rw [ll, Nat.mod_eq_of_lt (by omega), show k + 1 + 1 = q by omega, gq]
    · cases k with
      | zero =>
        refine .inr ⟨q, by omega, gq.symm, ?_⟩
        rw [ll, Nat.mod_self, gi 0 (by omega)]
      | succ k => exact .inl ⟨_, begT_mem (show k < q - 1 by omega), .inr (.inl ⟨rfl, rfl⟩)⟩
theorem Brd.next {h : List Nat} {l : List Tri3} (B : Brd h l) (h3 : 3 ≤ h.length) {p f j : Nat} (hf : f < h.length) (hj0 : 0 < j) (hj1 : j < h.length) : Brd (addH h p f j) (l ++ addT h p f j) := by
 have ml : ∀ k, k % h.length < h.length := fun k => Nat.mod_lt _ (by omega)
 have hl := addH_len (h := h) p f j
 have f0 : gH h f = gH h ((f + 0) % h.length) := by rw [show (f + 0) % h.length = f from Nat.mod_eq_of_lt hf]
 have nx2 : ∀ c, c < h.length - j → gH (addH h p f j) ((c + 2 + 1) % (addH h p f j).length) = gH h ((f + j + c + 1) % h.length) := fun c hc => by
  rcases Nat.lt_or_ge (c + 1) (h.length - j) with h4 | h4
  ·rw [Nat.mod_eq_of_lt (by omega), show c + 2 + 1 = (c + 1) + 2 by omega, addH_2 _ _ _ _ h4, show f + j + (c + 1) = f + j + c + 1 by omega]
  ·rw [show c + 2 + 1 = (addH h p f j).length by omega, Nat.mod_self, addH_0, show f + j + c + 1 = f + h.length by omega, Nat.add_mod_right, Nat.mod_eq_of_lt hf]
 refine ⟨fun i hi => ?_, fun x y s => ?_⟩
 ·match i, hi with
  | 0, _ =>
   rw [show (0 + 1) % (addH h p f j).length = 1 from Nat.mod_eq_of_lt (by omega), addH_1, addH_0, f0]
   exact Sd_r ⟨_, addT_mem2 hj0, .inl ⟨rfl, rfl⟩⟩
  | 1, _ =>
   rw [show (1 + 1) % (addH h p f j).length = 0 + 2 from Nat.mod_eq_of_lt (by omega), addH_2 _ _ _ _ (by omega), addH_1]
   exact Sd_r ⟨_, addT_mem2 (show j - 1 < j by omega), .inr (.inl ⟨rfl, by rw [show f + (j - 1 + 1) = f + j + 0 by omega]⟩)⟩
  | c + 2, hi =>
   have hc : c < h.length - j := by omega
   rw [nx2 c hc, addH_2 _ _ _ _ hc]
   have := B.way ((f + j + c) % h.length) (ml _)
   rw [Nat.mod_add_mod] at this
   exact Sd_l this
 ·rcases Sd_app s with s | ⟨t, ht, s⟩
  ·rcases B.rev x y s with s | ⟨i, hi, rfl, rfl⟩
   ·exact .inl (Sd_l s)
   ·obtain ⟨k, hk, rfl⟩ : ∃ k, k < h.length ∧ i = (f + k) % h.length := by
     rcases Nat.lt_or_ge i f with h4 | h4
     ·exact ⟨i + h.length - f, by omega, by rw [show f + (i + h.length - f) = i + h.length by omega, Nat.add_mod_right, Nat.mod_eq_of_lt hi]⟩
     ·exact ⟨i - f, by omega, by rw [show f + (i - f) = i by omega, Nat.mod_eq_of_lt hi]⟩
    rw [Nat.mod_add_mod]
    rcases Nat.lt_or_ge k j with h4 | h4
    ·exact .inl (Sd_r ⟨_, addT_mem2 h4, .inr (.inr ⟨rfl, rfl⟩)⟩)
    ·refine .inr ⟨k - j + 2, by omega, ?_, ?_⟩
     ·rw [addH_2 _ _ _ _ (by omega), show f + j + (k - j) = f + k by omega]
     ·rw [nx2 _ (by omega), show f + j + (k - j) + 1 = f + k + 1 by omega]
  ·obtain ⟨k, hk, rfl⟩ := addT_mem _ _ _ _ ht
   rcases s with ⟨e1, e2⟩ | ⟨e1, e2⟩ | ⟨e1, e2⟩ <;> simp only [] at e1 e2 <;> rw [e1, e2] <;> clear e1 e2
   ·cases k with
    | zero =>
     refine .inr ⟨0, by omega, by rw [addH_0, f0], ?_⟩
     rw [show (0 + 1) % (addH h p f j).length = 1 from Nat.mod_eq_of_lt (by omega), addH_1]
    | succ k => exact .inl (Sd_r ⟨_, addT_mem2 (show k < j by omega), .inr (.inl ⟨rfl, rfl⟩)⟩)
   ·rcases Nat.lt_or_ge (k + 1) j with h4 | h4
    ·exact .inl (Sd_r ⟨_, addT_mem2 h4, .inl ⟨rfl, rfl⟩⟩)
    ·refine .inr ⟨1, by omega, by rw [addH_1], ?_⟩
     rw [show (1 + 1) % (addH h p f j).length = 0 + 2 from Nat.mod_eq_of_lt (by omega), addH_2 _ _ _ _ (by omega), show f + (k + 1) = f + j + 0 by omega]
   ·have := B.way ((f + k) % h.length) (ml _)
    rw [Nat.mod_add_mod] at this
    exact .inl (Sd_l this)
/-- what lies around, behind q + k points -/
theorem bld_brd {N q : Nat} {X Y : Nat → Int} (hg : allC N X Y = true) (hr : risC N X Y) (hl : isLn N X Y q) (hq : q < N) : ∀ k, q + k < N → Brd (bld X Y q k).1 (bld X Y q k).2 := by
  intro k
  have h2 : 2 ≤ q := by have := hl.1; omega
  induction k with
  | zero => intro _; exact beg_brd h2 (begH_len X Y q)
  | succ k ih =>
    intro hk
    have A := bld_add (sX_ris hg hr) (wy_gT hg) h2 hq (fun i h1 h2 => hl.2.2.1 i h1 h2) (hl.2.2.2 hq) k hk
    exact (ih (by omega)).next (bld_st hg hr hl hq k (by omega)).1.len A.f0 A.j0 A.j1
end Go.Proofs.Ytdlpfiiakmhnlaa

namespace Go.Proofs.Ytdlpfiiakmhnlaa
open Go.RowKit

/-- the next one around: the first end to which there is a side without a reverse -/
def nxtO (O : Nat → List (Nat × Nat)) (a : Nat) : Option Nat := ((O a).find? fun x => (lookH (O x.1) a).isNone).map (·.1)
structure HC (N : Nat) (O : Nat → List (Nat × Nat)) (H : List Nat) : Prop where
  pos : 0 < H.length
  len : H.length ≤ N
  zero : gH H 0 = 0
  nz : ∀ i, 0 < i → i < H.length → gH H i ≠ 0
  lt : ∀ i, i < H.length → gH H i < N
  nxt : ∀ i, i < H.length → nxtO O (gH H i) = some (gH H ((i + 1) % H.length))
theorem rep_mem {O : Nat → List (Nat × Nat)} {S : Nat → Nat → Prop} (h : RepS O S) {a : Nat} {x : Nat × Nat} (hx : x ∈ O a) : S a x.1 := by
  refine Classical.byContradiction fun hn => ?_
  exact lookH_absent ((h.2 a x.1).2 hn) x hx rfl
theorem rep_has {O : Nat → List (Nat × Nat)} {S : Nat → Nat → Prop} (h : RepS O S) {a b : Nat} (hs : S a b) : ∃ x, x ∈ O a ∧ x.1 = b := by
  refine Classical.byContradiction fun hn => ?_
  refine (h.2 a b).1 (lookH_none fun x hx he => hn ⟨x, hx, by omega⟩) hs
def rotH (h : List Nat) (z : Nat) : List Nat := (List.range h.length).map fun k => gH h ((z + k) % h.length)
theorem rotH_len (h : List Nat) (z : Nat) : (rotH h z).length = h.length := by unfold rotH; simp
theorem rotH_at {h : List Nat} {z k : Nat} (hk : k < h.length) : gH (rotH h z) k = gH h ((z + k) % h.length) := by
  show ((List.range h.length).map fun k => gH h ((z + k) % h.length)).getD k 0 = _
  rw [List.getD_eq_getElem?_getD, List.getElem?_map, List.getElem?_range hk]; rfl
theorem nxt_of {X Y : Nat → Int} {m : Nat} {h : List Nat} {l : List Tri3} {O : Nat → List (Nat × Nat)} (H : Hul X Y m h) (B : Bnd m h l) (R : Brd h l) (hO : RepS O (gSd l)) {i : Nat} (hi : i < h.length) : nxtO O (gH h i) = some (gH h ((i + 1) % h.length)) := by
  obtain ⟨x0, hm, he⟩ := rep_has hO (R.way i hi)
  have hp : (lookH (O x0.1) (gH h i : Nat)).isNone = true := by
    rw [he, (hO.2 _ _).2 (B.new i hi)]; rfl
  unfold nxtO
  cases hf : (O (gH h i)).find? fun x => (lookH (O x.1) (gH h i : Nat)).isNone with
  | none => exact absurd hp (by rw [List.find?_eq_none] at hf; exact hf x0 hm)
  | some y =>
    have hy := List.find?_some hf
    have hym := List.mem_of_find?_eq_some hf
    have s1 := rep_mem hO hym
    have s2 : ¬ gSd l y.1 (gH h i) := (hO.2 _ _).1 (by rw [Option.isNone_iff_eq_none] at hy; exact hy)
    rcases R.rev _ _ s1 with s3 | ⟨i', hi', e1, e2⟩
    · exact absurd s3 s2
    · have := H.nd _ _ hi hi' e1
      subst this
      show some y.1 = _
      rw [e2]
theorem hc_of {X Y : Nat → Int} {N m : Nat} {h : List Nat} {l : List Tri3} {O : Nat → List (Nat × Nat)} (H : Hul X Y m h) (B : Bnd m h l) (R : Brd h l) (hO : RepS O (gSd l)) (hN : N = m + 1) : ∃ z, z < h.length ∧ gH h z = 0 ∧ HC N O (rotH h z) := by
  obtain ⟨z, hz, hz0⟩ := H.zero
  have h3 := H.len
  have ml : ∀ k, k % h.length < h.length := fun k => Nat.mod_lt _ (by omega)
  have hl := rotH_len h z
  refine ⟨z, hz, hz0, by omega, by have := B.hln; omega, ?_, fun i h0 hi => ?_, fun i hi => ?_, fun i hi => ?_⟩
  · rw [rotH_at (by omega), Nat.add_zero, Nat.mod_eq_of_lt hz, hz0]
  · rw [hl] at hi
    rw [rotH_at hi]
    intro e
    have := H.nd _ _ (ml _) hz (e.trans hz0.symm)
    have h5 : i = 0 := g_mod_inj (f := z) hi (by omega) (by rw [this, Nat.add_zero, Nat.mod_eq_of_lt hz])
    omega
  · rw [hl] at hi
    rw [rotH_at hi]
    have := H.le _ (ml (z + i)); omega
  · rw [hl] at hi ⊢
    rw [rotH_at hi, rotH_at (ml _), nxt_of H B R hO (ml _), Nat.mod_add_mod]
    congr 2
    rw [show z + i + 1 = z + (i + 1) by omega, Nat.add_mod_mod]
end Go.Proofs.Ytdlpfiiakmhnlaa

namespace Go.Proofs.Ytdlpfiiakmhnlaa
open Go.RowKit Go.Shelf
attribute [local go_sem] Oper.semAt_some undef

theorem stepR_scope {P : Program} {b : Frame} {a : Act} {k : List Item} {cs : List Frame} {w : World} {c : Code} : step P (lone (b.atR a (.code (.scope c) :: k)) cs w) = .next (lone (b.atR a (.code c :: .inScope c :: k)) cs w) :=
  step_lone_go (by simp [stepG, stepG.exec, Frame.atR])
theorem stepR_inScope {P : Program} {b : Frame} {a : Act} {k : List Item} {cs : List Frame} {w : World} {c : Code} : step P (lone (b.atR a (.inScope c :: k)) cs w) = .next (lone (b.atR a k) cs w) :=
  step_lone_go (by simp [stepG, stepG.exec, Frame.atR])
theorem wpIn_scope {F : Fence} {n : Nat} {P : Program} {Q : Exit → Act → World → Prop} {a : Act} {w : World} {c : Code} (h : c.wpIn F n P (Exit.noGoto Q) a w) : (Code.scope c).wpIn F n P Q a w := by
  intro b k cs hro hb hr
  have h0 : (lone (b.atR a (.code (.scope c) :: k)) cs w).fenced P F := fenced_calm hb hr rfl
  obtain ⟨e, a₁, w₁, hq, harr⟩ := h b (.inScope c :: k) cs hro hb hr
  cases e with
  | normal => exact ⟨.normal, a₁, w₁, hq, .head h0 stepR_scope (StepsIn.trans harr (.one (fenced_calm hb hr rfl) stepR_inScope))⟩
  | exit id =>
    have hx : exitTo id (.inScope c :: k) = exitTo id k := by simp [exitTo]
    exact ⟨.exit id, a₁, w₁, hq, fun k' hk => .head h0 stepR_scope (harr.1 k' (by rw [hx]; exact hk)),
      fun hr' hk => let ⟨k₁, h1, h2⟩ := harr.2 hr' (by rw [hx]; exact hk); ⟨k₁, h1, .head h0 stepR_scope h2⟩⟩
  | goto l => exact hq.elim
  | ret => exact ⟨_, a₁, w₁, hq, .of_steps (.one h0 stepR_scope) harr⟩
  | panic ch => exact ⟨_, a₁, w₁, hq, .of_steps (.one h0 stepR_scope) harr⟩
  | outgrown => exact ⟨_, a₁, w₁, hq, .of_steps (.one h0 stepR_scope) harr⟩
theorem wpListIn_append_nl {F : Fence} {nF : Nat} {w : World} {ops : Array Oper} {rest : List Oper} {o : Oper} {a : Act} {Q : Exit → Act → World → Prop} (hgd : o.guard = none) (s x : Operand)
    (ho : o.op = .call { callee := .builtin .append, args := #[s, x], argTypes := #[29, 29] })
    (base : Nat) (v : Value) (L : List Nat) (y : Nat) (vb : Nat) (hs : a.eval s = v) (hx : a.eval x = .slice (some ⟨vb, 0, none⟩) 1 1) (hb : Blk w vb #[.int .i64 (y : Nat)] 3)
    (hnl : NL w base v L) (hL : L.length < 100000) (hbase : base ≤ w.heap.size)
    (h : ∀ ao n cap w', n = L.length + 1 → NL w' base (.slice ao n cap) (L ++ [y]) → w.grownBy w' v.ownBlock → wpListIn F nF Try.prog ops Q rest (a.put o.dst (.slice ao n cap)) w') : wpListIn F nF Try.prog ops Q (o :: rest) a w := by
  obtain ⟨i0, hi, hz0, hz1, hz2⟩ := info_parts info_int
  refine wpListIn_append_own_at _ hgd s x 29 ho base 3 i0 (.int .i64 0) 1 8 Try.underlying29 hi hz0 hz1 hz2 rfl (by decide) v L.length _ hs hnl ⟨vb, 0, none⟩ 1 1 [.int .i64 y] hx rfl (int_src hb) (int_one _) (by unfold maxLen; omega) (by omega) hbase ?_
  intro v' w' own gr _ _
  have hn : NL w' base v' (L ++ [y]) := by
    unfold NL
    rw [List.length_append, List.map_append]; exact own
  obtain ⟨ao, cap, rfl, _⟩ := hn.val
  exact h ao _ cap w' (by simp) hn gr
theorem NL.low2 {w : World} {base base' : Nat} {v : Value} {L : List Nat} (h : NL w base v L) (hb : base' ≤ base) : NL w base' v L := by
  refine ⟨h.1, h.2.imp id ?_⟩
  rintro ⟨g, cap, cur, e, hbg, r⟩
  exact ⟨g, cap, cur, e, by omega, r⟩
theorem NL.own {w : World} {base : Nat} {v : Value} {L : List Nat} (h : NL w base v L) {g : Nat} (hg : v.ownBlock = some g) : base ≤ g ∧ g < w.heap.size := World.ownsRow.lt h g hg
theorem Marks.grown {y : Nat} {w w' : World} {v : Value} {base : Nat} {L : List Nat} (hn : NL w base v L) (hg : w.grownBy w' v.ownBlock) : ∀ {ds : List Deferred}, Marks y w ds → Marks y w' ds := by
  intro ds
  induction ds with
  | nil => intro _; trivial
  | cons d ds ih =>
    rintro ⟨⟨r, h1, h2, h3, h4⟩, h5⟩
    refine ⟨⟨r, h1, h2, (hg.block r (Array.getElem?_eq_some_iff.1 h3).1 fun e => ?_).trans h3, h4⟩, ih h5⟩
    obtain ⟨cur, hc, _⟩ := hn.typ e.symm
    rw [h3] at hc; cases hc
theorem NL.keep {w w' : World} {base : Nat} {v : Value} {L : List Nat} (h : NL w base v L) (hb : ∀ g, v.ownBlock = some g → w'.heap[g]? = w.heap[g]?) : NL w' base v L := by
  refine ⟨h.1, h.2.imp id ?_⟩
  rintro ⟨g, cap, cur, rfl, hbg, hg, r⟩
  exact ⟨g, cap, cur, rfl, hbg, (hb g rfl).trans hg, r⟩
theorem Marks.own {y : Nat} {w : World} {v : Value} {base : Nat} {L : List Nat} (hn : NL w base v L) : ∀ {ds : List Deferred}, Marks y w ds → ∀ d, d ∈ ds → ∀ r, d.target = .collected r → v.ownBlock ≠ some r := by
  intro ds
  induction ds with
  | nil => intro _ d hd; cases hd
  | cons d ds ih =>
    rintro ⟨⟨r, h1, h2, h3, h4⟩, h5⟩ d' hd' r' hr' e
    rcases List.mem_cons.1 hd' with rfl | hd'
    · rw [h1] at hr'
      injection hr' with hr'
      subst hr'
      obtain ⟨cur, hc, _⟩ := hn.typ e
      rw [h3] at hc; cases hc
    · exact ih h5 d' hd' r' hr' e
theorem nxtO_at {O : Nat → List (Nat × Nat)} {a k : Nat} {x : Nat × Nat} (hx : (O a)[k]? = some x) (hb : ∀ j y, j < k → (O a)[j]? = some y → lookH (O y.1) (a : Nat) ≠ none) (hn : lookH (O x.1) (a : Nat) = none) : nxtO O a = some x.1 := by
  unfold nxtO
  have : (O a).find? (fun x => (lookH (O x.1) a).isNone) = some x := by
    rw [List.find?_eq_some_iff_getElem]
    obtain ⟨hk, hxe⟩ := List.getElem?_eq_some_iff.1 hx
    refine ⟨by rw [hn]; rfl, k, hk, hxe, fun j hj => ?_⟩
    have := hb j _ hj (List.getElem?_eq_getElem (by omega))
    cases h : lookH (O ((O a)[j]).1) (a : Nat) with
    | none => exact absurd h this
    | some z => simp
  rw [this]; rfl
theorem nxtO_end {O : Nat → List (Nat × Nat)} {a : Nat} (hb : ∀ j y, j < (O a).length → (O a)[j]? = some y → lookH (O y.1) (a : Nat) ≠ none) : nxtO O a = none := by
  unfold nxtO
  rw [Option.map_eq_none_iff, List.find?_eq_none]
  intro y hy
  obtain ⟨j, hj, e⟩ := List.getElem_of_mem hy
  have := hb j y hj (by rw [List.getElem?_eq_getElem hj, e])
  cases h : lookH (O y.1) (a : Nat) with
  | none => exact absurd h this
  | some z => simp
theorem gH_take {H : List Nat} {k : Nat} (hk : k < H.length) : H.take (k + 1) = H.take k ++ [gH H k] := by
  rw [List.take_add_one, gH_at hk]; rfl
set_option maxRecDepth 100000 in
set_option maxHeartbeats 4000000 in
theorem Hull_is (t : Nat) (D : SD) (N : Nat) (X Y : Nat → Int) (O : Nat → List (Nat × Nat)) (n : Int) (H : List Nat) (hH : HC N O H) (hn : n ≠ 0) (w : World) (h : SM w t D N X Y O n) :
    Calls Try.prog 13 #[ptr t 0] w fun e w' => ∃ v, e = .returned v ∧ NL w' w.heap.size v H ∧ Below w.heap.size w w' := by
 have HS := Lib.hid h
 have HH := Lib.hid hH
 have hpos := hH.pos
 have hlen := hH.len
 obtain ⟨c0, c1, c2⟩ := h.c
 have hsm := h.small
 have hzt := h.blk.lt
 clear h hH
 refine (callsIn_wide (n := 3)).1 ?_
 refine callsIn_of_wp_marks Try.func13 rfl trivial ?_ rfl
 simp only [Try.ntmps13, List.size_toArray, List.length_cons, List.length_nil, Nat.reduceAdd, Nat.reduceSub, Array.replicate_succ, Array.replicate_zero, List.push_toArray, List.append_toArray, List.nil_append, List.cons_append]
 have hn0 : (n == 0) = false := by simpa using hn
 gi_wp2_with fail
 refine wpIn_scope ?_
 gi_wp2_with fail
 refine wpIn_label ?_
 gi_wp2_with fail
 refine nameIn ?_
 intro V hV
 obtain ⟨y0, ey0⟩ : ∃ y, w.heap.size = y := ⟨_, rfl⟩
 obtain ⟨y, ey⟩ : ∃ y, w.heap.size + 1 = y := ⟨_, rfl⟩
 have hy01 : y0 < y := by omega
 have hbV : Below w.heap.size w V := by rw [hV]; exact below_a2 _ _ _
 have K0 : Hid (Blk V y0 #[ptr t 0] 25) := by rw [hV, ← ey0]; exact Lib.hid ((Blk.new w _ _).alloc _)
 have K1 : Hid (Blk V y #[.int .i64 (gH H 0 : Nat)] 3) := by rw [hV, ← ey, HH.out.zero]; exact Lib.hid (Blk.new1 w _ _ _)
 have hVs : V.heap.size = y + 1 := by rw [hV]; simp; omega
 have BV := Lib.hid hbV
 obtain ⟨len, hl⟩ : ∃ l, H.length = l := ⟨_, rfl⟩
 have HLN := Lib.hid hl
 rw [hl] at hpos hlen
 rw [ey, ey0]
 have hz0 : w.heap.size = y0 := ey0
 clear hV hbV hl c0 c1 c2 ey
 refine wpIn_loop_ghost_k (fun gk act wr => ∃ (u5 u6 u7 u8 u9 u10 u11 u12 u13 u14 u15 u16 u17 u18 u19 u20 u21 u22 u23 u24 u25 u26 u27 u28 u29 u30 u31 u32 u33 u34 u35 u36 u37 u38 u39 u40 u41 u42 u43 u44 u45 u46 u47 u48 u49 : Value) (ds : List Deferred) (k : Nat) (ho : Option Addr) (hc a : Nat), (k ≤ len ∧ len - k ≤ gk ∧ (k = len → a = 0) ∧ (0 < k → k < len → a ≠ 0) ∧ Hid (a = gH H (k % len)) ∧ Hid (NL wr (y + 1) (.slice ho k hc) (H.take k)) ∧ Hid (Below w.heap.size w wr) ∧ Hid (Blk wr y0 #[ptr t 0] 25) ∧ Hid (Blk wr y #[.int .i64 (a : Nat)] 3) ∧ y + 1 ≤ wr.heap.size ∧ Hid (Marks y wr ds)) ∧ act = { tmps := #[ptr t 0, ptr y0 0, .slice none 0 0, .slice ho k hc, ptr y 0, u5, u6, u7, u8, u9, u10, u11, u12, u13, u14, u15, u16, u17, u18, u19, u20, u21, u22, u23, u24, u25, u26, u27, u28, u29, u30, u31, u32, u33, u34, u35, u36, u37, u38, u39, u40, u41, u42, u43, u44, u45, u46, u47, u48, u49], defers := ds }) len ⟨_, _, _, _, _, _, _, _, _, _, _, _, _, _, _, _, _, _, _, _, _, _, _, _, _, _, _, _, _, _, _, _, _, _, _, _, _, _, _, _, _, _, _, _, _, [], 0, none, 0, 0, ⟨Nat.zero_le _, Nat.le_refl _, fun _ => rfl, fun h => by omega, Lib.hid (by rw [Nat.zero_mod]; exact HH.out.zero.symm), Lib.hid NL.none, BV, K0, by rw [HH.out.zero] at K1; exact K1, by omega, Lib.hid trivial⟩, rfl⟩ ?_
 intro gk act wr hinv J K hJ hK
 obtain ⟨u5, u6, u7, u8, u9, u10, u11, u12, u13, u14, u15, u16, u17, u18, u19, u20, u21, u22, u23, u24, u25, u26, u27, u28, u29, u30, u31, u32, u33, u34, u35, u36, u37, u38, u39, u40, u41, u42, u43, u44, u45, u46, u47, u48, u49, ds, k, ho, hc, a, ⟨hk, hgk, ha0, han, HA, HNL, HB, HK0, HK1, hyw, HM⟩, rfl⟩ := hinv
 clear K0 K1 BV hVs
 have b0 := HK0.out.cell 0
 have b1 := HK1.out.cell 0
 simp only [List.getElem?_toArray, List.getElem?_cons_zero] at b0 b1
 obtain ⟨c0, c1, c2⟩ := (HS.out.of HB.out).c
 by_cases hlt : k < len
 ·have haN : a < N := by rw [HA.out, Nat.mod_eq_of_lt hlt]; exact HH.out.lt k (by rw [HLN.out]; exact hlt)
  have hnx : nxtO O a = some (gH H ((k + 1) % len)) := by
   have := HH.out.nxt k (by rw [HLN.out]; exact hlt)
   rw [HLN.out] at this
   rw [HA.out, Nat.mod_eq_of_lt hlt]; exact this
  have HNX := Lib.hid hnx
  clear hnx
  have hzb := HB.out.size
  rcases Nat.eq_zero_or_pos k with hk0 | hk0
  ·subst hk0
   have hq1 : (H.take 0).length < 100000 := by rw [List.length_take]; omega
   have hq2 : y + 1 ≤ (wr.alloc (.cells #[.int .i64 (a : Nat)] 3)).heap.size := by simp; omega
   gi_wp2_with (gi_at_builtin; go_loud (refine wpListIn_append_nl rfl _ _ rfl (y + 1) (.slice ho 0 hc) (H.take 0) a wr.heap.size rfl rfl (Blk.new wr _ _) (HNL.out.of (below_a1 _ _)) hq1 hq2 ?_))
   intro ho2 m2 hc2 V1 hm2 nl2 gr2
   have hva : (wr.alloc (.cells #[.int .i64 (a : Nat)] 3)).heap.size = wr.heap.size + 1 := by simp
   have hoy : ∀ g, (Value.slice ho 0 hc).ownBlock = some g → y + 1 ≤ g := fun g hg => (HNL.out.own hg).1
   have hV1 : ∀ g, g < wr.heap.size → (Value.slice ho 0 hc).ownBlock ≠ some g → V1.heap[g]? = wr.heap[g]? := fun g h1 h2 => (gr2.block g (by omega) (fun e => h2 e.symm)).trans ((below_a1 wr _).block g h1)
   have hss : wr.heap.size + 1 ≤ V1.heap.size := by have := gr2.size; omega
   have B1 : Below w.heap.size w V1 := HB.out.trans ⟨gr2.os, gr2.tape, gr2.output, by omega, fun g hg => hV1 g (by omega) (fun e => by have := hoy g e; omega)⟩
   have k0 : Blk V1 y0 #[ptr t 0] 25 := (hV1 y0 (by omega) (fun e => by have := hoy _ e; omega)).trans HK0.out
   have k1 : Blk V1 y #[.int .i64 (a : Nat)] 3 := (hV1 y (by omega) (fun e => by have := hoy _ e; omega)).trans HK1.out
   have hM1 : Marks y V1 ds := ((HM.out.keep fun r _ h2 => (below_a1 wr (.cells #[.int .i64 (a : Nat)] 3)).block r h2).grown (HNL.out.of (below_a1 wr _)) gr2)
   have hm3 : m2 = 0 + 1 := by first | (rw [hm2, List.length_take]; omega) | (have := HLN.out; omega)
   have nl3 : NL V1 (y + 1) (.slice ho2 (0 + 1) hc2) (H.take (0 + 1)) := by
    rw [gH_take (by rw [HLN.out]; exact hlt), ← hm3]
    have e : gH H 0 = a := by rw [HA.out, Nat.mod_eq_of_lt hlt]
    rw [e]; exact nl2
   subst hm3
   have BB := Lib.hid B1
   have K0 := Lib.hid k0
   have K1 := Lib.hid k1
   have HM1 := Lib.hid hM1
   have NL3 := Lib.hid nl3
   have hy1 : y + 1 ≤ V1.heap.size := by omega
   have d0 := k0.cell 0
   have d1 := k1.cell 0
   simp only [List.getElem?_toArray, List.getElem?_cons_zero] at d0 d1
   clear hva hoy hV1 hss B1 k0 k1 hM1 hm2 nl2 nl3 gr2 HNL HK0 HK1 HB HM b0 b1 c0 c1 c2 hq1 hq2
   gi_wp2_with fail
   refine ⟨trivial, callsIn_wide.2 ?_⟩
   refine (Around_is t a V1).mono ?_
   rintro e V2 ⟨rfl, kcs, kca, hb2⟩
   obtain ⟨cs, ecs⟩ : ∃ b, V1.heap.size = b := ⟨_, rfl⟩
   obtain ⟨ca, eca⟩ : ∃ b, V1.heap.size + 1 = b := ⟨_, rfl⟩
   have o3 : cs < ca := by omega
   have o4 : ca < V2.heap.size := by have := kca.lt; omega
   have o5 : y < cs := by omega
   have SM2 := Lib.hid (HS.out.of (BB.out.trans (hb2.mono BB.out.size)))
   have BB2 := Lib.hid (BB.out.trans (hb2.mono BB.out.size))
   have KS2 := Lib.hid (K0.out.of hb2)
   have KA2 := Lib.hid (K1.out.of hb2)
   have NL2 := Lib.hid (NL3.out.of hb2)
   have HM2 : Hid (Marks y V2 ds) := Lib.hid (HM1.out.keep fun r _ h2 => hb2.block r h2)
   have hy0w : y0 < V2.heap.size := by omega
   rw [eca] at kca ⊢
   rw [ecs] at kcs ⊢
   have KC := Lib.hid (And.intro kcs kca)
   clear kcs kca hb2 BB K0 K1 NL3 HM1 d0 d1 ecs eca
   gi_wp2_with fail
   obtain ⟨z, hz⟩ : ∃ z, gH H ((0 + 1) % len) = z := ⟨_, rfl⟩
   have HZ := Lib.hid hz
   rw [hz] at HNX
   obtain ⟨lr, hlr⟩ : ∃ l, (O a).length = l := ⟨_, rfl⟩
   have HLR := Lib.hid hlr
   have hrow : rowO N O (a : Int) = O a := by unfold rowO; rw [if_pos (by omega)]; rfl
   have hT := Around1_tells cs ca t D N X Y O n a (O a) hrow (V2.heap.size + 2)
   rw [hlr] at hT
   clear hlr hrow hz
   refine wpIn_rangeX (m := 1) (gf := 67) (lb := #[ptr cs 0, ptr ca 0]) (N := lr) (encs := arE (O a)) (Kp := fun W => Blk W cs #[ptr t 0] 25 ∧ Blk W ca #[.int .i64 (a : Nat)] 3 ∧ SM W t D N X Y O n) rfl (fun args w => by go_simp) hT (fun _ => rfl)
    (fun G j W => (∀ g, ¬ G g) ∧ Below V2.heap.size V2 W ∧ ∀ i x, i < j → (O a)[i]? = some x → lookH (O x.1) (a : Nat) ≠ none)
    (fun c j W => c = .exit 1 ∧ Fr V2 W (fun b => b = y) ∧ Blk W y #[.int .i64 (z : Nat)] 3) ?hg ?stable ?xstable ?keeps ?start ?round ?done ?stop
   case hg => rintro G j W ⟨j1, _⟩ g hg; exact absurd hg (j1 g)
   case stable => rintro G j W W' ⟨j1, j2, j3⟩ ⟨hbl, _⟩; exact ⟨j1, j2.trans hbl, j3⟩
   case xstable =>
    rintro c j W W' ⟨j1, j2, j3⟩ hbl
    exact ⟨j1, j2.trans (S' := fun b => V2.heap.size ≤ b) ⟨hbl.os, hbl.tape, hbl.output, hbl.size, fun k _ hk => hbl.block k (by omega)⟩ (fun _ h => .inr h), j3.below hbl (by omega)⟩
   case keeps =>
    rintro G j W ⟨j1, j2, j3⟩
    exact ⟨KC.out.1.of j2, KC.out.2.of j2, SM2.out.of j2⟩
   case start => exact ⟨fun g h => h, Below.refl _ _, fun i x hi => by omega⟩
   case round =>
    rintro l2 D2 j G W2 hj ⟨j1, j2, j3⟩ g1 g2 g3 g4
    obtain ⟨x, hx⟩ : ∃ x, (O a)[j]? = some x := ⟨_, List.getElem?_eq_getElem (show j < (O a).length by rw [HLR.out]; exact hj)⟩
    have hE : arE (O a) j = #[.int .i64 x.1, .int .i64 x.2] := by unfold arE; rw [List.getD_eq_getElem?_getD, hx]; rfl
    rw [hE]
    obtain ⟨xb, xc⟩ := x
    have HX := Lib.hid hx
    have J1 := Lib.hid j1
    have J2 := Lib.hid j2
    have J3 := Lib.hid j3
    clear j1 j2 j3 hx hE hT
    gi_wp2_with fail
    refine ⟨⟨Fix2.of (OutL.refl [] _) g3 g4 (by simp) (by simp), AboveX.refl _ _ _⟩, ?_⟩
    intro W3 hW3
    have hs3 := hW3.size
    have B3 := Lib.hid (J2.out.trans (hW3.below (B := V2.heap.size) (by omega) (by simp; omega)))
    have q0 := (KS2.out.of B3.out).cell 0
    have q1 := (KA2.out.of B3.out).cell 0
    simp only [List.getElem?_toArray, List.getElem?_cons_zero] at q0 q1
    gi_wp2_with fail
    refine ⟨trivial, CallsIn.inRound l2 (callsIn_wide.2 ?_)⟩
    have hxd := (HS.out.dom a haN _ (List.mem_iff_getElem?.2 ⟨j, HX.out⟩)).1
    have hlo : leftO N O (xb : Int) (a : Int) = lookH (O xb) (a : Nat) := by unfold leftO; rw [if_pos (by simp only [] at hxd; omega)]; rfl
    obtain ⟨R, hR⟩ : ∃ R, lookH (O xb) (a : Nat) = R := ⟨_, rfl⟩
    have HR := Lib.hid hR
    refine (Left_is t D N X Y O n xb a W3 (SM2.out.of B3.out) R (hlo.trans hR)).mono ?_
    rintro e W4 ⟨rfl, hb4⟩
    have hs4 := hb4.size
    have B4 := Lib.hid (B3.out.trans (hb4.mono B3.out.size))
    have X34 := Lib.hid hb4
    have k1 := KA2.out.of B4.out
    have r1 := k1.cell 0
    have f1 := k1.free 0
    have l1 := k1.lt
    simp only [List.getElem?_toArray, List.getElem?_cons_zero] at r1
    have K1 := Lib.hid k1
    have hsz3 : V2.heap.size ≤ W3.heap.size := B3.out.size
    clear hxd hlo hR q0 q1 k1 hb4 B3
    cases R with
    | some c =>
     have GG : Hid ((Fix2 l2 D2 W3 W4 ∧ ∃ G' : Nat → Prop, (∀ g, G' g → G g ∨ W3.heap.size ≤ g) ∧ (∀ g, ¬ G' g) ∧ Below V2.heap.size V2 W4 ∧ ∀ i x, i < j + 1 → (O a)[i]? = some x → lookH (O x.1) (a : Nat) ≠ none) ∧ AboveX (V2.heap.size + 2) G W3 W4) := by
      refine Lib.hid ⟨⟨⟨X34.out.block l2 (by omega), X34.out.block D2 (by omega)⟩, fun _ => False, fun g h => h.elim, fun g h => h, B4.out, fun i x hi hx => ?_⟩, ⟨hs4, fun k _ hk _ => X34.out.block k hk⟩⟩
      rcases Nat.lt_or_ge i j with h | h
      ·exact J3.out i x h hx
      ·have : i = j := by omega
       subst this
       rw [HX.out] at hx
       injection hx with hx
       subst hx
       intro e
       have := HR.out
       rw [e] at this; cases this
     clear r1 f1 l1 hs4
     gi_wp2
     exact GG.out
    | none =>
     have hzx : z = xb := by
      have := nxtO_at HX.out J3.out HR.out
      rw [HNX.out] at this
      injection this
     have GG : Hid ((Fix2 l2 D2 W3 (W4.setCell ⟨y, 0, none⟩ (.int .i64 (xb : Nat))) ∧ Fr V2 (W4.setCell ⟨y, 0, none⟩ (.int .i64 (xb : Nat))) (fun b => b = y) ∧ Blk (W4.setCell ⟨y, 0, none⟩ (.int .i64 (xb : Nat))) y #[.int .i64 (z : Nat)] 3) ∧ AboveX (V2.heap.size + 2) G W3 (W4.setCell ⟨y, 0, none⟩ (.int .i64 (xb : Nat)))) := by
      have hst : ∀ g, g ≠ y → (W4.setCell ⟨y, 0, none⟩ (.int .i64 (xb : Nat))).heap[g]? = W4.heap[g]? := fun g h => Below.heap_setCell W4 ⟨y, 0, none⟩ (.int .i64 (xb : Nat)) g h
      have hsf : (W4.setCell ⟨y, 0, none⟩ (.int .i64 (xb : Nat))).heap.size = W4.heap.size := by simp [World.setCell]
      refine Lib.hid ⟨⟨⟨(hst l2 (by omega)).trans (X34.out.block l2 (by omega)), (hst D2 (by omega)).trans (X34.out.block D2 (by omega))⟩, ⟨B4.out.os, B4.out.tape, B4.out.output, by rw [hsf]; exact B4.out.size, fun k hk hn => (hst k hn).trans (B4.out.block k hk)⟩, ?_⟩, ⟨by rw [hsf]; exact hs4, fun k h1 hk _ => (hst k (by omega)).trans (X34.out.block k hk)⟩⟩
      rw [hzx]; exact K1.out.put 0 (.int .i64 (xb : Nat))
     clear hs4 hzx
     gi_wp2
     exact ⟨⟨GG.out.1.1, rfl, GG.out.1.2⟩, GG.out.2⟩
   case done =>
    rintro Dd G V5 g1 ⟨j1, j2, j3⟩ hD
    have := nxtO_end (a := a) (O := O) (fun i y hi => j3 i y (by rw [← HLR.out]; exact hi))
    rw [HNX.out] at this
    cases this
   case stop =>
    rintro Dd c k' V5 g1 ⟨rfl, j2, j3⟩ hD
    have hst : Hid (0 + 1 ≤ len ∧ (0 + 1 = len → z = 0) ∧ (0 < 0 + 1 → 0 + 1 < len → z ≠ 0) ∧ z = gH H ((0 + 1) % len)) := by
     refine Lib.hid ⟨hlt, fun h => ?_, fun _ h => ?_, HZ.out.symm⟩
     ·rw [← HZ.out, h, Nat.mod_self]; exact HH.out.zero
     ·rw [← HZ.out, Nat.mod_eq_of_lt h]; exact HH.out.nz _ (by omega) (by rw [HLN.out]; exact h)
    have F1 := Lib.hid (BB2.out.trans (j2.below (B := w.heap.size) BB2.out.size (fun k h => by omega)))
    have F2 := Lib.hid (j2.blk KS2.out (by omega))
    have F3 := Lib.hid j3
    have F4 : Hid (NL V5 (y + 1) (.slice ho2 (0 + 1) hc2) (H.take (0 + 1))) := Lib.hid (NL2.out.keep fun g hg => j2.block g (NL2.out.own hg).2 (by have := (NL2.out.own hg).1; omega))
    have F5 : Hid (Marks y V5 ({ target := .collected Dd, args := #[] } :: ds)) := Lib.hid ⟨⟨Dd, rfl, by omega, hD, fun d hd r hr => by have := HM2.out.lt d hd r hr; omega⟩, HM2.out.keep fun r h1 h2 => j2.block r h2 (by omega)⟩
    have hs5 := j2.size
    have hy5 : y + 1 ≤ V5.heap.size := by omega
    have hms : len - (0 + 1) < gk := by omega
    clear j2 j3 hD hT BB2 KS2 KA2 NL2 HM2 KC
    gi_wp2_with fail
    exact ⟨len - (0 + 1), hms, hJ _ _ _ ⟨_, _, _, _, _, _, _, _, _, _, _, _, _, _, _, _, _, _, _, _, _, _, _, _, _, _, _, _, _, _, _, _, _, _, _, _, _, _, _, _, _, _, _, _, _, _ , 0 + 1, ho2, hc2, z, ⟨hst.out.1, Nat.le_refl _, hst.out.2.1, hst.out.2.2.1, Lib.hid hst.out.2.2.2, F4, F1, F2, F3, hy5, F5⟩, rfl⟩⟩
  ·have hk1 : ¬ k = 0 := by omega
   have hk2 : ¬ a = 0 := han hk0 hlt
   have hk4 : ((k : Int) == 0) = false := by simp; omega
   have hk5 : ((a : Int) != 0) = true := by simp; omega
   have hk3 : (k : Int) < (N : Int) := by omega
   clear hk0
   have hq1 : (H.take k).length < 100000 := by rw [List.length_take]; omega
   have hq2 : y + 1 ≤ (wr.alloc (.cells #[.int .i64 (a : Nat)] 3)).heap.size := by simp; omega
   gi_wp2_with (gi_at_builtin; go_loud (refine wpListIn_append_nl rfl _ _ rfl (y + 1) (.slice ho k hc) (H.take k) a wr.heap.size rfl rfl (Blk.new wr _ _) (HNL.out.of (below_a1 _ _)) hq1 hq2 ?_))
   intro ho2 m2 hc2 V1 hm2 nl2 gr2
   have hva : (wr.alloc (.cells #[.int .i64 (a : Nat)] 3)).heap.size = wr.heap.size + 1 := by simp
   have hoy : ∀ g, (Value.slice ho k hc).ownBlock = some g → y + 1 ≤ g := fun g hg => (HNL.out.own hg).1
   have hV1 : ∀ g, g < wr.heap.size → (Value.slice ho k hc).ownBlock ≠ some g → V1.heap[g]? = wr.heap[g]? := fun g h1 h2 => (gr2.block g (by omega) (fun e => h2 e.symm)).trans ((below_a1 wr _).block g h1)
   have hss : wr.heap.size + 1 ≤ V1.heap.size := by have := gr2.size; omega
   have B1 : Below w.heap.size w V1 := HB.out.trans ⟨gr2.os, gr2.tape, gr2.output, by omega, fun g hg => hV1 g (by omega) (fun e => by have := hoy g e; omega)⟩
   have k0 : Blk V1 y0 #[ptr t 0] 25 := (hV1 y0 (by omega) (fun e => by have := hoy _ e; omega)).trans HK0.out
   have k1 : Blk V1 y #[.int .i64 (a : Nat)] 3 := (hV1 y (by omega) (fun e => by have := hoy _ e; omega)).trans HK1.out
   have hM1 : Marks y V1 ds := ((HM.out.keep fun r _ h2 => (below_a1 wr (.cells #[.int .i64 (a : Nat)] 3)).block r h2).grown (HNL.out.of (below_a1 wr _)) gr2)
   have hm3 : m2 = k + 1 := by first | (rw [hm2, List.length_take]; omega) | (have := HLN.out; omega)
   have nl3 : NL V1 (y + 1) (.slice ho2 (k + 1) hc2) (H.take (k + 1)) := by
    rw [gH_take (by rw [HLN.out]; exact hlt), ← hm3]
    have e : gH H k = a := by rw [HA.out, Nat.mod_eq_of_lt hlt]
    rw [e]; exact nl2
   subst hm3
   have BB := Lib.hid B1
   have K0 := Lib.hid k0
   have K1 := Lib.hid k1
   have HM1 := Lib.hid hM1
   have NL3 := Lib.hid nl3
   have hy1 : y + 1 ≤ V1.heap.size := by omega
   have d0 := k0.cell 0
   have d1 := k1.cell 0
   simp only [List.getElem?_toArray, List.getElem?_cons_zero] at d0 d1
   clear hva hoy hV1 hss B1 k0 k1 hM1 hm2 nl2 nl3 gr2 HNL HK0 HK1 HB HM b0 b1 c0 c1 c2 hq1 hq2
   gi_wp2_with fail
   refine ⟨trivial, callsIn_wide.2 ?_⟩
   refine (Around_is t a V1).mono ?_
   rintro e V2 ⟨rfl, kcs, kca, hb2⟩
   obtain ⟨cs, ecs⟩ : ∃ b, V1.heap.size = b := ⟨_, rfl⟩
   obtain ⟨ca, eca⟩ : ∃ b, V1.heap.size + 1 = b := ⟨_, rfl⟩
   have o3 : cs < ca := by omega
   have o4 : ca < V2.heap.size := by have := kca.lt; omega
   have o5 : y < cs := by omega
   have SM2 := Lib.hid (HS.out.of (BB.out.trans (hb2.mono BB.out.size)))
   have BB2 := Lib.hid (BB.out.trans (hb2.mono BB.out.size))
   have KS2 := Lib.hid (K0.out.of hb2)
   have KA2 := Lib.hid (K1.out.of hb2)
   have NL2 := Lib.hid (NL3.out.of hb2)
   have HM2 : Hid (Marks y V2 ds) := Lib.hid (HM1.out.keep fun r _ h2 => hb2.block r h2)
   have hy0w : y0 < V2.heap.size := by omega
   rw [eca] at kca ⊢
   rw [ecs] at kcs ⊢
   have KC := Lib.hid (And.intro kcs kca)
   clear kcs kca hb2 BB K0 K1 NL3 HM1 d0 d1 ecs eca
   gi_wp2_with fail
   obtain ⟨z, hz⟩ : ∃ z, gH H ((k + 1) % len) = z := ⟨_, rfl⟩
   have HZ := Lib.hid hz
   rw [hz] at HNX
   obtain ⟨lr, hlr⟩ : ∃ l, (O a).length = l := ⟨_, rfl⟩
   have HLR := Lib.hid hlr
   have hrow : rowO N O (a : Int) = O a := by unfold rowO; rw [if_pos (by omega)]; rfl
   have hT := Around1_tells cs ca t D N X Y O n a (O a) hrow (V2.heap.size + 2)
   rw [hlr] at hT
   clear hlr hrow hz
   refine wpIn_rangeX (m := 1) (gf := 67) (lb := #[ptr cs 0, ptr ca 0]) (N := lr) (encs := arE (O a)) (Kp := fun W => Blk W cs #[ptr t 0] 25 ∧ Blk W ca #[.int .i64 (a : Nat)] 3 ∧ SM W t D N X Y O n) rfl (fun args w => by go_simp) hT (fun _ => rfl)
    (fun G j W => (∀ g, ¬ G g) ∧ Below V2.heap.size V2 W ∧ ∀ i x, i < j → (O a)[i]? = some x → lookH (O x.1) (a : Nat) ≠ none)
    (fun c j W => c = .exit 1 ∧ Fr V2 W (fun b => b = y) ∧ Blk W y #[.int .i64 (z : Nat)] 3) ?hg ?stable ?xstable ?keeps ?start ?round ?done ?stop
   case hg => rintro G j W ⟨j1, _⟩ g hg; exact absurd hg (j1 g)
   case stable => rintro G j W W' ⟨j1, j2, j3⟩ ⟨hbl, _⟩; exact ⟨j1, j2.trans hbl, j3⟩
   case xstable =>
    rintro c j W W' ⟨j1, j2, j3⟩ hbl
    exact ⟨j1, j2.trans (S' := fun b => V2.heap.size ≤ b) ⟨hbl.os, hbl.tape, hbl.output, hbl.size, fun k _ hk => hbl.block k (by omega)⟩ (fun _ h => .inr h), j3.below hbl (by omega)⟩
   case keeps =>
    rintro G j W ⟨j1, j2, j3⟩
    exact ⟨KC.out.1.of j2, KC.out.2.of j2, SM2.out.of j2⟩
   case start => exact ⟨fun g h => h, Below.refl _ _, fun i x hi => by omega⟩
   case round =>
    rintro l2 D2 j G W2 hj ⟨j1, j2, j3⟩ g1 g2 g3 g4
    obtain ⟨x, hx⟩ : ∃ x, (O a)[j]? = some x := ⟨_, List.getElem?_eq_getElem (show j < (O a).length by rw [HLR.out]; exact hj)⟩
    have hE : arE (O a) j = #[.int .i64 x.1, .int .i64 x.2] := by unfold arE; rw [List.getD_eq_getElem?_getD, hx]; rfl
    rw [hE]
    obtain ⟨xb, xc⟩ := x
    have HX := Lib.hid hx
    have J1 := Lib.hid j1
    have J2 := Lib.hid j2
    have J3 := Lib.hid j3
    clear j1 j2 j3 hx hE hT
    gi_wp2_with fail
    refine ⟨⟨Fix2.of (OutL.refl [] _) g3 g4 (by simp) (by simp), AboveX.refl _ _ _⟩, ?_⟩
    intro W3 hW3
    have hs3 := hW3.size
    have B3 := Lib.hid (J2.out.trans (hW3.below (B := V2.heap.size) (by omega) (by simp; omega)))
    have q0 := (KS2.out.of B3.out).cell 0
    have q1 := (KA2.out.of B3.out).cell 0
    simp only [List.getElem?_toArray, List.getElem?_cons_zero] at q0 q1
    gi_wp2_with fail
    refine ⟨trivial, CallsIn.inRound l2 (callsIn_wide.2 ?_)⟩
    have hxd := (HS.out.dom a haN _ (List.mem_iff_getElem?.2 ⟨j, HX.out⟩)).1
    have hlo : leftO N O (xb : Int) (a : Int) = lookH (O xb) (a : Nat) := by unfold leftO; rw [if_pos (by simp only [] at hxd; omega)]; rfl
    obtain ⟨R, hR⟩ : ∃ R, lookH (O xb) (a : Nat) = R := ⟨_, rfl⟩
    have HR := Lib.hid hR
    refine (Left_is t D N X Y O n xb a W3 (SM2.out.of B3.out) R (hlo.trans hR)).mono ?_
    rintro e W4 ⟨rfl, hb4⟩
    have hs4 := hb4.size
    have B4 := Lib.hid (B3.out.trans (hb4.mono B3.out.size))
    have X34 := Lib.hid hb4
    have k1 := KA2.out.of B4.out
    have r1 := k1.cell 0
    have f1 := k1.free 0
    have l1 := k1.lt
    simp only [List.getElem?_toArray, List.getElem?_cons_zero] at r1
    have K1 := Lib.hid k1
    have hsz3 : V2.heap.size ≤ W3.heap.size := B3.out.size
    clear hxd hlo hR q0 q1 k1 hb4 B3
    cases R with
    | some c =>
     have GG : Hid ((Fix2 l2 D2 W3 W4 ∧ ∃ G' : Nat → Prop, (∀ g, G' g → G g ∨ W3.heap.size ≤ g) ∧ (∀ g, ¬ G' g) ∧ Below V2.heap.size V2 W4 ∧ ∀ i x, i < j + 1 → (O a)[i]? = some x → lookH (O x.1) (a : Nat) ≠ none) ∧ AboveX (V2.heap.size + 2) G W3 W4) := by
      refine Lib.hid ⟨⟨⟨X34.out.block l2 (by omega), X34.out.block D2 (by omega)⟩, fun _ => False, fun g h => h.elim, fun g h => h, B4.out, fun i x hi hx => ?_⟩, ⟨hs4, fun k _ hk _ => X34.out.block k hk⟩⟩
      rcases Nat.lt_or_ge i j with h | h
      ·exact J3.out i x h hx
      ·have : i = j := by omega
       subst this
       rw [HX.out] at hx
       injection hx with hx
       subst hx
       intro e
       have := HR.out
       rw [e] at this; cases this
     clear r1 f1 l1 hs4
     gi_wp2
     exact GG.out
    | none =>
     have hzx : z = xb := by
      have := nxtO_at HX.out J3.out HR.out
      rw [HNX.out] at this
      injection this
     have GG : Hid ((Fix2 l2 D2 W3 (W4.setCell ⟨y, 0, none⟩ (.int .i64 (xb : Nat))) ∧ Fr V2 (W4.setCell ⟨y, 0, none⟩ (.int .i64 (xb : Nat))) (fun b => b = y) ∧ Blk (W4.setCell ⟨y, 0, none⟩ (.int .i64 (xb : Nat))) y #[.int .i64 (z : Nat)] 3) ∧ AboveX (V2.heap.size + 2) G W3 (W4.setCell ⟨y, 0, none⟩ (.int .i64 (xb : Nat)))) := by
      have hst : ∀ g, g ≠ y → (W4.setCell ⟨y, 0, none⟩ (.int .i64 (xb : Nat))).heap[g]? = W4.heap[g]? := fun g h => Below.heap_setCell W4 ⟨y, 0, none⟩ (.int .i64 (xb : Nat)) g h
      have hsf : (W4.setCell ⟨y, 0, none⟩ (.int .i64 (xb : Nat))).heap.size = W4.heap.size := by simp [World.setCell]
      refine Lib.hid ⟨⟨⟨(hst l2 (by omega)).trans (X34.out.block l2 (by omega)), (hst D2 (by omega)).trans (X34.out.block D2 (by omega))⟩, ⟨B4.out.os, B4.out.tape, B4.out.output, by rw [hsf]; exact B4.out.size, fun k hk hn => (hst k hn).trans (B4.out.block k hk)⟩, ?_⟩, ⟨by rw [hsf]; exact hs4, fun k h1 hk _ => (hst k (by omega)).trans (X34.out.block k hk)⟩⟩
      rw [hzx]; exact K1.out.put 0 (.int .i64 (xb : Nat))
     clear hs4 hzx
     gi_wp2
     exact ⟨⟨GG.out.1.1, rfl, GG.out.1.2⟩, GG.out.2⟩
   case done =>
    rintro Dd G V5 g1 ⟨j1, j2, j3⟩ hD
    have := nxtO_end (a := a) (O := O) (fun i y hi => j3 i y (by rw [← HLR.out]; exact hi))
    rw [HNX.out] at this
    cases this
   case stop =>
    rintro Dd c k' V5 g1 ⟨rfl, j2, j3⟩ hD
    have hst : Hid (k + 1 ≤ len ∧ (k + 1 = len → z = 0) ∧ (0 < k + 1 → k + 1 < len → z ≠ 0) ∧ z = gH H ((k + 1) % len)) := by
     refine Lib.hid ⟨hlt, fun h => ?_, fun _ h => ?_, HZ.out.symm⟩
     ·rw [← HZ.out, h, Nat.mod_self]; exact HH.out.zero
     ·rw [← HZ.out, Nat.mod_eq_of_lt h]; exact HH.out.nz _ (by omega) (by rw [HLN.out]; exact h)
    have F1 := Lib.hid (BB2.out.trans (j2.below (B := w.heap.size) BB2.out.size (fun k h => by omega)))
    have F2 := Lib.hid (j2.blk KS2.out (by omega))
    have F3 := Lib.hid j3
    have F4 : Hid (NL V5 (y + 1) (.slice ho2 (k + 1) hc2) (H.take (k + 1))) := Lib.hid (NL2.out.keep fun g hg => j2.block g (NL2.out.own hg).2 (by have := (NL2.out.own hg).1; omega))
    have F5 : Hid (Marks y V5 ({ target := .collected Dd, args := #[] } :: ds)) := Lib.hid ⟨⟨Dd, rfl, by omega, hD, fun d hd r hr => by have := HM2.out.lt d hd r hr; omega⟩, HM2.out.keep fun r h1 h2 => j2.block r h2 (by omega)⟩
    have hs5 := j2.size
    have hy5 : y + 1 ≤ V5.heap.size := by omega
    have hms : len - (k + 1) < gk := by omega
    clear j2 j3 hD hT BB2 KS2 KA2 NL2 HM2 KC
    gi_wp2_with fail
    exact ⟨len - (k + 1), hms, hJ _ _ _ ⟨_, _, _, _, _, _, _, _, _, _, _, _, _, _, _, _, _, _, _, _, _, _, _, _, _, _, _, _, _, _, _, _, _, _, _, _, _, _, _, _, _, _, _, _, _, _ , k + 1, ho2, hc2, z, ⟨hst.out.1, Nat.le_refl _, hst.out.2.1, hst.out.2.2.1, Lib.hid hst.out.2.2.2, F4, F1, F2, F3, hy5, F5⟩, rfl⟩⟩
 ·have hke : k = len := by omega
  have haz := ha0 hke
  subst haz
  have hk1 : ¬ k = 0 := by omega
  have hk4 : ((k : Int) == 0) = false := by simp; omega
  have HF := Lib.hid (show NL wr (y + 1) (.slice ho k hc) H by
   have := HNL.out
   rw [List.take_of_length_le (by rw [HLN.out]; omega)] at this
   exact this)
  have hbs := HB.out.size
  clear HNL HK0 HK1 hke HA
  gi_wp2
  refine leaves_marks (B := w.heap.size) (by omega) (fun g => (Value.slice ho k hc).ownBlock = some g) ds wr (by omega) HM.out (fun d hd r hr => Marks.own HF.out HM.out d hd r hr) fun w' hb => ?_
  simp only [LeavesInM, LeavesIn]
  refine ⟨.slice ho k hc, by simp [results, Try.results13, go_sem], _, rfl, ?_, HB.out.trans hb.1⟩
  exact (HF.out.keep fun g hg => hb.2 g hg (HF.out.own hg).2).low2 (by omega)
end Go.Proofs.Ytdlpfiiakmhnlaa

namespace Go.Proofs.Ytdlpfiiakmhnlaa
open Go.RowKit

def fP (X Y : Nat → Int) (n : Nat) : List Value := (List.range n).flatMap fun i => [.int .i64 (X i), .int .i64 (Y i)]
theorem fP_succ (X Y : Nat → Int) (n : Nat) : fP X Y (n + 1) = fP X Y n ++ [.int .i64 (X n), .int .i64 (Y n)] := by unfold fP; rw [List.range_succ, List.flatMap_append]; rfl
theorem info_rp : (Try.prog.info? 51).map (fun i => (i.zero, i.size, i.bytes)) = some (some (.agg #[.int .i64 0, .int .i64 0]), 2, 16) := by kernel_rfl
set_option maxRecDepth 100000 in
set_option maxHeartbeats 4000000 in
theorem refs_is (ao : Option Addr) (N cap : Nat) (X Y : Nat → Int) (w : World) (h : Pts w ao N cap X Y) (hN : N ≤ 4096) :
    Calls Try.prog 15 #[.slice ao N cap] w fun e w' => ∃ v, e = .returned v ∧ w'.ownsRow w.heap.size 51 2 v N (fP X Y N) ∧ Below w.heap.size w w' := by
 have hcl := h.capl
 have hcb := h.capb
 have HO := Lib.hid h
 clear h
 obtain ⟨i0, hi, hz0, hz1, hz2⟩ := info_parts info_rp
 go_enter Try.func15, Try.ntmps15
 go_wp2_with fail
 go_loopg [3, 8] N (fun gk s3 s8 wr => ∃ k : Nat, s8 = .int .i64 k ∧ k ≤ N ∧ N - k ≤ gk ∧ Hid (wr.ownsRow w.heap.size 51 2 s3 k (fP X Y k)) ∧ Hid (Below w.heap.size w wr))
 case atStart => exact ⟨0, rfl, Nat.zero_le _, by omega, Lib.hid ⟨rfl, .inl ⟨rfl, rfl⟩⟩, Lib.hid (Below.refl _ _)⟩
 case round =>
  obtain ⟨k, rfl, hk, hgk, HR, HW⟩ := hrel
  by_cases hlt : k < N
  ·obtain ⟨pa, rfl, p0, p1⟩ := HO.out.at HW.out hlt
   have HX := Lib.hid (fP_succ X Y k)
   obtain ⟨px, hpx⟩ : ∃ x, X k = x := ⟨_, rfl⟩
   obtain ⟨py, hpy⟩ : ∃ x, Y k = x := ⟨_, rfl⟩
   rw [hpx] at p0 HX
   rw [hpy] at p1 HX
   have hz := HW.out.size
   obtain ⟨v, hv⟩ : ∃ v, v = u3 := ⟨_, rfl⟩
   have hown := own_belowT (own_belowT HR.out (below_a1 wr (.cells #[.int .i64 px, .int .i64 py] 41))) (below_a1 _ (.cells #[.int .i64 px, .int .i64 py] 51))
   clear hpx hpy
   go_wp2_with (at_builtin; go_loud (refine wpList_append_own _ rfl _ _ 32 rfl w.heap.size 51 i0 (.agg #[.int .i64 0, .int .i64 0]) 2 16 Try.underlying32 hi hz0 hz1 hz2 rfl (by decide) u3 k (fP X Y k) rfl hown ⟨wr.heap.size + 1, 0, none⟩ 1 1 [.int .i64 px, .int .i64 py] rfl rfl ?c1 ?c2 ?c3 ?c4 ?c5 ?_))
   case c1 =>
    intro j u hj
    match j, hj with
    | 0, hj => simp at hj; subst hj; exact (Blk.new1 wr _ _ _).cell 0
    | 1, hj => simp at hj; subst hj; exact (Blk.new1 wr _ _ _).cell 1
    | j + 2, hj => simp at hj
   case c2 => intro u hu; simp at hu; rcases hu with rfl | rfl <;> rfl
   case c3 => unfold maxLen; omega
   case c4 => omega
   case c5 => simp; omega
   intro v1 w1 own1 gr1 _
   rw [← HX.out] at own1
   have OW := Lib.hid own1
   have hb1 : Below w.heap.size wr w1 := ((below_a2 wr _ _).mono hz).grown gr1 (by simp; omega) fun g hg => (World.ownsRow.lt hown g hg).1
   have HW2 := Lib.hid (HW.out.trans hb1)
   clear own1 gr1 hb1 hown p0 p1 HR HW
   go_wp2_with fail
   go_roundg (N - (k + 1))
   case measure => omega
   case rel => exact ⟨k + 1, by norm_cast, by omega, Nat.le_refl _, OW, HW2⟩
  ·go_wp2
   simp [bodyPost, results, Try.results15, go_sem]
   have e : k = N := by omega
   rw [e] at HR
   exact ⟨HR.out, HW.out⟩
end Go.Proofs.Ytdlpfiiakmhnlaa

namespace Go.Proofs.Ytdlpfiiakmhnlaa
open Go.RowKit

theorem rWy_is (ax ay bx b_y cx cy r : Int) (h : way ax ay bx b_y cx cy = r) (w : World) :
    Calls Try.prog 46 #[pI ax ay, pI bx b_y, pI cx cy] w fun e w' => e = .returned (.int .i64 r) ∧ Below w.heap.size w w' := h ▸ Way_any ax ay bx b_y cx cy w
theorem rOnB_is (ax ay bx b_y cx cy : Int) (r : Bool) (h : onB ax ay bx b_y cx cy = r) (w : World) :
    Calls Try.prog 47 #[pI ax ay, pI bx b_y, pI cx cy] w fun e w' => e = .returned (.bool r) ∧ Below w.heap.size w w' := h ▸ rOn_any ax ay bx b_y cx cy w
/-- reference points as points -/
theorem Pts.ofRow {w : World} {base n : Nat} {v : Value} {X Y : Nat → Int} (h : w.ownsRow base 51 2 v n (fP X Y n)) : ∃ ao cap, v = .slice ao n cap ∧ Pts w ao n cap X Y := by
  rcases h.2 with ⟨rfl, hn⟩ | ⟨g, cap, cur, rfl, hb, hg, h1, h2, h3, h4⟩
  · exact ⟨none, 0, by rw [hn], fun h0 => by omega, by omega, by omega⟩
  · refine ⟨_, cap, rfl, fun h0 => ⟨⟨g, 0, none⟩, rfl, (Array.getElem?_eq_some_iff.1 hg).1, fun i hi => ?_⟩, h1, by unfold maxLen at h2; omega⟩
    have hf : ∀ m i, i < m → (fP X Y m)[i * 2]? = some (.int .i64 (X i)) ∧ (fP X Y m)[i * 2 + 1]? = some (.int .i64 (Y i)) := by
      intro m
      induction m with
      | zero => intro i hi; omega
      | succ m ih =>
        intro i hi
        have hl : (fP X Y m).length = m * 2 := by
          clear ih hi h3 h4
          induction m with
          | zero => rfl
          | succ m ih => rw [fP_succ, List.length_append, ih]; show m * 2 + 2 = _; omega
        rw [fP_succ]
        rcases Nat.lt_or_ge i m with h5 | h5
        · rw [List.getElem?_append_left (by omega), List.getElem?_append_left (by omega)]
          exact ih i h5
        · obtain rfl : i = m := by omega
          rw [List.getElem?_append_right (by omega), List.getElem?_append_right (by omega), hl, Nat.sub_self, show i * 2 + 1 - i * 2 = 1 by omega]
          exact ⟨rfl, rfl⟩
    obtain ⟨f0, f1⟩ := hf n i hi
    have c : ∀ k u, k < n * 2 → (fP X Y n)[k]? = some u → w.cell? ⟨g, k, none⟩ = some u := fun k u hk hu => by
      rw [cell_row hg, ← Array.getElem?_toList]
      rw [← h4, List.getElem?_take_of_lt hk] at hu
      exact hu
    have e : (⟨g, 0, none⟩ : Addr).add (i * 2) = ⟨g, i * 2, none⟩ := by unfold Addr.add; split <;> simp_all
    rw [e]
    exact ⟨c (i * 2) _ (by omega) f0, c (i * 2 + 1) _ (by omega) f1⟩
set_option maxRecDepth 100000 in
set_option maxHeartbeats 2000000 in
theorem Flat_is (ao : Option Addr) (N cap : Nat) (X Y : Nat → Int) (w : World) (h : Pts w ao N cap X Y) (hN : N ≤ 4096) :
    Calls Try.prog 14 #[.slice ao N cap] w fun e w' => ∃ b, e = .returned (.bool b) ∧ (b = true ↔ ∀ i, 2 ≤ i → i < N → wy X Y 0 1 i = 0) ∧ Below w.heap.size w w' := by
 have hcl := h.capl
 have hcb := h.capb
 have HO := Lib.hid h
 clear h
 go_enter Try.func14, Try.ntmps14
 go_wp2_with fail
 go_loopg [3] N (fun gk s3 wr => ∃ k : Nat, s3 = .int .i64 k ∧ 2 ≤ k ∧ N - k ≤ gk ∧ Hid (∀ i, 2 ≤ i → i < k → i < N → wy X Y 0 1 i = 0) ∧ Below w.heap.size w wr)
 case atStart => exact ⟨2, rfl, Nat.le_refl _, by omega, Lib.hid (fun i h1 h2 => by omega), Below.refl _ _⟩
 case round =>
  obtain ⟨k, rfl, h2, hg, HL, hb⟩ := hrel
  by_cases hlt : k < N
  ·obtain ⟨pa, rfl, hpt⟩ := (HO.out.of hb).atP (by omega)
   have qa := hpt 0 (by omega)
   have qb := hpt 1 (by omega)
   have qc := hpt k hlt
   obtain ⟨ax, hax⟩ : ∃ x, X 0 = x := ⟨_, rfl⟩
   obtain ⟨ay, hay⟩ : ∃ x, Y 0 = x := ⟨_, rfl⟩
   obtain ⟨bx, hbx⟩ : ∃ x, X 1 = x := ⟨_, rfl⟩
   obtain ⟨b_y, hby⟩ : ∃ x, Y 1 = x := ⟨_, rfl⟩
   obtain ⟨cx, hcx⟩ : ∃ x, X k = x := ⟨_, rfl⟩
   obtain ⟨cy, hcy⟩ : ∃ x, Y k = x := ⟨_, rfl⟩
   obtain ⟨r, hr⟩ : ∃ r, wy X Y 0 1 k = r := ⟨_, rfl⟩
   have hr3 : r = -1 ∨ r = 0 ∨ r = 1 := by rw [← hr]; exact wy_cases _ _ _ _ _
   have hw : way ax ay bx b_y cx cy = r := by rw [← hax, ← hay, ← hbx, ← hby, ← hcx, ← hcy]; exact hr
   rw [hax, hay] at qa
   rw [hbx, hby] at qb
   rw [hcx, hcy] at qc
   have e0 : pa.add (0 * 2) = pa := by unfold Addr.add; simp
   simp only [e0] at qa
   have e1 : pa.add (1 * 2) = { block := pa.block, off := pa.off + 2 } := rfl
   simp only [e1] at qb
   clear e0 e1
   have qa0 := fun u => (qa u).1
   have qa1 := fun u => (qa u).2
   have qb0 := fun u => (qb u).1
   have qb1 := fun u => (qb u).2
   have qc0 := fun u => (qc u).1
   have qc1 := fun u => (qc u).2
   have HW := Lib.hid hw
   have HR := Lib.hid hr
   clear hax hay hbx hby hcx hcy hpt qa qb qc hr hw
   have hbk := hb
   go_wp2_with fail
   refine wp_region_up wr.heap.size 10 [(true, 0), (true, 1), (true, 2), (true, 3), (true, 4), (true, 5), (true, 6), (true, 7), (true, 8), (true, 9)] (by kernel_rfl) (by kernel_rfl) (fun _ _ d _ _ h => by cases d <;> exact h) ?_
   have hb : Below wr.heap.size wr wr.drew := (Below.refl _ _).drew
   iterate 10
    refine wpS_takeL rfl rfl ?_
    go_big_quiet_step (rfl)
    refine wpQuiet_nil ?_
   refine wpS_nil ?_
   simp only [List.drop_succ_cons, List.drop_zero]
   go_wp2_with fail
   refine (rWy_is ax ay bx b_y cx cy r HW.out _).mono ?_
   rintro e w2 ⟨rfl, hn⟩
   have hb2 := (hbk.trans (hb.mono hbk.size)).trans (hn.mono (hbk.trans (hb.mono hbk.size)).size)
   clear hn hb hbk qa0 qa1 qb0 qb1 qc0 qc1
   rcases (show r = 0 ∨ (r = -1 ∨ r = 1) by omega) with rfl | hr1
   ·go_wp2_with fail
    go_roundg (N - (k + 1))
    case measure => omega
    case rel =>
     refine ⟨k + 1, by norm_cast, by omega, Nat.le_refl _, Lib.hid (fun i h1 h3 h4 => ?_), hb2⟩
     by_cases e : i = k
     ·subst e; exact HR.out
     ·exact HL.out i h1 (by omega) h4
   ·have hne : (r == 0) = false := by rcases hr1 with rfl | rfl <;> decide
    go_wp2
    simp [bodyPost, results, Try.results14, go_sem]
    refine ⟨⟨k, h2, hlt, ?_⟩, hb2⟩
    rw [HR.out]
    omega
  ·go_wp2
   simp [bodyPost, results, Try.results14, go_sem]
   exact ⟨fun i h1 h3 => HL.out i h1 (by omega) h3, hb⟩
end Go.Proofs.Ytdlpfiiakmhnlaa

namespace Go.Proofs.Ytdlpfiiakmhnlaa
open Go.RowKit

/-- what one point says to a way -/
def goodR (X Y : Nat → Int) (a i k : Nat) : Prop := ¬ wy X Y a i k < 0 ∧ (wy X Y a i k = 0 → k ≠ a → k ≠ i → onB (X a) (Y a) (X i) (Y i) (X k) (Y k) = false)
structure RC (N : Nat) (X Y : Nat → Int) (H : List Nat) : Prop where
  pos : 0 < H.length
  len : H.length ≤ N
  zero : gH H 0 = 0
  nz : ∀ i, 0 < i → i < H.length → gH H i ≠ 0
  lt : ∀ i, i < H.length → gH H i < N
  nxt : ∀ i, i < H.length → ∀ k, k < N → k ≠ gH H i → ((∀ j, j < N → goodR X Y (gH H i) k j) ↔ k = gH H ((i + 1) % H.length))
  ne : ∀ i, i < H.length → gH H ((i + 1) % H.length) ≠ gH H i
end Go.Proofs.Ytdlpfiiakmhnlaa

namespace Go.Proofs.Ytdlpfiiakmhnlaa
open Go.RowKit

theorem mul_le_pos {d x y : Int} (hd : 0 < d) (h : d * x ≤ d * y) : x ≤ y := by
  rcases Int.lt_or_le y x with h1 | h1
  · have := Int.mul_lt_mul_of_pos_left h1 hd; omega
  · exact h1
theorem mul_eq_pos {d x y : Int} (hd : 0 < d) (h : d * x = d * y) : x = y := Int.le_antisymm (mul_le_pos hd (by omega)) (mul_le_pos hd (by omega))
/-- on one line: in the box is between, left to right -/
theorem box_up {ax ay bx b_y px py : Int} (h1 : -2199023255552 ≤ ay) (h2 : ay ≤ 2199023255552) (h3 : -2199023255552 ≤ b_y) (h4 : b_y ≤ 2199023255552) (h5 : -2199023255552 ≤ py) (h6 : py ≤ 2199023255552) (hx : ax < bx)
    (ht : (bx - ax) * (py - ay) = (b_y - ay) * (px - ax)) :
    (btw ax bx px = true ∧ btw ay b_y py = true) ↔ 4398046511105 * ax + ay ≤ 4398046511105 * px + py ∧ 4398046511105 * px + py ≤ 4398046511105 * bx + b_y := by
  obtain ⟨d, hd⟩ : ∃ d, bx - ax = d := ⟨_, rfl⟩
  obtain ⟨e, he⟩ : ∃ e, b_y - ay = e := ⟨_, rfl⟩
  obtain ⟨u, hu⟩ : ∃ u, px - ax = u := ⟨_, rfl⟩
  obtain ⟨v, hv⟩ : ∃ v, py - ay = v := ⟨_, rfl⟩
  rw [hd, he, hu, hv] at ht
  have d0 : 0 < d := by omega
  unfold btw
  simp only [Bool.and_eq_true, decide_eq_true_eq]
  constructor
  · rintro ⟨⟨k1, k2⟩, k3, k4⟩
    have u0 : 0 ≤ u := by omega
    have u1 : u ≤ d := by omega
    constructor
    · rcases Int.lt_or_eq_of_le u0 with h | h
      · omega
      · rw [← h, Int.mul_zero] at ht
        have := g_zero_of (by omega) ht
        omega
    · rcases Int.lt_or_eq_of_le u1 with h | h
      · omega
      · rw [h, Int.mul_comm e d] at ht
        have := mul_eq_pos d0 ht
        omega
  · rintro ⟨k1, k2⟩
    have u0 : 0 ≤ u := by omega
    have u1 : u ≤ d := by omega
    refine ⟨⟨by omega, by omega⟩, ?_⟩
    rcases Int.lt_or_le e 0 with he0 | he0
    · have a1 : e * u ≤ 0 := by have := Int.mul_nonneg (show 0 ≤ -e by omega) u0; rw [Int.neg_mul] at this; omega
      have a2 : e * d ≤ e * u := by have := Int.mul_le_mul_of_nonneg_left u1 (show 0 ≤ -e by omega); rw [Int.neg_mul, Int.neg_mul] at this; omega
      have v0 : v ≤ 0 := mul_le_pos d0 (by omega)
      have v1 : e ≤ v := mul_le_pos d0 (by rw [Int.mul_comm d e]; omega)
      omega
    · have a1 : 0 ≤ e * u := Int.mul_nonneg he0 u0
      have a2 : e * u ≤ e * d := Int.mul_le_mul_of_nonneg_left u1 he0
      have v0 : 0 ≤ v := mul_le_pos d0 (by omega)
      have v1 : v ≤ e := mul_le_pos d0 (by rw [Int.mul_comm d e]; omega)
      omega
theorem btw_swap (a b n : Int) : btw a b n = btw b a n := by unfold btw; rw [Int.min_comm, Int.max_comm]
theorem box_lex {ax ay bx b_y px py : Int} (h1 : -2199023255552 ≤ ay) (h2 : ay ≤ 2199023255552) (h3 : -2199023255552 ≤ b_y) (h4 : b_y ≤ 2199023255552) (h5 : -2199023255552 ≤ py) (h6 : py ≤ 2199023255552) (hne : ¬ (ax = bx ∧ ay = b_y))
    (ht : trn ax ay bx b_y px py = 0) :
    (btw ax bx px = true ∧ btw ay b_y py = true) ↔ (4398046511105 * ax + ay ≤ 4398046511105 * px + py ∧ 4398046511105 * px + py ≤ 4398046511105 * bx + b_y) ∨ (4398046511105 * bx + b_y ≤ 4398046511105 * px + py ∧ 4398046511105 * px + py ≤ 4398046511105 * ax + ay) := by
  unfold trn at ht
  rcases Int.lt_trichotomy ax bx with h | h | h
  · rw [box_up h1 h2 h3 h4 h5 h6 h (by omega)]
    constructor
    · exact .inl
    · rintro (k | k)
      · exact k
      · omega
  · subst h
    rw [Int.sub_self, Int.zero_mul, Int.zero_sub] at ht
    have e0 : b_y - ay ≠ 0 := by omega
    have := g_zero_of e0 (show (b_y - ay) * (px - ax) = 0 by omega)
    have hp : px = ax := by omega
    subst hp
    unfold btw
    simp only [Bool.and_eq_true, decide_eq_true_eq]
    omega
  · have := box_up h3 h4 h1 h2 h5 h6 h (px := px) (by
      have e : (bx - ax) * (py - ay) - (b_y - ay) * (px - ax) = -((ax - bx) * (py - b_y) - (ay - b_y) * (px - bx)) := by grind
      omega)
    rw [btw_swap ax bx, btw_swap ay b_y, this]
    constructor
    · exact .inr
    · rintro (k | k)
      · omega
      · exact k
theorem allC_co {n : Nat} {X Y : Nat → Int} (h : allC n X Y = true) {i : Nat} (hi : i < n) : Co (X i) ∧ Co (Y i) := rp_co (allC_rpT h hi)
theorem gT_trn (X Y : Nat → Int) (a b c : Nat) : trn (X a) (Y a) (X b) (Y b) (X c) (Y c) = gT X Y a b c := rfl
theorem sX_mono {N : Nat} {X Y : Nat → Int} (hR : gRis (sX X Y) N) {i j : Nat} (hi : i < N) (hj : j < N) : sX X Y i ≤ sX X Y j ↔ i ≤ j := by
  constructor
  · intro h
    rcases Nat.lt_or_ge j i with h1 | h1
    · have := hR j i h1 hi; omega
    · exact h1
  · intro h
    rcases Nat.lt_or_ge i j with h1 | h1
    · have := hR i j h1 hj; omega
    · rw [show i = j by omega]; exact Int.le_refl _
/-- lies on: on one line, between -/
theorem onB_iff {N : Nat} {X Y : Nat → Int} (hg : allC N X Y = true) (hr : risC N X Y) {a b k : Nat} (ha : a < N) (hb : b < N) (hk : k < N) (hne : a ≠ b) (ht : gT X Y a b k = 0) :
    onB (X a) (Y a) (X b) (Y b) (X k) (Y k) = true ↔ (a ≤ k ∧ k ≤ b) ∨ (b ≤ k ∧ k ≤ a) := by
  have hR := sX_ris hg hr
  obtain ⟨_, c1, c2⟩ := allC_co hg ha
  obtain ⟨_, c3, c4⟩ := allC_co hg hb
  obtain ⟨_, c5, c6⟩ := allC_co hg hk
  have hxy : ¬ (X a = X b ∧ Y a = Y b) := by
    rintro ⟨e1, e2⟩
    have e : sX X Y a = sX X Y b := by unfold sX; rw [e1, e2]
    have h1 := (sX_mono hR ha hb).1 (by omega)
    have h2 := (sX_mono hR hb ha).1 (by omega)
    omega
  have h := box_lex c1 c2 c3 c4 c5 c6 hxy (show trn (X a) (Y a) (X b) (Y b) (X k) (Y k) = 0 from ht)
  have m1 := sX_mono hR ha hk
  have m2 := sX_mono hR hk hb
  have m3 := sX_mono hR hb hk
  have m4 := sX_mono hR hk ha
  unfold sX at m1 m2 m3 m4
  rw [m1, m2, m3, m4] at h
  rw [← h]
  have g : rp3 (X a) (Y a) (X b) (Y b) (X k) (Y k) = true := by
    unfold rp3
    rw [allC_rpT hg ha, allC_rpT hg hb, allC_rpT hg hk]; rfl
  unfold onB
  rw [g, show trn (X a) (Y a) (X b) (Y b) (X k) (Y k) = 0 from ht]
  simp
theorem goodR_iff {N : Nat} {X Y : Nat → Int} (hg : allC N X Y = true) (hr : risC N X Y) {a b : Nat} (ha : a < N) (hb : b < N) (hne : a ≠ b) : (∀ k, k < N → goodR X Y a b k) ↔ gE (sX X Y) Y (N - 1) a b := by
  constructor
  · intro h k hk
    have hkN : k < N := by omega
    obtain ⟨h1, h2⟩ := h k hkN
    obtain ⟨s1, s2⟩ := wy_gT hg a b k ha hb hkN
    refine ⟨by have := mt s1.2 h1; omega, fun h0 => ?_⟩
    have h3 := h2 (s2.2 h0)
    have h0' : gT X Y a b k = 0 := by rw [sX_T] at h0; omega
    have ho := onB_iff hg hr ha hb hkN hne h0'
    constructor
    · rintro ⟨k1, k2⟩
      have := h3 (by omega) (by omega)
      rw [ho.2 (.inl ⟨by omega, by omega⟩)] at this; cases this
    · rintro ⟨k1, k2⟩
      have := h3 (by omega) (by omega)
      rw [ho.2 (.inr ⟨by omega, by omega⟩)] at this; cases this
  · intro h k hkN
    obtain ⟨h1, h2⟩ := h k (by omega)
    obtain ⟨s1, s2⟩ := wy_gT hg a b k ha hb hkN
    refine ⟨fun e => by have := s1.1 e; omega, fun h0 k1 k2 => ?_⟩
    have h3 := h2 (s2.1 h0)
    have h0' : gT X Y a b k = 0 := by have := s2.1 h0; rw [sX_T] at this; omega
    have ho := onB_iff hg hr ha hb hkN hne h0'
    cases hb' : onB (X a) (Y a) (X b) (Y b) (X k) (Y k) with
    | false => rfl
    | true => rcases ho.1 hb' with c | c <;> omega
/-- from one point on there is one way around alone -/
theorem gE_one {X Y : Nat → Int} {N a b c q : Nat} (hX : gRis X N) (hN : 1 < N) (ha : a < N) (hb : b < N) (hc : c < N) (hq : q < N) (nb : a ≠ b) (nc : a ≠ c) (hf : gT X Y 0 1 q ≠ 0) (h1 : gE X Y (N - 1) a b) (h2 : gE X Y (N - 1) a c) : b = c := by
  refine Classical.byContradiction fun hne => ?_
  have z0 : gT X Y a b c = 0 := by
    have k1 := (h1 c (by omega)).1
    have k2 := (h2 b (by omega)).1
    have e : gT X Y a c b = -gT X Y a b c := by unfold gT; grind
    omega
  have z1 : gT X Y a c b = 0 := by
    have e : gT X Y a c b = -gT X Y a b c := by unfold gT; grind
    omega
  have s1 := (h1 c (by omega)).2 z0
  have s2 := (h2 b (by omega)).2 z1
  have opp : (b < a ∧ a < c) ∨ (c < a ∧ a < b) := by omega
  have par : ∀ k, (X b - X a) * gT X Y a c k = (X c - X a) * gT X Y a b k := fun k => by
    have e := gT_xab (X := X) (Y := Y) a b c k
    have e2 : gT X Y a k b = -gT X Y a b k := by unfold gT; grind
    rw [z0, e2] at e
    have e3 : (X c - X a) * -gT X Y a b k = -((X c - X a) * gT X Y a b k) := Int.mul_neg _ _
    rw [e3, Int.mul_zero] at e
    omega
  have all0 : ∀ k, k < N → gT X Y a b k = 0 := fun k hk => by
    have k1 := (h1 k (by omega)).1
    have k2 := (h2 k (by omega)).1
    have p := par k
    rcases opp with ⟨o1, o2⟩ | ⟨o1, o2⟩
    · have x1 := hX b a o1 ha
      have x2 := hX a c o2 hc
      have l1 : (X b - X a) * gT X Y a c k ≤ 0 := by
        have := Int.mul_nonneg (show 0 ≤ X a - X b by omega) k2
        have e : (X b - X a) * gT X Y a c k = -((X a - X b) * gT X Y a c k) := by grind
        omega
      have l2 := Int.mul_nonneg (show 0 ≤ X c - X a by omega) k1
      exact g_zero_of (show X c - X a ≠ 0 by omega) (by omega)
    · have x1 := hX c a o1 ha
      have x2 := hX a b o2 hb
      have l1 := Int.mul_nonneg (show 0 ≤ X b - X a by omega) k2
      have l2 : (X c - X a) * gT X Y a b k ≤ 0 := by
        have := Int.mul_nonneg (show 0 ≤ X a - X c by omega) k1
        have e : (X c - X a) * gT X Y a b k = -((X a - X c) * gT X Y a b k) := by grind
        omega
      exact g_zero_of (show X c - X a ≠ 0 by omega) (by omega)
  have e := gT_line (X := X) (Y := Y) a b 0 1 q
  rw [all0 0 (by omega), all0 1 hN, all0 q hq] at e
  have xb : X b - X a ≠ 0 := by
    rcases Nat.lt_or_gt_of_ne nb with h | h
    · have := hX a b h hb; omega
    · have := hX b a h ha; omega
  refine hf (g_zero_of xb ?_)
  rw [Int.mul_comm]; rw [e]; simp
theorem rc_of {N q : Nat} {X Y : Nat → Int} (hg : allC N X Y = true) (hr : risC N X Y) (hl : isLn N X Y q) (hq : q < N) {h : List Nat} {z : Nat} (H : Hul (sX X Y) Y (N - 1) h) (hz : z < h.length) (hz0 : gH h z = 0) (hln : h.length ≤ N) : RC N X Y (rotH h z) := by
  have h3 := H.len
  have h2 : 2 ≤ q := by have := hl.1; omega
  have ml : ∀ k, k % h.length < h.length := fun k => Nat.mod_lt _ (by omega)
  have hlen := rotH_len h z
  have hX := sX_ris hg hr
  have hf : gT (sX X Y) Y 0 1 q ≠ 0 := fun e => hl.2.2.2 hq ((wy_gT hg 0 1 q (by omega) (by omega) hq).2.2 e)
  have hle : ∀ i, i < h.length → gH h i < N := fun i hi => by have := H.le i hi; omega
  have nx : ∀ i, i < h.length → gH (rotH h z) ((i + 1) % h.length) = gH h (((z + i) % h.length + 1) % h.length) := fun i hi => by
    rw [rotH_at (ml _), Nat.add_mod_mod, Nat.mod_add_mod, show z + (i + 1) = z + i + 1 by omega]
  have nne : ∀ i, i < h.length → gH h ((i + 1) % h.length) ≠ gH h i := fun i hi e => (pred_ne hi h3).2.1 (H.nd _ _ (ml _) hi e)
  refine ⟨by omega, by omega, ?_, fun i h0 hi => ?_, fun i hi => ?_, fun i hi k hk hne => ?_, fun i hi => ?_⟩
  · rw [rotH_at (by omega), Nat.add_zero, Nat.mod_eq_of_lt hz, hz0]
  · rw [hlen] at hi
    rw [rotH_at hi]
    intro e
    have := H.nd _ _ (ml _) hz (e.trans hz0.symm)
    have h5 : i = 0 := g_mod_inj (f := z) hi (by omega) (by rw [this, Nat.add_zero, Nat.mod_eq_of_lt hz])
    omega
  · rw [hlen] at hi
    rw [rotH_at hi]
    exact hle _ (ml _)
  · rw [hlen] at hi ⊢
    rw [nx i hi]
    rw [rotH_at hi] at hne ⊢
    have e0 := H.edge _ (ml (z + i))
    have n0 := nne _ (ml (z + i))
    have l0 := hle _ (ml (z + i))
    have l1 := hle _ (ml ((z + i) % h.length + 1))
    rw [goodR_iff hg hr l0 hk hne.symm]
    constructor
    · intro h5
      exact gE_one hX (by omega) l0 hk l1 hq hne.symm n0.symm hf h5 e0
    · intro h5; rw [h5]; exact e0
  · rw [hlen] at hi ⊢
    rw [nx i hi, rotH_at hi]
    exact nne _ (ml _)
end Go.Proofs.Ytdlpfiiakmhnlaa

namespace Go.Proofs.Ytdlpfiiakmhnlaa
open Go.RowKit

/-- what Build makes of points -/
structure Tri (N : Nat) (X Y : Nat → Int) (q : Nat) (T : List Tri3) (O : Nat → List (Nat × Nat)) : Prop where
  ln : isLn N X Y q
  none : q = N → T = []
  some : q < N → ∃ h z, T = (bld X Y q (N - 1 - q)).2 ∧ h = (bld X Y q (N - 1 - q)).1 ∧ Hul (sX X Y) Y (N - 1) h ∧ Bnd (N - 1) h T ∧ Brd h T ∧ z < h.length ∧ gH h z = 0 ∧ HC N O (rotH h z) ∧ RC N X Y (rotH h z)
  fresh : Fresh N (fun _ _ => False) T
  rep : RepS O (gSd T)
  all : O = putAll (fun _ => []) T
theorem Tri.of {N q : Nat} {X Y : Nat → Int} (hg : allC N X Y = true) (hr : risC N X Y) (hl : isLn N X Y q) : Tri N X Y q (bldT N X Y q) (putAll (fun _ => []) (bldT N X Y q)) := by
  have fr : Fresh N (fun _ _ => False) (bldT N X Y q) := by
    unfold bldT
    split
    · trivial
    · have := hl.2.1; exact (bld_st hg hr hl (by omega) _ (by omega)).2.2
  have rp : RepS (putAll (fun _ => []) (bldT N X Y q)) (gSd (bldT N X Y q)) := rep_cong (rep_all _ rep_none fr) fun a b => ⟨fun h => h.elim False.elim id, .inr⟩
  refine ⟨hl, fun e => ?_, fun hq => ?_, fr, rp, rfl⟩
  · unfold bldT; rw [if_pos e]
  · have e : bldT N X Y q = (bld X Y q (N - 1 - q)).2 := by unfold bldT; rw [if_neg (by omega)]
    have em : q + (N - 1 - q) = N - 1 := by omega
    obtain ⟨H, B, _⟩ := bld_st hg hr hl hq (N - 1 - q) (by omega)
    have R := bld_brd hg hr hl hq (N - 1 - q) (by omega)
    rw [em] at H B
    rw [← e] at B R
    obtain ⟨z, z1, z2, z3⟩ := hc_of (N := N) H B R rp (by omega)
    exact ⟨_, z, e, rfl, H, B, R, z1, z2, z3, rc_of hg hr hl hq H z1 z2 (by have := B.hln; omega)⟩
theorem Build_tri (ao : Option Addr) (N cap : Nat) (X Y : Nat → Int) (w : World) (h : Pts w ao N cap X Y) (hN : N ≤ 4096) (hg : allC N X Y = true) (hr : risC N X Y) :
    Calls Try.prog 12 #[.slice ao N cap] w fun e w' => ∃ (t : Nat) (D : SD) (q : Nat) (T : List Tri3) (O : Nat → List (Nat × Nat)), e = .returned (.tuple #[ptr t 0, .int .i64 0]) ∧ Tri N X Y q T O ∧
      SM w' t D N X Y O (T.length : Nat) ∧ (∀ g, D.has t N g → w.heap.size ≤ g) ∧ Below w.heap.size w w' := by
  refine (Build_is ao N cap X Y w h hN hg hr).mono ?_
  rintro e w' ⟨t, D, q, he, hl, hs, h1, h2⟩
  exact ⟨t, D, q, _, _, he, Tri.of hg hr hl, hs, h1, h2⟩
/-- a block of whole points -/
theorem Pts.ofBlk {w : World} {b n : Nat} {c : Array Value} {X Y : Nat → Int} {ty : TypeId} (h : Blk w b c ty) (hn : n ≤ 9223372036854775807) (hc : ∀ i, i < n → c[i * 2]? = some (.int .i64 (X i)) ∧ c[i * 2 + 1]? = some (.int .i64 (Y i))) : Pts w (some ⟨b, 0, none⟩) n n X Y := by
  refine ⟨fun h0 => ⟨_, rfl, h.lt, fun i hi => ?_⟩, Nat.le_refl _, hn⟩
  obtain ⟨h1, h2⟩ := hc i hi
  have e : (⟨b, 0, none⟩ : Addr).add (i * 2) = ⟨b, i * 2, none⟩ := by unfold Addr.add; split <;> simp_all
  rw [e]
  exact ⟨(h.cell (i * 2)).trans h1, (h.cell (i * 2 + 1)).trans h2⟩
def lX (l : List Int) : Nat → Int := fun i => l.getD i 0
theorem aw_q {q : Nat} (h : isLn 4 (lX [0, 0, 2, 2]) (lX [0, 2, 0, 2]) q) : q = 2 := by
  have h1 : 2 ≤ q := by have := h.1; omega
  rcases Nat.lt_or_ge 2 q with h2 | h2
  · have := h.2.2.1 2 (Nat.le_refl _) h2
    exact absurd this (by decide)
  · omega
theorem aw_q2 {q : Nat} (h : isLn 3 (lX [0, 1, 2]) (lX [0, 0, 0]) q) : q = 3 := by
  have h1 : 2 ≤ q := by have := h.1; omega
  have h3 := h.2.1
  rcases Nat.lt_or_ge q 3 with h2 | h2
  · obtain rfl : q = 2 := by omega
    exact absurd (by decide) (h.2.2.2 h2)
  · omega
theorem aw_len : (bldT 4 (lX [0, 0, 2, 2]) (lX [0, 2, 0, 2]) 2).length = 2 ∧ (bld (lX [0, 0, 2, 2]) (lX [0, 2, 0, 2]) 2 1).1.length = 4 := by decide +kernel
theorem aw_1 : allC 4 (lX [0, 0, 2, 2]) (lX [0, 2, 0, 2]) = true ∧ risC 4 (lX [0, 0, 2, 2]) (lX [0, 2, 0, 2]) := by
  refine ⟨by decide, fun i hi => ?_⟩
  rcases (show i = 0 ∨ i = 1 ∨ i = 2 by omega) with rfl | rfl | rfl <;> decide
theorem aw_2 : allC 3 (lX [0, 1, 2]) (lX [0, 0, 0]) = true ∧ risC 3 (lX [0, 1, 2]) (lX [0, 0, 0]) := by
  refine ⟨by decide, fun i hi => ?_⟩
  rcases (show i = 0 ∨ i = 1 by omega) with rfl | rfl <;> decide
theorem aw_3 : allC 2 (lX [1, 0]) (lX [0, 0]) = true ∧ ¬ risC 2 (lX [1, 0]) (lX [0, 0]) := by
  refine ⟨by decide, fun h => absurd (h 0 (by omega)) (by decide)⟩
end Go.Proofs.Ytdlpfiiakmhnlaa

namespace Go.Proofs.Ytdlpfiiakmhnlaa
open Go.RowKit

theorem look_mem {L : List (Nat × Nat)} (hs : SortH L) {b c : Nat} : (b, c) ∈ L ↔ lookH L b = some c := by
  constructor
  · intro h
    obtain ⟨i, hi⟩ := List.mem_iff_getElem?.1 h
    exact lookH_some hs hi rfl
  · intro h
    unfold lookH at h
    rw [Option.map_eq_some_iff] at h
    obtain ⟨x, hx, e⟩ := h
    have h1 := List.find?_some hx
    have h2 := List.mem_of_find?_eq_some hx
    simp at h1
    obtain ⟨x1, x2⟩ := x
    simp at h1 e
    obtain rfl : x1 = b := by omega
    rw [← e]; exact h2
/-- a side's triangle has its other sides too -/
structure Cyc (O : Nat → List (Nat × Nat)) : Prop where
  srt : ∀ a, SortH (O a)
  rot : ∀ a b c : Nat, lookH (O a) b = some c → lookH (O b) c = some a
  ne : ∀ a b c : Nat, lookH (O a) b = some c → a ≠ b
theorem Cyc.nil : Cyc (fun _ => []) := ⟨fun _ j k x y _ h => by simp at h, fun _ _ _ h => (by cases h), fun _ _ _ h => (by cases h)⟩
theorem look_put1 {O : Nat → List (Nat × Nat)} (hs : ∀ a, SortH (O a)) {a b c : Nat} (hn : lookH (O a) b = none) (x y : Nat) : lookH (put1 O a b c x) y = if x = a ∧ y = b then some c else lookH (O x) y := by
  unfold put1
  by_cases e : x = a
  · subst e
    rw [if_pos rfl, lookH_ins (hs x) hn]
    by_cases e2 : y = b
    · rw [if_pos e2, if_pos ⟨rfl, e2⟩]
    · rw [if_neg e2, if_neg (fun h => e2 h.2)]
  · rw [if_neg e, if_neg (fun h => e h.1)]
theorem sort_put1 {O : Nat → List (Nat × Nat)} (hs : ∀ a, SortH (O a)) {a b c : Nat} (hn : lookH (O a) b = none) : ∀ x, SortH (put1 O a b c x) := by
  intro x
  unfold put1
  split
  · exact insH_sort (hs a) (lookH_absent hn)
  · exact hs x
/-- three sides that are not there -/
def NewT (O : Nat → List (Nat × Nat)) (a b c : Nat) : Prop := a ≠ b ∧ b ≠ c ∧ a ≠ c ∧ lookH (O a) b = none ∧ lookH (O b) c = none ∧ lookH (O c) a = none
theorem look_putT {O : Nat → List (Nat × Nat)} (hs : ∀ a, SortH (O a)) {a b c : Nat} (h : NewT O a b c) (x y : Nat) :
    lookH (putT O a b c x) y = if x = a ∧ y = b then some c else if x = b ∧ y = c then some a else if x = c ∧ y = a then some b else lookH (O x) y := by
  obtain ⟨n1, n2, n3, h1, h2, h3⟩ := h
  have s1 := sort_put1 (c := c) hs h1
  have e2 : lookH (put1 O a b c b) c = none := by rw [look_put1 hs h1, if_neg (by omega)]; exact h2
  have s2 := sort_put1 (c := a) s1 e2
  have e3 : lookH (put1 (put1 O a b c) b c a c) a = none := by rw [look_put1 s1 e2, if_neg (by omega), look_put1 hs h1, if_neg (by omega)]; exact h3
  unfold putT
  rw [look_put1 s2 e3, look_put1 s1 e2, look_put1 hs h1]
  by_cases c1 : x = a ∧ y = b
  · rw [if_pos c1, if_pos c1, if_neg (by omega), if_neg (by omega)]
  · rw [if_neg c1, if_neg c1]
    by_cases c2 : x = b ∧ y = c
    · rw [if_pos c2, if_pos c2, if_neg (by omega)]
    · rw [if_neg c2, if_neg c2]
theorem sort_putT {O : Nat → List (Nat × Nat)} (hs : ∀ a, SortH (O a)) {a b c : Nat} (h : NewT O a b c) : ∀ x, SortH (putT O a b c x) := by
  obtain ⟨n1, n2, n3, h1, h2, h3⟩ := h
  have s1 := sort_put1 (c := c) hs h1
  have e2 : lookH (put1 O a b c b) c = none := by rw [look_put1 hs h1, if_neg (by omega)]; exact h2
  have s2 := sort_put1 (c := a) s1 e2
  have e3 : lookH (put1 (put1 O a b c) b c a c) a = none := by rw [look_put1 s1 e2, if_neg (by omega), look_put1 hs h1, if_neg (by omega)]; exact h3
  exact sort_put1 s2 e3
theorem Cyc.put {O : Nat → List (Nat × Nat)} (hO : Cyc O) {a b c : Nat} (h : NewT O a b c) : Cyc (putT O a b c) := by
  have L := look_putT hO.srt h
  obtain ⟨n1, n2, n3, h1, h2, h3⟩ := h
  have key : ∀ x y z : Nat, lookH (putT O a b c x) y = some z → (x = a ∧ y = b ∧ z = c) ∨ (x = b ∧ y = c ∧ z = a) ∨ (x = c ∧ y = a ∧ z = b) ∨ lookH (O x) y = some z := by
    intro x y z hz
    rw [L] at hz
    split at hz
    · rename_i e; injection hz with hz; exact .inl ⟨e.1, e.2, hz.symm⟩
    · split at hz
      · rename_i e; injection hz with hz; exact .inr (.inl ⟨e.1, e.2, hz.symm⟩)
      · split at hz
        · rename_i e; injection hz with hz; exact .inr (.inr (.inl ⟨e.1, e.2, hz.symm⟩))
        · exact .inr (.inr (.inr hz))
  refine ⟨sort_putT hO.srt ⟨n1, n2, n3, h1, h2, h3⟩, fun x y z hz => ?_, fun x y z hz => ?_⟩
  · rw [L]
    rcases key x y z hz with ⟨rfl, rfl, rfl⟩ | ⟨rfl, rfl, rfl⟩ | ⟨rfl, rfl, rfl⟩ | hz
    · rw [if_neg (by omega), if_pos ⟨rfl, rfl⟩]
    · rw [if_neg (by omega), if_neg (by omega), if_pos ⟨rfl, rfl⟩]
    · rw [if_pos ⟨rfl, rfl⟩]
    · have r := hO.rot x y z hz
      rw [if_neg, if_neg, if_neg]
      · exact r
      · rintro ⟨rfl, rfl⟩; rw [h3] at r; cases r
      · rintro ⟨rfl, rfl⟩; rw [h2] at r; cases r
      · rintro ⟨rfl, rfl⟩; rw [h1] at r; cases r
  · rcases key x y z hz with ⟨rfl, rfl, rfl⟩ | ⟨rfl, rfl, rfl⟩ | ⟨rfl, rfl, rfl⟩ | hz
    · exact n1
    · exact n2
    · exact n3.symm
    · exact hO.ne x y z hz
theorem Cyc.all {N : Nat} : ∀ (l : List Tri3) {O : Nat → List (Nat × Nat)}, Cyc O → PutOk N O l → Cyc (putAll O l) := by
  intro l
  induction l with
  | nil => intro O h _; exact h
  | cons t l ih =>
    intro O h hp
    obtain ⟨⟨_, _, _, n1, n2, n3, h1, h2, h3⟩, hp⟩ := hp
    exact ih (h.put ⟨n1, n2, n3, h1, h2, h3⟩) hp
theorem mem_told {a : Nat} {L : List (Nat × Nat)} {t : Tri3} : t ∈ told a L ↔ t.1 = a ∧ (t.2.1, t.2.2) ∈ L ∧ a < t.2.1 ∧ a < t.2.2 := by
  unfold told
  rw [List.mem_map]
  constructor
  · rintro ⟨x, hx, rfl⟩
    rw [List.mem_filter] at hx
    obtain ⟨h1, h2⟩ := hx
    simp at h2
    exact ⟨rfl, h1, h2.1, h2.2⟩
  · rintro ⟨rfl, h1, h2, h3⟩
    exact ⟨(t.2.1, t.2.2), List.mem_filter.2 ⟨h1, by simp [h2, h3]⟩, rfl⟩
theorem mem_preO {O : Nat → List (Nat × Nat)} {t : Tri3} : ∀ {N : Nat}, t ∈ preO O N ↔ t.1 < N ∧ (t.2.1, t.2.2) ∈ O t.1 ∧ t.1 < t.2.1 ∧ t.1 < t.2.2
  | 0 => by constructor
            · intro h; cases h
            · intro h; omega
  | N + 1 => by
    show t ∈ preO O N ++ told N (O N) ↔ _
    rw [List.mem_append, mem_preO, mem_told]
    constructor
    · rintro (⟨h1, h2⟩ | ⟨h1, h2, h3, h4⟩)
      · exact ⟨by omega, h2⟩
      · exact ⟨by omega, by rw [h1]; exact h2, by omega, by omega⟩
    · rintro ⟨h1, h2, h3, h4⟩
      rcases Nat.lt_or_ge t.1 N with h | h
      · exact .inl ⟨h, h2, h3, h4⟩
      · have e : t.1 = N := by omega
        exact .inr ⟨e, by rw [← e]; exact h2, by omega, by omega⟩
theorem told_ins {a b c : Nat} : ∀ (L : List (Nat × Nat)), (told a (insH b c L)).length = (told a L).length + if a < b ∧ a < c then 1 else 0 := by
  have h1 : ∀ (x : Nat × Nat) L, (told a (x :: L)).length = (told a L).length + if a < x.1 ∧ a < x.2 then 1 else 0 := by
    intro x L
    unfold told
    rw [List.filter_cons]
    by_cases e : a < x.1 ∧ a < x.2
    · rw [if_pos e, if_pos (by simpa using e)]; simp
    · rw [if_neg e, if_neg (by simpa using e)]; rfl
  intro L
  induction L with
  | nil => show (told a [(b, c)]).length = _; rw [h1]
  | cons x l ih =>
    show (told a (if x.1 < b then x :: insH b c l else (b, c) :: x :: l)).length = _
    split
    · rw [h1, h1, ih]; omega
    · rw [h1]
theorem pre_put1 {O : Nat → List (Nat × Nat)} {a b c : Nat} : ∀ N, (preO (put1 O a b c) N).length = (preO O N).length + if a < N ∧ a < b ∧ a < c then 1 else 0
  | 0 => by rw [if_neg (by omega)]; rfl
  | N + 1 => by
    show (preO (put1 O a b c) N ++ told N (put1 O a b c N)).length = (preO O N ++ told N (O N)).length + _
    rw [List.length_append, List.length_append, pre_put1 N]
    unfold put1
    by_cases e : N = a
    · subst e
      rw [if_pos rfl, told_ins, if_neg (by omega)]
      by_cases h : N < b ∧ N < c
      · rw [if_pos h, if_pos (by omega)]; omega
      · rw [if_neg h, if_neg (by omega)]; omega
    · rw [if_neg e]
      by_cases h : a < N ∧ a < b ∧ a < c
      · rw [if_pos h, if_pos (by omega)]; omega
      · rw [if_neg h, if_neg (by omega)]; omega
theorem pre_putT {O : Nat → List (Nat × Nat)} {a b c N : Nat} (ha : a < N) (hb : b < N) (hc : c < N) (n1 : a ≠ b) (n2 : b ≠ c) (n3 : a ≠ c) : (preO (putT O a b c) N).length = (preO O N).length + 1 := by
  unfold putT
  rw [pre_put1, pre_put1, pre_put1]
  rcases (show (a < b ∧ a < c) ∨ (b < a ∧ b < c) ∨ (c < a ∧ c < b) by omega) with h | h | h
  · rw [if_pos (by omega), if_neg (by omega), if_neg (by omega)]
  · rw [if_neg (by omega), if_pos (by omega), if_neg (by omega)]
  · rw [if_neg (by omega), if_neg (by omega), if_pos (by omega)]
theorem pre_all {N : Nat} : ∀ (l : List Tri3) {O : Nat → List (Nat × Nat)}, PutOk N O l → (preO (putAll O l) N).length = (preO O N).length + l.length := by
  intro l
  induction l with
  | nil => intro O _; rfl
  | cons t l ih =>
    intro O hp
    obtain ⟨⟨a1, a2, a3, n1, n2, n3, h1, h2, h3⟩, hp⟩ := hp
    show (preO (putAll (putT O t.1 t.2.1 t.2.2) l) N).length = _
    rw [ih hp, pre_putT a1 a2 a3 n1 n2 n3, List.length_cons]; omega
theorem pre_nil : ∀ N, preO (fun _ => []) N = []
  | 0 => rfl
  | N + 1 => by show preO _ N ++ told N [] = []; rw [pre_nil N]; rfl
/-- is it the triangle, in one of three ways? -/
def isRot (x : Tri3) (t0 t1 t2 : Int) : Bool :=
  (((x.1 : Int) == t0 && (x.2.1 : Int) == t1 && (x.2.2 : Int) == t2) || ((x.1 : Int) == t1 && (x.2.1 : Int) == t2 && (x.2.2 : Int) == t0)) || ((x.1 : Int) == t2 && (x.2.1 : Int) == t0 && (x.2.2 : Int) == t1)
theorem isRot_iff {x : Tri3} {t0 t1 t2 : Int} : isRot x t0 t1 t2 = true ↔ ((x.1 : Int) = t0 ∧ (x.2.1 : Int) = t1 ∧ (x.2.2 : Int) = t2) ∨ ((x.1 : Int) = t1 ∧ (x.2.1 : Int) = t2 ∧ (x.2.2 : Int) = t0) ∨ ((x.1 : Int) = t2 ∧ (x.2.1 : Int) = t0 ∧ (x.2.2 : Int) = t1) := by
  unfold isRot
  simp only [Bool.or_eq_true, Bool.and_eq_true, beq_iff_eq, and_assoc, or_assoc]
/-- its rows hold vertices alone -/
def DomO (N : Nat) (O : Nat → List (Nat × Nat)) : Prop := ∀ a b c : Nat, lookH (O a) b = some c → a < N ∧ b < N ∧ c < N
theorem lookH_nat {L : List (Nat × Nat)} {b : Int} {c : Nat} (h : lookH L b = some c) : ∃ b' : Nat, b = b' := by
  unfold lookH at h
  rw [Option.map_eq_some_iff] at h
  obtain ⟨x, hx, _⟩ := h
  have := List.find?_some hx
  exact ⟨x.1, (of_decide_eq_true this).symm⟩
theorem leftO_nat {N : Nat} {O : Nat → List (Nat × Nat)} {a b : Int} {c : Nat} (h : leftO N O a b = some c) : ∃ a' b' : Nat, a = a' ∧ b = b' ∧ a' < N ∧ lookH (O a') b' = some c := by
  unfold leftO at h
  split at h
  · rename_i e
    obtain ⟨b', rfl⟩ := lookH_nat h
    exact ⟨a.toNat, b', by omega, rfl, by omega, h⟩
  · cases h
theorem leftO_of {N : Nat} {O : Nat → List (Nat × Nat)} {a b : Nat} (h : a < N) : leftO N O a b = lookH (O a) b := by unfold leftO; rw [if_pos (by omega)]; rfl
/-- a triangle is told just if a side of it leads to its third corner -/
theorem rot_left {N : Nat} {O : Nat → List (Nat × Nat)} (hO : Cyc O) (hd : DomO N O) {t0 t1 t2 : Int} : (∃ x, x ∈ preO O N ∧ isRot x t0 t1 t2 = true) ↔ ∃ c : Nat, leftO N O t0 t1 = some c ∧ (c : Int) = t2 := by
  constructor
  · rintro ⟨⟨a, b, c⟩, hx, hr⟩
    obtain ⟨h1, h2, h3, h4⟩ := mem_preO.1 hx
    have l0 := (look_mem (hO.srt a)).1 h2
    have l1 := hO.rot _ _ _ l0
    have l2 := hO.rot _ _ _ l1
    obtain ⟨d1, d2, d3⟩ := hd _ _ _ l0
    rcases isRot_iff.1 hr with ⟨rfl, rfl, rfl⟩ | ⟨rfl, rfl, rfl⟩ | ⟨rfl, rfl, rfl⟩
    · exact ⟨c, by rw [leftO_of d1]; exact l0, rfl⟩
    · exact ⟨b, by rw [leftO_of d3]; exact l2, rfl⟩
    · exact ⟨a, by rw [leftO_of d2]; exact l1, rfl⟩
  · rintro ⟨c, hc, rfl⟩
    obtain ⟨a, b, rfl, rfl, ha, l0⟩ := leftO_nat hc
    have l1 := hO.rot _ _ _ l0
    have l2 := hO.rot _ _ _ l1
    have n0 := hO.ne _ _ _ l0
    have n1 := hO.ne _ _ _ l1
    have n2 := hO.ne _ _ _ l2
    obtain ⟨d1, d2, d3⟩ := hd _ _ _ l0
    rcases (show (a < b ∧ a < c) ∨ (b < a ∧ b < c) ∨ (c < a ∧ c < b) by omega) with h | h | h
    · exact ⟨(a, b, c), mem_preO.2 ⟨d1, (look_mem (hO.srt a)).2 l0, h.1, h.2⟩, isRot_iff.2 (.inl ⟨rfl, rfl, rfl⟩)⟩
    · exact ⟨(b, c, a), mem_preO.2 ⟨d2, (look_mem (hO.srt b)).2 l1, h.2, h.1⟩, isRot_iff.2 (.inr (.inl ⟨rfl, rfl, rfl⟩))⟩
    · exact ⟨(c, a, b), mem_preO.2 ⟨d3, (look_mem (hO.srt c)).2 l2, h.1, h.2⟩, isRot_iff.2 (.inr (.inr ⟨rfl, rfl, rfl⟩))⟩
theorem dom_putT {N : Nat} {O : Nat → List (Nat × Nat)} (hs : ∀ a, SortH (O a)) {a b c : Nat} (h : NewT O a b c) (hd : DomO N O) (hn : a < N ∧ b < N ∧ c < N) : DomO N (putT O a b c) := by
  intro x y z hz
  rw [look_putT hs h] at hz
  split at hz
  · rename_i e; injection hz with hz; omega
  · split at hz
    · rename_i e; injection hz with hz; omega
    · split at hz
      · rename_i e; injection hz with hz; omega
      · exact hd x y z hz
theorem dom_all {N : Nat} : ∀ (l : List Tri3) {O : Nat → List (Nat × Nat)}, Cyc O → DomO N O → PutOk N O l → DomO N (putAll O l) := by
  intro l
  induction l with
  | nil => intro O _ h _; exact h
  | cons t l ih =>
    intro O hO h hp
    obtain ⟨⟨a1, a2, a3, n1, n2, n3, h1, h2, h3⟩, hp⟩ := hp
    exact ih (hO.put ⟨n1, n2, n3, h1, h2, h3⟩) (dom_putT hO.srt ⟨n1, n2, n3, h1, h2, h3⟩ h ⟨a1, a2, a3⟩) hp
end Go.Proofs.Ytdlpfiiakmhnlaa

namespace Go.Proofs.Ytdlpfiiakmhnlaa
open Go.RowKit

/-- a slice of triangles, to be read -/
structure Trs (w : World) (ao : Option Addr) (cap : Nat) (L : List Tri3) : Prop where
  ptr : 0 < L.length → ∃ g, ao = some ⟨g, 0, none⟩ ∧ g < w.heap.size ∧ ∀ j x, L[j]? = some x → w.cell? ⟨g, j * 3, none⟩ = some (.int .i64 (x.1 : Nat)) ∧ w.cell? ⟨g, j * 3 + 1, none⟩ = some (.int .i64 (x.2.1 : Nat)) ∧ w.cell? ⟨g, j * 3 + 2, none⟩ = some (.int .i64 (x.2.2 : Nat))
  capl : L.length ≤ cap
  capb : cap ≤ 9223372036854775807
theorem Trs.of {w w' : World} {ao : Option Addr} {cap : Nat} {L : List Tri3} (h : Trs w ao cap L) (hb : Below w.heap.size w w') : Trs w' ao cap L := by
  refine ⟨fun h0 => ?_, h.capl, h.capb⟩
  obtain ⟨g, e, hg, hc⟩ := h.ptr h0
  refine ⟨g, e, Nat.lt_of_lt_of_le hg hb.size, fun j x hx => ?_⟩
  obtain ⟨c0, c1, c2⟩ := hc j x hx
  exact ⟨(hb.cell (p := ⟨g, j * 3, none⟩) hg).trans c0, (hb.cell (p := ⟨g, j * 3 + 1, none⟩) hg).trans c1, (hb.cell (p := ⟨g, j * 3 + 2, none⟩) hg).trans c2⟩
theorem tC_at : ∀ {L : List Tri3} {j : Nat} {x : Tri3}, L[j]? = some x → (tC L)[j * 3]? = some (.int .i64 (x.1 : Nat)) ∧ (tC L)[j * 3 + 1]? = some (.int .i64 (x.2.1 : Nat)) ∧ (tC L)[j * 3 + 2]? = some (.int .i64 (x.2.2 : Nat))
  | [], j, x, h => by simp at h
  | y :: l, 0, x, h => by
    simp at h; subst h; exact ⟨rfl, rfl, rfl⟩
  | y :: l, j + 1, x, h => by
    have := tC_at (L := l) (j := j) (x := x) (by simpa using h)
    rw [show (j + 1) * 3 = j * 3 + 3 by omega]
    exact this
theorem Trs.ofRow {w : World} {base : Nat} {e : TypeId} {v : Value} {L : List Tri3} (h : w.ownsRow base e 3 v L.length (tC L)) : ∃ ao cap, v = .slice ao L.length cap ∧ Trs w ao cap L := by
  rcases h.2 with ⟨rfl, hn⟩ | ⟨g, cap, cur, rfl, hb, hg, h1, h2, h3, h4⟩
  · exact ⟨none, 0, by rw [hn], fun h0 => by omega, by omega, by omega⟩
  · refine ⟨_, cap, rfl, fun h0 => ⟨g, rfl, (Array.getElem?_eq_some_iff.1 hg).1, fun j x hx => ?_⟩, h1, by unfold maxLen at h2; omega⟩
    have hj : j < L.length := (List.getElem?_eq_some_iff.1 hx).1
    obtain ⟨f0, f1, f2⟩ := tC_at hx
    have c : ∀ k u, k < L.length * 3 → (tC L)[k]? = some u → w.cell? ⟨g, k, none⟩ = some u := fun k u hk hu => by
      rw [cell_row hg, ← Array.getElem?_toList]
      rw [← h4, List.getElem?_take_of_lt hk] at hu
      exact hu
    exact ⟨c _ _ (by omega) f0, c _ _ (by omega) f1, c _ _ (by omega) f2⟩
/-- two triangles alike? -/
def eqT (a b c d e f : Int) : Bool := a == d && b == e && c == f
@[go_sem] theorem run_eqT0 (a b c d e f : Int) (w : World) :
    (Op.equalIn 10000 35 (tI a b c) (tI d e f)).run Try.prog w = .ok (eqT a b c d e f) w := by
  have hu : Try.prog.underlying 35 = some (.array 3 3) := by kernel_rfl
  have hs : ∀ w, (sizeOf 3).run Try.prog w = .ok 1 w := fun w => by kernel_rfl
  have he : ∀ (a b : Int) w, (Op.equalIn 9999 3 (.int .i64 a) (.int .i64 b)).run Try.prog w = .ok (a == b) w := fun a b w => run_equalIn_int w 9998 _ .i64 .i64 a b (by kernel_rfl)
  have hp : ∀ (c : Array Value) (i : Nat) (v : Value) w, c[i]? = some v → (part 3 c i).run Try.prog w = .ok v w := by
    intro c i v w h
    have ha : (isAgg 3).run Try.prog w = .ok false w := by kernel_rfl
    unfold part
    simp [Sem.run_bind, ha, h]
  show (Op.equalIn (9999 + 1) _ _ _).run _ _ = _
  unfold Op.equalIn
  simp only [Sem.run_bind, run_underlying hu, Result.andThen_ok, hs]
  simp [List.range', he, hp, Sem.run_bind]
  unfold eqT
  by_cases h0 : a = d <;> by_cases h1 : b = e <;> by_cases h2 : c = f <;> simp [h0, h1, h2]
@[go_sem] theorem run_eqlT (a b c d e f : Int) (w : World) :
    (binOp .eql 35 (tI a b c) (tI d e f)).run Try.prog w = .ok (.bool (eqT a b c d e f)) w := by
  rw [run_eql_struct, run_eqT0]; rfl
@[go_sem] theorem run_neqT (a b c d e f : Int) (w : World) :
    (binOp .neq 35 (tI a b c) (tI d e f)).run Try.prog w = .ok (.bool (!eqT a b c d e f)) w := by
  rw [run_neq_struct, run_eqT0]; rfl
end Go.Proofs.Ytdlpfiiakmhnlaa

namespace Go.Proofs.Ytdlpfiiakmhnlaa
open Go.RowKit

theorem Tri.cyc {N q : Nat} {X Y : Nat → Int} {T : List Tri3} {O : Nat → List (Nat × Nat)} (h : Tri N X Y q T O) : Cyc O ∧ DomO N O ∧ (preO O N).length = T.length := by
  have hp : PutOk N (fun _ => []) T := putok_fresh _ rep_none h.fresh
  rw [h.all]
  refine ⟨Cyc.nil.all T hp, dom_all T Cyc.nil (fun a b c h => by cases h) hp, ?_⟩
  rw [pre_all T hp, pre_nil]; simp
/-- six numbers alike -/
@[go_sem] theorem run_eq6 (a b c d e f : Int) (w : World) :
    (Op.equalIn 10000 42 (.agg #[.int .i64 a, .int .i64 b, .int .i64 c, .int .i64 d, .int .i64 e, .int .i64 f]) (.agg #[.int .i64 a, .int .i64 b, .int .i64 c, .int .i64 d, .int .i64 e, .int .i64 f])).run Try.prog w = .ok true w := by
  have hu : Try.prog.underlying 42 = some (.array 3 41) := by kernel_rfl
  have hs : ∀ w, (sizeOf 41).run Try.prog w = .ok 2 w := fun w => by kernel_rfl
  have he : ∀ (a b : Int) w, (Op.equalIn 9999 41 (.agg #[.int .i64 a, .int .i64 b]) (.agg #[.int .i64 a, .int .i64 b])).run Try.prog w = .ok true w := fun a b w => by go_simp
  have hp0 : ∀ w, (part 41 #[.int .i64 a, .int .i64 b, .int .i64 c, .int .i64 d, .int .i64 e, .int .i64 f] 0).run Try.prog w = .ok (.agg #[.int .i64 a, .int .i64 b]) w := fun w => by kernel_rfl
  have hp2 : ∀ w, (part 41 #[.int .i64 a, .int .i64 b, .int .i64 c, .int .i64 d, .int .i64 e, .int .i64 f] 2).run Try.prog w = .ok (.agg #[.int .i64 c, .int .i64 d]) w := fun w => by kernel_rfl
  have hp4 : ∀ w, (part 41 #[.int .i64 a, .int .i64 b, .int .i64 c, .int .i64 d, .int .i64 e, .int .i64 f] 4).run Try.prog w = .ok (.agg #[.int .i64 e, .int .i64 f]) w := fun w => by kernel_rfl
  show (Op.equalIn (9999 + 1) _ _ _).run _ _ = _
  unfold Op.equalIn
  simp only [Sem.run_bind, run_underlying hu, Result.andThen_ok, hs]
  simp [List.range', he, hp0, hp2, hp4, Sem.run_bind]
end Go.Proofs.Ytdlpfiiakmhnlaa

namespace Go.Proofs.Ytdlpfiiakmhnlaa
open Go.RowKit
attribute [local go_sem] undef

/-- the way from a vertex to another one, and a point -/
def wyp (X Y : Nat → Int) (px py : Int) (a b : Nat) : Int := way (X a) (Y a) (X b) (Y b) px py
/-- the side to whose right a point lies -/
def bey (X Y : Nat → Int) (px py : Int) (a b c : Nat) : Option (Nat × Nat) :=
  if wyp X Y px py a b < 0 then some (a, b) else if wyp X Y px py b c < 0 then some (b, c) else if wyp X Y px py c a < 0 then some (c, a) else none
end Go.Proofs.Ytdlpfiiakmhnlaa

namespace Go.Proofs.Ytdlpfiiakmhnlaa
open Go.RowKit Go.Shelf
attribute [local go_sem] Oper.semAt_some

/-- an owned slice of triangles, told as tri.Tri -/
def TB (w : World) (base : Nat) (v : Value) (L : List Tri3) : Prop := w.ownsRow base 36 3 v L.length (tC L)
theorem TB.none {w : World} {base : Nat} : TB w base (.slice none 0 0) [] := ⟨rfl, .inl ⟨rfl, rfl⟩⟩
theorem TB.of {w w' : World} {base : Nat} {v : Value} {L : List Tri3} (h : TB w base v L) (hb : ∀ g, v.ownBlock = some g → w'.heap[g]? = w.heap[g]?) : TB w' base v L := by
  refine ⟨h.1, h.2.imp id ?_⟩
  rintro ⟨g, cap, cur, rfl, hbg, hh, r⟩
  exact ⟨g, cap, cur, rfl, hbg, (hb g rfl).trans hh, r⟩
theorem TB.lt {w : World} {base : Nat} {v : Value} {L : List Tri3} (h : TB w base v L) {g : Nat} (hg : v.ownBlock = some g) : base ≤ g ∧ g < w.heap.size := World.ownsRow.lt h g hg
end Go.Proofs.Ytdlpfiiakmhnlaa

namespace Go.Proofs.Ytdlpfiiakmhnlaa
open Go.RowKit
attribute [local go_sem] undef

theorem bey_none {X Y : Nat → Int} {px py : Int} {a b c : Nat} : bey X Y px py a b c = none ↔ 0 ≤ wyp X Y px py a b ∧ 0 ≤ wyp X Y px py b c ∧ 0 ≤ wyp X Y px py c a := by
  unfold bey
  by_cases h1 : wyp X Y px py a b < 0
  · rw [if_pos h1]; constructor
    · intro h; cases h
    · omega
  · rw [if_neg h1]
    by_cases h2 : wyp X Y px py b c < 0
    · rw [if_pos h2]; constructor
      · intro h; cases h
      · omega
    · rw [if_neg h2]
      by_cases h3 : wyp X Y px py c a < 0
      · rw [if_pos h3]; constructor
        · intro h; cases h
        · omega
      · rw [if_neg h3]; constructor
        · intro _; omega
        · intro _; rfl
end Go.Proofs.Ytdlpfiiakmhnlaa

namespace Go.Proofs.Ytdlpfiiakmhnlaa
open Go.RowKit

theorem gWay_is (ax ay bx b_y cx cy r : Int) (h : way ax ay bx b_y cx cy = r) (w : World) :
    Calls Try.prog 46 #[pI ax ay, pI bx b_y, pI cx cy] w fun e w' => e = .returned (.int .i64 r) ∧ Below w.heap.size w w' := h ▸ Way_any ax ay bx b_y cx cy w
/-- where one lies to a triangle: w: the triangle's turn; g: is the point right; x, y, z: its turns with the sides -/
def in3 (x y z : Int) : Int := min (min (min 1 x) y) z
def inV (w : Int) (g : Bool) (x y z : Int) : Int := bif w == 0 || !g then -1 else in3 (x * w) (y * w) (z * w)
def inW (ax ay bx b_y cx cy px py : Int) : Int := inV (way ax ay bx b_y cx cy) (rp px py) (way ax ay bx b_y px py) (way bx b_y cx cy px py) (way cx cy ax ay px py)
/-- do two segments cross within both? -/
def fac (ax ay bx b_y cx cy dx dy : Int) : Bool := decide (way ax ay bx b_y cx cy * way ax ay bx b_y dx dy < 0) && decide (way cx cy dx dy ax ay * way cx cy dx dy bx b_y < 0)
def S3 (x : Int) : Prop := x = -1 ∨ x = 0 ∨ x = 1
theorem S3.mul {x y : Int} (hx : S3 x) (hy : S3 y) : S3 (x * y) := by
  unfold S3 at *
  rcases hx with rfl | rfl | rfl <;> rcases hy with rfl | rfl | rfl <;> decide
theorem S3.wrap {x : Int} (hx : S3 x) : wrap64 x = x := by
  unfold S3 at *
  rcases hx with rfl | rfl | rfl <;> unfold wrap64 <;> omega
end Go.Proofs.Ytdlpfiiakmhnlaa

namespace Go.Proofs.Ytdlpfiiakmhnlaa
open Go.RowKit

set_option maxRecDepth 100000 in
set_option maxHeartbeats 2000000 in
theorem rIn_go (ax ay bx b_y cx cy px py w x y z X Y Z : Int) (g t : Bool) (hw : way ax ay bx b_y cx cy = w) (hg : rp px py = g) (hx : way ax ay bx b_y px py = x) (hy : way bx b_y cx cy px py = y) (hz : way cx cy ax ay px py = z)
    (ht : (w == 0) = t) (hX : wrap64 (x * w) = X) (hY : wrap64 (y * w) = Y) (hZ : wrap64 (z * w) = Z) (sX : S3 X) (sY : S3 Y) (sZ : S3 Z) (v : World) :
    Calls Try.prog 22 #[pI ax ay, pI bx b_y, pI cx cy, pI px py] v fun e w' => e = .returned (.int .i64 (bif t || !g then -1 else in3 X Y Z)) ∧ Below v.heap.size v w' := by
 have HW := Lib.hid hw
 have HG := Lib.hid hg
 have H1 := Lib.hid hx
 have H2 := Lib.hid hy
 have H3 := Lib.hid hz
 have HX := Lib.hid hX
 have HY := Lib.hid hY
 have HZ := Lib.hid hZ
 have SX := Lib.hid sX
 have SY := Lib.hid sY
 have SZ := Lib.hid sZ
 clear hw hg hx hy hz sX sY sZ hX hY hZ
 go_enter Try.func22, Try.ntmps22
 go_wp2_with fail
 first | refine calls_w ?_ | refine name_world ?_
 intro W hW
 have ka : QVar W (v.heap.size) ax ay := by rw [hW]; exact (Blk.new v _ _) |>.alloc _ |>.alloc _ |>.alloc _
 have kb : QVar W (v.heap.size + 1) bx b_y := by rw [hW]; exact (Blk.new1 v _ _ _) |>.alloc _ |>.alloc _
 have kc : QVar W (v.heap.size + 1 + 1) cx cy := by rw [hW]; exact (Blk.new2 v _ _ _ _) |>.alloc _
 have kd : QVar W (v.heap.size + 1 + 1 + 1) px py := by rw [hW]; exact (Blk.new3 v _ _ _ _ _)
 have hb0 : Below v.heap.size v W := by rw [hW]; exact (below_a3 _ _ _ _).alloc (by simp; omega) _
 clear hW
 refine (gWay_is ax ay bx b_y cx cy w HW.out _).mono ?_
 rintro e u1 ⟨rfl, hn⟩
 replace ka : QVar u1 _ _ _ := ka.of hn
 replace kb : QVar u1 _ _ _ := kb.of hn
 replace kc : QVar u1 _ _ _ := kc.of hn
 replace kd : QVar u1 _ _ _ := kd.of hn
 replace hb0 := hb0.trans (hn.mono hb0.size)
 clear hn 
 cases t
 ·have ca := QVar.c ka
  have la := ka.lt
  have cb := QVar.c kb
  have lb := kb.lt
  have cc := QVar.c kc
  have lc := kc.lt
  have cd := QVar.c kd
  have ld := kd.lt
  go_wp2_with fail
  clear ca la cb lb cc lc cd ld
  refine (rR_is px py g HG.out _).mono ?_
  rintro e u2 ⟨rfl, hn⟩
  replace ka : QVar u2 _ _ _ := ka.of hn
  replace kb : QVar u2 _ _ _ := kb.of hn
  replace kc : QVar u2 _ _ _ := kc.of hn
  replace kd : QVar u2 _ _ _ := kd.of hn
  replace hb0 := hb0.trans (hn.mono hb0.size)
  clear hn 
  cases g
  ·have ca := QVar.c ka
   have la := ka.lt
   have cb := QVar.c kb
   have lb := kb.lt
   have cc := QVar.c kc
   have lc := kc.lt
   have cd := QVar.c kd
   have ld := kd.lt
   go_wp2
   go_ret
   exact ⟨rfl, hb0⟩
  ·have ca := QVar.c ka
   have la := ka.lt
   have cb := QVar.c kb
   have lb := kb.lt
   have cc := QVar.c kc
   have lc := kc.lt
   have cd := QVar.c kd
   have ld := kd.lt
   go_wp2_with fail
   clear ca la cb lb cc lc cd ld
   refine (gWay_is ax ay bx b_y px py x H1.out _).mono ?_
   rintro e u3 ⟨rfl, hn⟩
   replace ka : QVar u3 _ _ _ := ka.of hn
   replace kb : QVar u3 _ _ _ := kb.of hn
   replace kc : QVar u3 _ _ _ := kc.of hn
   replace kd : QVar u3 _ _ _ := kd.of hn
   replace hb0 := hb0.trans (hn.mono hb0.size)
   clear hn 
   have ca := QVar.c ka
   have la := ka.lt
   have cb := QVar.c kb
   have lb := kb.lt
   have cc := QVar.c kc
   have lc := kc.lt
   have cd := QVar.c kd
   have ld := kd.lt
   have hX := HX.out
   go_wp2_with fail
   clear ca la cb lb cc lc cd ld
   refine (gWay_is bx b_y cx cy px py y H2.out _).mono ?_
   rintro e u4 ⟨rfl, hn⟩
   replace ka : QVar u4 _ _ _ := ka.of hn
   replace kb : QVar u4 _ _ _ := kb.of hn
   replace kc : QVar u4 _ _ _ := kc.of hn
   replace kd : QVar u4 _ _ _ := kd.of hn
   replace hb0 := hb0.trans (hn.mono hb0.size)
   clear hn 
   have ca := QVar.c ka
   have la := ka.lt
   have cb := QVar.c kb
   have lb := kb.lt
   have cc := QVar.c kc
   have lc := kc.lt
   have cd := QVar.c kd
   have ld := kd.lt
   have hY := HY.out
   go_wp2_with fail
   clear ca la cb lb cc lc cd ld
   refine (gWay_is cx cy ax ay px py z H3.out _).mono ?_
   rintro e u5 ⟨rfl, hn⟩
   replace ka : QVar u5 _ _ _ := ka.of hn
   replace kb : QVar u5 _ _ _ := kb.of hn
   replace kc : QVar u5 _ _ _ := kc.of hn
   replace kd : QVar u5 _ _ _ := kd.of hn
   replace hb0 := hb0.trans (hn.mono hb0.size)
   clear hn 
   have hZ := HZ.out
   clear HX HY HZ H1 H2 H3 HW HG ht
   rcases SX.out with rfl | rfl | rfl <;> rcases SY.out with rfl | rfl | rfl <;> rcases SZ.out with rfl | rfl | rfl
   all_goals
    go_wp2
    go_ret
    exact ⟨rfl, hb0⟩
 ·have ca := QVar.c ka
  have la := ka.lt
  have cb := QVar.c kb
  have lb := kb.lt
  have cc := QVar.c kc
  have lc := kc.lt
  have cd := QVar.c kd
  have ld := kd.lt
  go_wp2
  go_ret
  exact ⟨rfl, hb0⟩
theorem rIn_any (ax ay bx b_y cx cy px py : Int) (v : World) :
    Calls Try.prog 22 #[pI ax ay, pI bx b_y, pI cx cy, pI px py] v fun e w' => e = .returned (.int .i64 (inW ax ay bx b_y cx cy px py)) ∧ Below v.heap.size v w' := by
  have s0 : S3 (way ax ay bx b_y cx cy) := way_cases _ _ _ _ _ _
  have s1 : S3 (way ax ay bx b_y px py) := way_cases _ _ _ _ _ _
  have s2 : S3 (way bx b_y cx cy px py) := way_cases _ _ _ _ _ _
  have s3 : S3 (way cx cy ax ay px py) := way_cases _ _ _ _ _ _
  exact rIn_go ax ay bx b_y cx cy px py _ _ _ _ _ _ _ _ _ rfl rfl rfl rfl rfl rfl (s1.mul s0).wrap (s2.mul s0).wrap (s3.mul s0).wrap (s1.mul s0) (s2.mul s0) (s3.mul s0) v

end Go.Proofs.Ytdlpfiiakmhnlaa

namespace Go.Proofs.Ytdlpfiiakmhnlaa
open Go.RowKit

theorem wy_rot {N : Nat} {X Y : Nat → Int} (hg : allC N X Y = true) {a b c : Nat} (ha : a < N) (hb : b < N) (hc : c < N) : wy X Y b c a = wy X Y a b c := by
  rw [wy_sgn hg hb hc ha, wy_sgn hg ha hb hc, gT_rot]
theorem wy_swap {N : Nat} {X Y : Nat → Int} (hg : allC N X Y = true) {a b c : Nat} (ha : a < N) (hb : b < N) (hc : c < N) : wy X Y b a c = -wy X Y a b c := by
  rw [wy_sgn hg hb ha hc, wy_sgn hg ha hb hc, gT_swap, Int.sign_neg]
theorem wy_turn {N : Nat} {X Y : Nat → Int} (hg : allC N X Y = true) {a b p : Nat} (ha : a < N) (hb : b < N) (hp : p < N) (h : wy X Y a b p < 0) : 0 < wy X Y a p b := by
  have h1 := wy_swap hg hp ha hb
  have h2 := wy_rot hg hp ha hb
  have h3 : wy X Y a b p = wy X Y p a b := h2
  rw [h1]; omega
theorem look_all {N : Nat} : ∀ (l : List Tri3) {O : Nat → List (Nat × Nat)}, Cyc O → PutOk N O l → ∀ x y z : Nat, lookH (putAll O l x) y = some z → lookH (O x) y = some z ∨ ∃ t, t ∈ l ∧ ((x = t.1 ∧ y = t.2.1 ∧ z = t.2.2) ∨ (x = t.2.1 ∧ y = t.2.2 ∧ z = t.1) ∨ (x = t.2.2 ∧ y = t.1 ∧ z = t.2.1)) := by
  intro l
  induction l with
  | nil => intro O _ _ x y z h; exact .inl h
  | cons t l ih =>
    intro O hO hp x y z h
    obtain ⟨⟨a1, a2, a3, n1, n2, n3, h1, h2, h3⟩, hp⟩ := hp
    rcases ih (hO.put ⟨n1, n2, n3, h1, h2, h3⟩) hp x y z h with h4 | ⟨u, hu, h4⟩
    · rw [look_putT hO.srt ⟨n1, n2, n3, h1, h2, h3⟩] at h4
      split at h4
      · rename_i e; injection h4 with h4; exact .inr ⟨t, List.mem_cons_self .., .inl ⟨e.1, e.2, h4.symm⟩⟩
      · split at h4
        · rename_i e; injection h4 with h4; exact .inr ⟨t, List.mem_cons_self .., .inr (.inl ⟨e.1, e.2, h4.symm⟩)⟩
        · split at h4
          · rename_i e; injection h4 with h4; exact .inr ⟨t, List.mem_cons_self .., .inr (.inr ⟨e.1, e.2, h4.symm⟩)⟩
          · exact .inl h4
    · exact .inr ⟨u, List.mem_cons_of_mem _ hu, h4⟩
/-- the triangles put turn left -/
def PosT (X Y : Nat → Int) (T : List Tri3) : Prop := ∀ t, t ∈ T → 0 < wy X Y t.1 t.2.1 t.2.2
def PosO (X Y : Nat → Int) (O : Nat → List (Nat × Nat)) : Prop := ∀ a b c : Nat, lookH (O a) b = some c → 0 < wy X Y a b c
theorem bld_pos {N q : Nat} {X Y : Nat → Int} (hg : allC N X Y = true) (hr : risC N X Y) (hl : isLn N X Y q) (hq : q < N) : ∀ k, q + k < N → PosT X Y (bld X Y q k).2 := by
 have h2 : 2 ≤ q := by have := hl.1; omega
 have hX := sX_ris hg hr
 intro k
 induction k with
 | zero =>
  intro _ t ht
  obtain ⟨i, hi⟩ := List.mem_iff_getElem?.1 ht
  obtain ⟨hi, rfl⟩ := begT_get _ _ _ _ hi
  have hL : gLn (sX X Y) Y q := fun i hi => by
   rcases Nat.lt_or_ge i 2 with h | h
   ·rcases (show i = 0 ∨ i = 1 by omega) with rfl | rfl
    ·exact gT_end1 _ _
    ·exact gT_end2 _ _
   ·exact (wy_gT hg 0 1 i (by omega) (by omega) (by omega)).2.1 (hl.2.2.1 i h hi)
  have c0 := wy_gT hg 0 1 q (by omega) (by omega) hq
  have hn := hl.2.2.2 hq
  show 0 < wy X Y (gH (begH X Y q) i) (gH (begH X Y q) (i + 1)) q
  unfold begH
  split
  ·rename_i hh
   have g1 : ∀ i, i < q → gH (List.range q).reverse i = q - 1 - i := fun i h => by rw [← gH_app _ q i (by simpa using h), gH_dn, if_pos h]
   rw [g1 i (by omega), g1 (i + 1) (by omega)]
   have := (ln_out hX (by omega) hL (show q - 1 - (i + 1) < q - 1 - i by omega) (by omega) hq).2 (c0.1.1 hh)
   have c1 := wy_gT hg (q - 1 - (i + 1)) (q - 1 - i) q (by omega) (by omega) hq
   have := c1.1.2 this
   have h3 := wy_swap hg (show q - 1 - (i + 1) < N by omega) (show q - 1 - i < N by omega) hq
   rw [h3]; omega
  ·rename_i hh
   have g1 : ∀ i, i < q → gH (List.range q) i = i := fun i h => by rw [← gH_app _ q i (by simpa using h), gH_up, if_pos (by omega)]
   rw [g1 i (by omega), g1 (i + 1) (by omega)]
   have hp : 0 < gT (sX X Y) Y 0 1 q := by have a := mt c0.1.2 hh; have b := mt c0.2.2 hn; omega
   have := (ln_out hX (by omega) hL (show i < i + 1 by omega) (by omega) hq).1 hp
   have c1 := wy_gT hg i (i + 1) q (by omega) (by omega) hq
   have a1 := mt c1.1.1 (by omega)
   have a2 := mt c1.2.1 (by omega)
   omega
 | succ k ih =>
  intro hk t ht
  have A := bld_add hX (wy_gT hg) h2 hq (fun i h1 h2 => hl.2.2.1 i h1 h2) (hl.2.2.2 hq) k hk
  obtain ⟨H, _, _⟩ := bld_st hg hr hl hq k (by omega)
  have h3 := H.len
  rcases List.mem_append.1 ht with ht | ht
  ·exact ih (by omega) t ht
  ·obtain ⟨j, hj, rfl⟩ := addT_mem _ _ _ _ ht
   have hs := A.run j hj
   have ml : ∀ k', k' % (bld X Y q k).1.length < (bld X Y q k).1.length := fun k' => Nat.mod_lt _ (by omega)
   have l1 := H.le _ (ml (firstI X Y (bld X Y q k).1 (q + k + 1) + j))
   have l2 := H.le _ (ml (firstI X Y (bld X Y q k).1 (q + k + 1) + j + 1))
   unfold sE at hs
   rw [nx_mod] at hs
   exact wy_turn hg (Nat.lt_of_le_of_lt l1 (by omega)) (Nat.lt_of_le_of_lt l2 (by omega)) hk (of_decide_eq_true hs)
theorem Tri.pos {N q : Nat} {X Y : Nat → Int} {T : List Tri3} {O : Nat → List (Nat × Nat)} (h : Tri N X Y q T O) (hg : allC N X Y = true) (hr : risC N X Y) : PosT X Y T ∧ PosO X Y O := by
  have hT : PosT X Y T := by
    rcases Nat.lt_or_ge q N with hq | hq
    · obtain ⟨_, _, e, _⟩ := h.some hq
      rw [e]; exact bld_pos hg hr h.ln hq _ (by omega)
    · have := h.none (by have := h.ln.2.1; omega)
      rw [this]; intro t ht; cases ht
  refine ⟨hT, fun a b c hl => ?_⟩
  have hp : PutOk N (fun _ => []) T := putok_fresh _ rep_none h.fresh
  rw [h.all] at hl
  rcases look_all T Cyc.nil hp a b c hl with h4 | ⟨t, ht, h4⟩
  · cases h4
  · have h5 := hT t ht
    obtain ⟨_, hd, _⟩ := h.cyc
    rw [← h.all] at hl
    obtain ⟨d1, d2, d3⟩ := hd _ _ _ hl
    rcases h4 with ⟨rfl, rfl, rfl⟩ | ⟨rfl, rfl, rfl⟩ | ⟨rfl, rfl, rfl⟩
    · exact h5
    · rw [wy_rot hg d3 d1 d2]; exact h5
    · rw [← wy_rot hg d1 d2 d3]; exact h5
/-- where a point lies to a triangle -/
def inT (X Y : Nat → Int) (px py : Int) (x : Tri3) : Int := inW (X x.1) (Y x.1) (X x.2.1) (Y x.2.1) (X x.2.2) (Y x.2.2) px py
theorem inT_bey {X Y : Nat → Int} {px py : Int} {x : Tri3} (h : 0 < wy X Y x.1 x.2.1 x.2.2) : 0 ≤ inT X Y px py x ↔ rp px py = true ∧ bey X Y px py x.1 x.2.1 x.2.2 = none := by
  have h1 : wy X Y x.1 x.2.1 x.2.2 = 1 := by rcases wy_cases X Y x.1 x.2.1 x.2.2 with e | e | e <;> omega
  rw [bey_none]
  unfold inT inW inV
  unfold wy at h1
  rw [h1]
  cases hg : rp px py with
  | false => simp
  | true =>
    show 0 ≤ in3 _ _ _ ↔ _
    unfold in3 wyp
    rw [Int.mul_one, Int.mul_one, Int.mul_one]
    simp only [true_and]
    omega
theorem rInT_is (_ _ : Nat → Int) (px py : Int) (ax ay bx b_y cx cy r : Int) (hr : inW ax ay bx b_y cx cy px py = r) (w : World) :
    Calls Try.prog 22 #[pI ax ay, pI bx b_y, pI cx cy, pI px py] w fun e w' => e = .returned (.int .i64 r) ∧ Below w.heap.size w w' := hr ▸ rIn_any ax ay bx b_y cx cy px py w
@[go_sem] theorem run_eqTz (w : World) : (Op.equalIn 10000 36 (tI 0 0 0) (tI 0 0 0)).run Try.prog w = .ok true w := by kernel_rfl
end Go.Proofs.Ytdlpfiiakmhnlaa

namespace Go.Proofs.Ytdlpfiiakmhnlaa
open Go.RowKit

section
variable {X Y : Nat → Int} {N m : Nat}
/-- two segments cross within both -/
def fcg (X Y : Nat → Int) (a b c d : Nat) : Prop := gT X Y a b c * gT X Y a b d < 0 ∧ gT X Y c d a * gT X Y c d b < 0
theorem fcg_sym {a b c d : Nat} (h : fcg X Y a b c d) : fcg X Y c d a b := ⟨h.2, h.1⟩
theorem gT_neg (a b c : Nat) : gT X Y b a c = -gT X Y a b c := gT_swap a b c
theorem fcg_swap {a b c d : Nat} (h : fcg X Y a b c d) : fcg X Y b a c d := by
  obtain ⟨h1, h2⟩ := h
  refine ⟨?_, by rw [Int.mul_comm]; exact h2⟩
  rw [gT_neg, gT_neg a b d, Int.neg_mul_neg]; exact h1
theorem fcg_swap2 {a b c d : Nat} (h : fcg X Y a b c d) : fcg X Y a b d c := fcg_sym (fcg_swap (fcg_sym h))
theorem fcg_share {a b c d : Nat} (h : a = c ∨ a = d ∨ b = c ∨ b = d) : ¬ fcg X Y a b c d := by
  rintro ⟨h1, h2⟩
  rcases h with rfl | rfl | rfl | rfl
  · rw [gT_end1, Int.zero_mul] at h1; omega
  · rw [gT_end1, Int.mul_zero] at h1; omega
  · rw [gT_end2, Int.zero_mul] at h1; omega
  · rw [gT_end2, Int.mul_zero] at h1; omega
theorem mul_neg_cases {x y : Int} (h : x * y < 0) : (0 < x ∧ y < 0) ∨ (x < 0 ∧ 0 < y) := by
  rcases Int.lt_trichotomy x 0 with hx | hx | hx
  · right
    refine ⟨hx, ?_⟩
    rcases Int.lt_trichotomy y 0 with hy | hy | hy
    · have := Int.mul_pos_of_neg_of_neg hx hy; omega
    · rw [hy, Int.mul_zero] at h; omega
    · exact hy
  · rw [hx, Int.zero_mul] at h; omega
  · left
    refine ⟨hx, ?_⟩
    rcases Int.lt_trichotomy y 0 with hy | hy | hy
    · exact hy
    · rw [hy, Int.mul_zero] at h; omega
    · have := Int.mul_pos hx hy; omega
/-- a point to the right of a way is joined with the way's begin: this crosses nothing to the way's left -/
theorem gT_vis (e z p c d : Nat) : gT X Y e z p * gT X Y e c d = gT X Y e p d * gT X Y e z c - gT X Y e p c * gT X Y e z d := by unfold gT; grind
theorem gT_cdp (e p c d : Nat) : gT X Y c d p = gT X Y e c d + gT X Y e p c - gT X Y e p d := by unfold gT; grind
theorem gT_cde (e c d : Nat) : gT X Y c d e = gT X Y e c d := by unfold gT; grind
theorem vis_no {e z p c d : Nat} (hs : gT X Y e z p < 0) (hc : 0 ≤ gT X Y e z c) (hd : 0 ≤ gT X Y e z d) : ¬ fcg X Y e p c d := by
  rintro ⟨h1, h2⟩
  have k1 := gT_vis (X := X) (Y := Y) e z p c d
  rw [gT_cde, gT_cdp e p c d] at h2
  rcases mul_neg_cases h1 with ⟨a1, a2⟩ | ⟨a1, a2⟩
  · have h3 : gT X Y e c d < 0 := by
      rcases mul_neg_cases h2 with ⟨b1, b2⟩ | ⟨b1, b2⟩ <;> omega
    have k2 := Int.mul_pos_of_neg_of_neg hs h3
    have k3 : gT X Y e p d * gT X Y e z c ≤ 0 := Int.mul_nonpos_of_nonpos_of_nonneg (by omega) hc
    have k4 : 0 ≤ gT X Y e p c * gT X Y e z d := Int.mul_nonneg (by omega) hd
    omega
  · have h3 : 0 < gT X Y e c d := by
      rcases mul_neg_cases h2 with ⟨b1, b2⟩ | ⟨b1, b2⟩ <;> omega
    have k2 := Int.mul_neg_of_neg_of_pos hs h3
    have k3 : 0 ≤ gT X Y e p d * gT X Y e z c := Int.mul_nonneg (by omega) hc
    have k4 : gT X Y e p c * gT X Y e z d ≤ 0 := Int.mul_nonpos_of_nonpos_of_nonneg (by omega) hd
    omega
theorem gT_vis2 (e z p c d : Nat) : gT X Y z e p * gT X Y e c d = gT X Y e p c * gT X Y e z d - gT X Y e p d * gT X Y e z c := by unfold gT; grind
theorem vis_no2 {e z p c d : Nat} (hs : gT X Y z e p < 0) (hc : 0 ≤ gT X Y z e c) (hd : 0 ≤ gT X Y z e d) : ¬ fcg X Y e p c d := by
  rintro ⟨h1, h2⟩
  have k1 := gT_vis2 (X := X) (Y := Y) e z p c d
  rw [gT_neg] at hc hd
  rw [gT_cde, gT_cdp e p c d] at h2
  rcases mul_neg_cases h1 with ⟨a1, a2⟩ | ⟨a1, a2⟩
  · have h3 : gT X Y e c d < 0 := by
      rcases mul_neg_cases h2 with ⟨b1, b2⟩ | ⟨b1, b2⟩ <;> omega
    have k2 := Int.mul_pos_of_neg_of_neg hs h3
    have k3 : gT X Y e p c * gT X Y e z d ≤ 0 := Int.mul_nonpos_of_nonneg_of_nonpos (by omega) (by omega)
    have k4 : 0 ≤ gT X Y e p d * gT X Y e z c := Int.mul_nonneg_of_nonpos_of_nonpos (by omega) (by omega)
    omega
  · have h3 : 0 < gT X Y e c d := by
      rcases mul_neg_cases h2 with ⟨b1, b2⟩ | ⟨b1, b2⟩ <;> omega
    have k2 := Int.mul_neg_of_neg_of_pos hs h3
    have k3 : 0 ≤ gT X Y e p c * gT X Y e z d := Int.mul_nonneg_of_nonpos_of_nonpos (by omega) (by omega)
    have k4 : gT X Y e p d * gT X Y e z c ≤ 0 := Int.mul_nonpos_of_nonneg_of_nonpos (by omega) (by omega)
    omega
/-- where a point lies by its corners' weights -/
theorem gT_bar (a b c k : Nat) : gT X Y b c k * (X k - X a) + gT X Y c a k * (X k - X b) + gT X Y a b k * (X k - X c) = 0 := by unfold gT; grind
theorem gT_sum (a b c k : Nat) : gT X Y b c k + gT X Y c a k + gT X Y a b k = gT X Y a b c := by unfold gT; grind
/-- a point behind all corners is in no triangle -/
theorem far_out {a b c k : Nat} (h0 : 0 < gT X Y a b c) (h1 : 0 ≤ gT X Y a b k) (h2 : 0 ≤ gT X Y b c k) (h3 : 0 ≤ gT X Y c a k) (ha : X a < X k) (hb : X b < X k) (hc : X c < X k) : False := by
  have k1 := gT_bar (X := X) (Y := Y) a b c k
  have k2 := gT_sum (X := X) (Y := Y) a b c k
  have m1 : 0 ≤ gT X Y b c k * (X k - X a) := Int.mul_nonneg h2 (by omega)
  have m2 : 0 ≤ gT X Y c a k * (X k - X b) := Int.mul_nonneg h3 (by omega)
  have m3 : 0 ≤ gT X Y a b k * (X k - X c) := Int.mul_nonneg h1 (by omega)
  rcases (show 0 < gT X Y b c k ∨ 0 < gT X Y c a k ∨ 0 < gT X Y a b k by omega) with h | h | h
  · have := Int.mul_pos h (show 0 < X k - X a by omega); omega
  · have := Int.mul_pos h (show 0 < X k - X b by omega); omega
  · have := Int.mul_pos h (show 0 < X k - X c by omega); omega
/-- a point of a triangle on a side lies between its ends -/
theorem side_btw {a b c k : Nat} (h0 : 0 < gT X Y a b c) (h1 : gT X Y a b k = 0) (h2 : 0 ≤ gT X Y b c k) (h3 : 0 ≤ gT X Y c a k) : (X a ≤ X k ∧ X k ≤ X b) ∨ (X b ≤ X k ∧ X k ≤ X a) := by
  have k1 := gT_bar (X := X) (Y := Y) a b c k
  have k2 := gT_sum (X := X) (Y := Y) a b c k
  rw [h1, Int.zero_mul] at k1
  rw [h1] at k2
  rcases Int.lt_or_le (X k) (X a) with ha | ha
  · rcases Int.lt_or_le (X k) (X b) with hb | hb
    · have m1 : gT X Y b c k * (X k - X a) ≤ 0 := Int.mul_nonpos_of_nonneg_of_nonpos h2 (by omega)
      have m2 : gT X Y c a k * (X k - X b) ≤ 0 := Int.mul_nonpos_of_nonneg_of_nonpos h3 (by omega)
      rcases (show 0 < gT X Y b c k ∨ 0 < gT X Y c a k by omega) with h | h
      · have := Int.mul_neg_of_pos_of_neg h (show X k - X a < 0 by omega); omega
      · have := Int.mul_neg_of_pos_of_neg h (show X k - X b < 0 by omega); omega
    · exact .inr ⟨hb, by omega⟩
  · rcases Int.lt_or_le (X b) (X k) with hb | hb
    · rcases Int.lt_or_le (X a) (X k) with ha2 | ha2
      · have m1 : 0 ≤ gT X Y b c k * (X k - X a) := Int.mul_nonneg h2 (by omega)
        have m2 : 0 ≤ gT X Y c a k * (X k - X b) := Int.mul_nonneg h3 (by omega)
        rcases (show 0 < gT X Y b c k ∨ 0 < gT X Y c a k by omega) with h | h
        · have := Int.mul_pos h (show 0 < X k - X a by omega); omega
        · have := Int.mul_pos h (show 0 < X k - X b by omega); omega
      · exact .inr ⟨by omega, by omega⟩
    · exact .inl ⟨ha, hb⟩
theorem ris_le (hX : gRis X N) {i j : Nat} (hi : i < N) (_ : j < N) (h : X i ≤ X j) : i ≤ j := by
  rcases Nat.lt_or_ge j i with h1 | h1
  · have := hX j i h1 hi; omega
  · exact h1
theorem side_idx (hX : gRis X N) {a b c k : Nat} (ha : a < N) (hb : b < N) (hk : k < N) (na : k ≠ a) (nb : k ≠ b) (h0 : 0 < gT X Y a b c) (h1 : gT X Y a b k = 0) (h2 : 0 ≤ gT X Y b c k) (h3 : 0 ≤ gT X Y c a k) : (a < k ∧ k < b) ∨ (b < k ∧ k < a) := by
  rcases side_btw h0 h1 h2 h3 with ⟨x1, x2⟩ | ⟨x1, x2⟩
  · have := ris_le hX ha hk x1
    have := ris_le hX hk hb x2
    omega
  · have := ris_le hX hb hk x1
    have := ris_le hX hk ha x2
    omega
/-- a triangulation of the points up to m, but for what it covers -/
structure Geo (X Y : Nat → Int) (m : Nat) (T : List Tri3) : Prop where
  pos : ∀ t, t ∈ T → 0 < gT X Y t.1 t.2.1 t.2.2
  emp : ∀ t, t ∈ T → ∀ k, k ≤ m → k ≠ t.1 → k ≠ t.2.1 → k ≠ t.2.2 → ¬ (0 ≤ gT X Y t.1 t.2.1 k ∧ 0 ≤ gT X Y t.2.1 t.2.2 k ∧ 0 ≤ gT X Y t.2.2 t.1 k)
  nox : ∀ a b c d, gSd T a b → gSd T c d → ¬ fcg X Y a b c d
  use : ∀ k, k ≤ m → ∃ t, t ∈ T ∧ (k = t.1 ∨ k = t.2.1 ∨ k = t.2.2)
theorem gSd_corner {T : List Tri3} {t : Tri3} (ht : t ∈ T) : gSd T t.1 t.2.1 ∧ gSd T t.2.1 t.2.2 ∧ gSd T t.2.2 t.1 := ⟨⟨t, ht, .inl ⟨rfl, rfl⟩⟩, ⟨t, ht, .inr (.inl ⟨rfl, rfl⟩)⟩, ⟨t, ht, .inr (.inr ⟨rfl, rfl⟩)⟩⟩
/-- one point more -/
theorem Geo.add {h : List Nat} {T : List Tri3} (G : Geo X Y m T) (H : Hul X Y m h) (B : Bnd m h T) (hX : gRis X N) (hp : m + 1 < N) {f j : Nat} (hj0 : 0 < j)
    (run : ∀ k, k < j → gT X Y (gH h ((f + k) % h.length)) (gH h ((f + (k + 1)) % h.length)) (m + 1) < 0) : Geo X Y (m + 1) (T ++ addT h (m + 1) f j) := by
 have h3 := H.len
 have ml : ∀ k, k % h.length < h.length := fun k => Nat.mod_lt _ (by omega)
 have le : ∀ k, gH h (k % h.length) ≤ m := fun k => H.le _ (ml k)
 have ed : ∀ k, gE X Y m (gH h ((f + k) % h.length)) (gH h ((f + (k + 1)) % h.length)) := fun k => by
  have := H.edge _ (ml (f + k))
  rw [Nat.mod_add_mod] at this
  exact this
 have turn : ∀ k, k < j → 0 < gT X Y (gH h ((f + k) % h.length)) (m + 1) (gH h ((f + (k + 1)) % h.length)) := fun k hk => by
  have := run k hk
  have e : gT X Y (gH h ((f + k) % h.length)) (m + 1) (gH h ((f + (k + 1)) % h.length)) = -gT X Y (gH h ((f + k) % h.length)) (gH h ((f + (k + 1)) % h.length)) (m + 1) := by unfold gT; grind
  omega
 -- a side holds the new point, or is an old one, or goes back on the hull
 have cls : ∀ a b, gSd (T ++ addT h (m + 1) f j) a b → gSd T a b ∨ (∃ k, k < j ∧ a = gH h ((f + (k + 1)) % h.length) ∧ b = gH h ((f + k) % h.length)) ∨
   (∃ k, k < j ∧ ((a = m + 1 ∧ (b = gH h ((f + k) % h.length) ∨ b = gH h ((f + (k + 1)) % h.length))) ∨ (b = m + 1 ∧ (a = gH h ((f + k) % h.length) ∨ a = gH h ((f + (k + 1)) % h.length))))) := by
  intro a b hs
  rcases Sd_app hs with hs | ⟨t, ht, hs⟩
  ·exact .inl hs
  ·obtain ⟨k, hk, rfl⟩ := addT_mem _ _ _ _ ht
   right
   rcases hs with ⟨h1, h2⟩ | ⟨h1, h2⟩ | ⟨h1, h2⟩
   ·exact .inr ⟨k, hk, .inr ⟨h2, .inl h1⟩⟩
   ·exact .inr ⟨k, hk, .inl ⟨h1, .inr h2⟩⟩
   ·exact .inl ⟨k, hk, h1, h2⟩
 have newNo : ∀ k x c d, k < j → (x = gH h ((f + k) % h.length) ∨ x = gH h ((f + (k + 1)) % h.length)) → c ≤ m → d ≤ m → ¬ fcg X Y x (m + 1) c d := by
  intro k x c d hk hx hc hd
  rcases hx with rfl | rfl
  ·exact vis_no (run k hk) ((ed k) c hc).1 ((ed k) d hd).1
  ·exact vis_no2 (run k hk) ((ed k) c hc).1 ((ed k) d hd).1
 have hulNo : ∀ k c d, c ≤ m → d ≤ m → ¬ fcg X Y (gH h ((f + (k + 1)) % h.length)) (gH h ((f + k) % h.length)) c d := by
  intro k c d hc hd hf
  have h1 := (fcg_swap hf).1
  have := Int.mul_nonneg ((ed k) c hc).1 ((ed k) d hd).1
  omega
 have old : ∀ a b, (gSd T a b ∨ ∃ k, k < j ∧ a = gH h ((f + (k + 1)) % h.length) ∧ b = gH h ((f + k) % h.length)) → a ≤ m ∧ b ≤ m := by
  rintro a b (h1 | ⟨k, _, rfl, rfl⟩)
  ·exact B.dom _ _ h1
  ·exact ⟨le _, le _⟩
 have new1 : ∀ a b c d, (∃ k, k < j ∧ ((a = m + 1 ∧ (b = gH h ((f + k) % h.length) ∨ b = gH h ((f + (k + 1)) % h.length))) ∨ (b = m + 1 ∧ (a = gH h ((f + k) % h.length) ∨ a = gH h ((f + (k + 1)) % h.length))))) → c ≤ m → d ≤ m → ¬ fcg X Y a b c d := by
  rintro a b c d ⟨k, hk, ⟨rfl, hb⟩ | ⟨rfl, ha⟩⟩ hc hd hf
  ·exact newNo k _ c d hk hb hc hd (fcg_swap hf)
  ·exact newNo k _ c d hk ha hc hd hf
 refine ⟨fun t ht => ?_, fun t ht k hk n1 n2 n3 hin => ?_, fun a b c d hab hcd hf => ?_, fun k hk => ?_⟩
 ·rcases List.mem_append.1 ht with ht | ht
  ·exact G.pos t ht
  ·obtain ⟨k, hk, rfl⟩ := addT_mem _ _ _ _ ht
   exact turn k hk
 ·rcases List.mem_append.1 ht with ht | ht
  ·rcases Nat.lt_or_ge m k with hk2 | hk2
   ·obtain rfl : k = m + 1 := by omega
    obtain ⟨c1, c2, c3⟩ := gSd_corner ht
    have d1 := B.dom _ _ c1
    have d2 := B.dom _ _ c2
    exact far_out (G.pos t ht) hin.1 hin.2.1 hin.2.2 (hX _ _ (by omega) hp) (hX _ _ (by omega) hp) (hX _ _ (by omega) hp)
   ·exact G.emp t ht k hk2 n1 n2 n3 hin
  ·obtain ⟨i, hi, rfl⟩ := addT_mem _ _ _ _ ht
   simp only [] at n1 n2 n3 hin
   have hkm : k ≤ m := by omega
   obtain ⟨e1, e2⟩ := (ed i) k hkm
   have e3 : gT X Y (gH h ((f + (i + 1)) % h.length)) (gH h ((f + i) % h.length)) k = -gT X Y (gH h ((f + i) % h.length)) (gH h ((f + (i + 1)) % h.length)) k := gT_swap _ _ _
   have e0 : gT X Y (gH h ((f + (i + 1)) % h.length)) (gH h ((f + i) % h.length)) k = 0 := by omega
   have e4 := e2 (by omega)
   have := side_idx hX (Nat.lt_of_le_of_lt (le (f + (i + 1))) (by omega)) (Nat.lt_of_le_of_lt (le (f + i)) (by omega)) (show k < N by omega) n3 n1 (by rw [← gT_rot]; exact turn i hi) e0 hin.1 hin.2.1
   omega
 ·rcases cls a b hab with h1 | h1 | h1
  ·rcases cls c d hcd with h2 | ⟨k, hk, rfl, rfl⟩ | h2
   ·exact G.nox _ _ _ _ h1 h2 hf
   ·exact hulNo k a b (B.dom _ _ h1).1 (B.dom _ _ h1).2 (fcg_sym hf)
   ·exact new1 c d a b h2 (B.dom _ _ h1).1 (B.dom _ _ h1).2 (fcg_sym hf)
  ·have d1 := old a b (.inr h1)
   rcases cls c d hcd with h2 | h2 | h2
   ·obtain ⟨k, hk, rfl, rfl⟩ := h1
    exact hulNo k c d (B.dom _ _ h2).1 (B.dom _ _ h2).2 hf
   ·have d2 := old c d (.inr h2)
    obtain ⟨k, hk, rfl, rfl⟩ := h1
    exact hulNo k c d d2.1 d2.2 hf
   ·exact new1 c d a b h2 d1.1 d1.2 (fcg_sym hf)
  ·rcases cls c d hcd with h2 | h2 | h2
   ·exact new1 a b c d h1 (B.dom _ _ h2).1 (B.dom _ _ h2).2 hf
   ·have d2 := old c d (.inr h2)
    exact new1 a b c d h1 d2.1 d2.2 hf
   ·obtain ⟨k, _, h1⟩ := h1
    obtain ⟨k', _, h2⟩ := h2
    exact fcg_share (by omega) hf
 ·rcases Nat.lt_or_ge m k with hk2 | hk2
  ·obtain rfl : k = m + 1 := by omega
   exact ⟨_, List.mem_append.2 (.inr (addT_mem2 hj0)), .inr (.inl rfl)⟩
  ·obtain ⟨t, ht, h1⟩ := G.use k hk2
   exact ⟨t, List.mem_append.2 (.inl ht), h1⟩
/-- the first points, on a line -/
theorem Geo.beg {b : List Nat} {q : Nat} (hX : gRis X N) (h2 : 2 ≤ q) (hq : q < N) (hl : gLn X Y q) (hb : ∀ i, i < q → gH b i < q) (hone : ∀ i, i + 1 < q → gH b (i + 1) = gH b i + 1 ∨ gH b i = gH b (i + 1) + 1) (hall : ∀ k, k < q → ∃ i, i < q ∧ gH b i = k)
    (hpos : ∀ i, i + 1 < q → 0 < gT X Y (gH b i) (gH b (i + 1)) q) : Geo X Y q (begT b q) := by
 have lin : ∀ i j k, i < q → j < q → k < q → gT X Y i j k = 0 := fun i j k hi hj hk => ln_in hX (by omega) hl hi hj hk
 have mem : ∀ t, t ∈ begT b q → ∃ i, i + 1 < q ∧ t = (gH b i, gH b (i + 1), q) := fun t ht => by
  obtain ⟨i, hi⟩ := List.mem_iff_getElem?.1 ht
  obtain ⟨h1, h2⟩ := begT_get _ _ _ _ hi
  exact ⟨i, by omega, h2⟩
 have cls : ∀ a c, gSd (begT b q) a c → (a < q ∧ c < q) ∨ (a = q ∧ c < q) ∨ (c = q ∧ a < q) := by
  rintro a c ⟨t, ht, hs⟩
  obtain ⟨i, hi, rfl⟩ := mem t ht
  have b1 := hb i (by omega)
  have b2 := hb (i + 1) hi
  unfold gsd at hs
  simp only [] at hs
  omega
 refine ⟨fun t ht => ?_, fun t ht k hk n1 n2 n3 hin => ?_, fun a c d e hab hcd hf => ?_, fun k hk => ?_⟩
 ·obtain ⟨i, hi, rfl⟩ := mem t ht
  exact hpos i hi
 ·obtain ⟨i, hi, rfl⟩ := mem t ht
  simp only [] at n1 n2 n3 hin
  have b1 := hb i (by omega)
  have b2 := hb (i + 1) hi
  have := side_idx hX (show gH b i < N by omega) (show gH b (i + 1) < N by omega) (show k < N by omega) n1 n2 (hpos i hi) (lin _ _ _ b1 b2 (by omega)) hin.2.1 hin.2.2
  have := hone i hi
  omega
 ·have key : ∀ a c d e, a < q → c < q → d < q → ¬ fcg X Y a c d e := fun a c d e ha hc hd hf => by
   have := hf.1
   rw [lin a c d ha hc hd, Int.zero_mul] at this; omega
  rcases cls a c hab with h1 | h1 | h1
  ·rcases cls d e hcd with h2 | h2 | h2
   ·exact key a c d e h1.1 h1.2 h2.1 hf
   ·exact key a c e d h1.1 h1.2 h2.2 (fcg_swap2 hf)
   ·exact key a c d e h1.1 h1.2 h2.2 hf
  ·rcases cls d e hcd with h2 | h2 | h2
   ·exact key d e c a h2.1 h2.2 h1.2 (fcg_swap2 (fcg_sym hf))
   ·exact fcg_share (by omega) hf
   ·exact fcg_share (by omega) hf
  ·rcases cls d e hcd with h2 | h2 | h2
   ·exact key d e a c h2.1 h2.2 h1.2 (fcg_sym hf)
   ·exact fcg_share (by omega) hf
   ·exact fcg_share (by omega) hf
 ·rcases Nat.lt_or_ge k q with hk2 | hk2
  ·obtain ⟨i, hi, rfl⟩ := hall k hk2
   rcases Nat.lt_or_ge (i + 1) q with h1 | h1
   ·exact ⟨_, begT_mem (by omega), .inl rfl⟩
   ·obtain ⟨i', rfl⟩ : ∃ i', i = i' + 1 := ⟨i - 1, by omega⟩
    exact ⟨_, begT_mem (k := i') (by omega), .inr (.inl rfl)⟩
  ·obtain rfl : k = q := by omega
   exact ⟨_, begT_mem (k := 0) (by omega), .inr (.inr rfl)⟩
end
end Go.Proofs.Ytdlpfiiakmhnlaa

namespace Go.Proofs.Ytdlpfiiakmhnlaa
open Go.RowKit

section
variable {X Y : Nat → Int} {N m : Nat}
def cO (X Y : Nat → Int) (a b : Nat) : Int := X a * Y b - X b * Y a
theorem cO_swap (a b : Nat) : cO X Y b a = -cO X Y a b := by unfold cO; grind
theorem gT_cO (a b c : Nat) : gT X Y a b c = cO X Y a b + cO X Y b c + cO X Y c a := by unfold gT cO; grind
theorem sumN_add (f g : Nat → Int) : ∀ k, sumN (fun i => f i + g i) k = sumN f k + sumN g k
  | 0 => rfl
  | k + 1 => by
    show sumN (fun i => f i + g i) k + (f k + g k) = (sumN f k + f k) + (sumN g k + g k)
    rw [sumN_add f g k]; omega
theorem sumN_app (f : Nat → Int) (a : Nat) : ∀ b, sumN f (a + b) = sumN f a + sumN (fun i => f (a + i)) b
  | 0 => by show sumN f a = sumN f a + 0; omega
  | b + 1 => by
    show sumN f (a + b) + f (a + b) = sumN f a + (sumN (fun i => f (a + i)) b + f (a + b))
    rw [sumN_app f a b]; omega
theorem sumN_tel (f : Nat → Int) : ∀ k, sumN (fun i => f (i + 1) - f i) k = f k - f 0
  | 0 => by show 0 = f 0 - f 0; omega
  | k + 1 => by
    show sumN (fun i => f (i + 1) - f i) k + (f (k + 1) - f k) = _
    rw [sumN_tel f k]; omega
theorem sumN_sub (f g : Nat → Int) (k : Nat) : sumN (fun i => f i - g i) k = sumN f k - sumN g k := by
  have := sumN_add f (fun i => -g i) k
  rw [sumN_neg] at this
  rw [show (fun i => f i - g i) = fun i => f i + -g i from funext fun i => by omega, this]; omega
/-- twice what a way around covers -/
def shoe (X Y : Nat → Int) (h : List Nat) : Int := sumN (fun i => cO X Y (gH h i) (gH h ((i + 1) % h.length))) h.length
/-- sums around, from any place on -/
theorem sumN_cyc (F : Nat → Int) (n : Nat) (hn : 0 < n) : ∀ z, sumN (fun k => F ((z + k) % n)) n = sumN F n
  | 0 => sumN_congr n fun i hi => by show F ((0 + i) % n) = F i; rw [Nat.zero_add, Nat.mod_eq_of_lt hi]
  | z + 1 => by
    have ih := sumN_cyc F n hn z
    have h1 := sumN_shift (fun k => F ((z + k) % n)) n
    have h2 : sumN (fun k => F ((z + k) % n)) (n + 1) = sumN (fun k => F ((z + k) % n)) n + F ((z + n) % n) := rfl
    have h3 : sumN (fun k => F ((z + 1 + k) % n)) n = sumN (fun i => F ((z + (i + 1)) % n)) n := sumN_congr n fun i _ => by show F _ = F _; rw [show z + 1 + i = z + (i + 1) by omega]
    rw [h3]
    have h4 : F ((z + n) % n) = F ((z + 0) % n) := by rw [Nat.add_mod_right, Nat.add_zero]
    have h5 : sumN (fun k => F ((z + k) % n)) (n + 1) = F ((z + 0) % n) + sumN (fun i => F ((z + (i + 1)) % n)) n := h1
    omega
/-- what triangles cover -/
def arT (X Y : Nat → Int) (T : List Tri3) : Int := (T.map fun t => gT X Y t.1 t.2.1 t.2.2).sum
theorem arT_app (T U : List Tri3) : arT X Y (T ++ U) = arT X Y T + arT X Y U := by unfold arT; rw [List.map_append, List.sum_append]
theorem sum_range (f : Nat → Int) : ∀ k, ((List.range k).map f).sum = sumN f k
  | 0 => rfl
  | k + 1 => by rw [List.range_succ, List.map_append, List.sum_append, sum_range f k]; simp [sumN]
theorem arT_beg (b : List Nat) (q : Nat) (h2 : 2 ≤ q) (hb : b.length = q) : arT X Y (begT b q) = shoe X Y (b ++ [q]) := by
  obtain ⟨r, rfl⟩ : ∃ r, q = r + 1 := ⟨q - 1, by omega⟩
  have e1 : arT X Y (begT b (r + 1)) = sumN (fun i => gT X Y (gH b i) (gH b (i + 1)) (r + 1)) r := by
    unfold arT begT
    rw [List.map_map, Nat.add_sub_cancel, ← sum_range]; rfl
  have hl : (b ++ [r + 1]).length = r + 2 := by simp [hb]
  have g1 : ∀ i, i < r + 1 → gH (b ++ [r + 1]) i = gH b i := fun i hi => gH_app b _ i (by omega)
  have g2 : gH (b ++ [r + 1]) (r + 1) = r + 1 := by have := gH_app2 b (r + 1); rwa [hb] at this
  have e2 : shoe X Y (b ++ [r + 1]) = sumN (fun i => cO X Y (gH b i) (gH b (i + 1))) r + cO X Y (gH b r) (r + 1) + cO X Y (r + 1) (gH b 0) := by
    unfold shoe
    rw [hl]
    show sumN _ r + cO X Y (gH (b ++ [r + 1]) r) (gH (b ++ [r + 1]) ((r + 1) % (r + 2))) + cO X Y (gH (b ++ [r + 1]) (r + 1)) (gH (b ++ [r + 1]) ((r + 2) % (r + 2))) = _
    rw [Nat.mod_self, g1 r (by omega), g1 0 (by omega), Nat.mod_eq_of_lt (show r + 1 < r + 2 by omega), g2]
    congr 2
    refine sumN_congr r fun i hi => ?_
    show cO X Y (gH _ i) (gH _ ((i + 1) % (r + 2))) = _
    rw [Nat.mod_eq_of_lt (by omega), g1 i (by omega), g1 (i + 1) (by omega)]
  have e3 : sumN (fun i => gT X Y (gH b i) (gH b (i + 1)) (r + 1)) r = sumN (fun i => cO X Y (gH b i) (gH b (i + 1))) r + sumN (fun i => cO X Y (gH b (i + 1)) (r + 1) - cO X Y (gH b i) (r + 1)) r := by
    rw [← sumN_add]
    refine sumN_congr r fun i _ => ?_
    show gT X Y _ _ _ = _
    rw [gT_cO, cO_swap (gH b i) (r + 1)]; omega
  rw [e1, e2, e3, sumN_tel (fun i => cO X Y (gH b i) (r + 1)) r, cO_swap (gH b 0) (r + 1)]
  omega
theorem arT_add {h : List Nat} (p f j : Nat) (h3 : 3 ≤ h.length) (hf : f < h.length) (_ : 0 < j) (hj1 : j < h.length) : shoe X Y (addH h p f j) = shoe X Y h + arT X Y (addT h p f j) := by
 obtain ⟨n, hn⟩ : ∃ n, h.length = n := ⟨_, rfl⟩
 have e1 : arT X Y (addT h p f j) = sumN (fun k => gT X Y (gH h ((f + k) % n)) p (gH h ((f + (k + 1)) % n))) j := by
  unfold arT
  rw [← sum_range]
  congr 1
  refine List.ext_getElem? fun k => ?_
  rw [List.getElem?_map, List.getElem?_map]
  rcases Nat.lt_or_ge k j with hk | hk
  ·obtain ⟨t, ht⟩ : ∃ t, (addT h p f j)[k]? = some t := ⟨_, List.getElem?_eq_getElem (show k < (addT h p f j).length by rw [addT_len]; exact hk)⟩
   obtain ⟨_, rfl⟩ := addT_get _ _ _ _ _ ht
   rw [ht, List.getElem?_range hk, hn]; rfl
  ·rw [List.getElem?_eq_none (by rw [addT_len]; exact hk), List.getElem?_eq_none (by simpa using hk)]; rfl
 have e2 : sumN (fun k => gT X Y (gH h ((f + k) % n)) p (gH h ((f + (k + 1)) % n))) j = cO X Y (gH h (f % n)) p + cO X Y p (gH h ((f + j) % n)) - sumN (fun k => cO X Y (gH h ((f + k) % n)) (gH h ((f + (k + 1)) % n))) j := by
  have a1 : sumN (fun k => gT X Y (gH h ((f + k) % n)) p (gH h ((f + (k + 1)) % n))) j = sumN (fun k => (cO X Y p (gH h ((f + (k + 1)) % n)) - cO X Y p (gH h ((f + k) % n))) - cO X Y (gH h ((f + k) % n)) (gH h ((f + (k + 1)) % n))) j := by
   refine sumN_congr j fun k _ => ?_
   show gT X Y _ _ _ = _
   rw [gT_cO, cO_swap p (gH h ((f + k) % n)), cO_swap (gH h ((f + k) % n)) (gH h ((f + (k + 1)) % n))]; omega
  rw [a1, sumN_sub, sumN_tel (fun k => cO X Y p (gH h ((f + k) % n))) j, cO_swap p (gH h (f % n))]
  show cO X Y p (gH h ((f + j) % n)) - cO X Y p (gH h ((f + 0) % n)) - _ = _
  rw [Nat.add_zero]
  omega
 have hl : (addH h p f j).length = (n - j) + 2 := by rw [addH_len, hn]
 have e3 : shoe X Y (addH h p f j) = cO X Y (gH h (f % n)) p + (cO X Y p (gH h ((f + j) % n)) + sumN (fun k => cO X Y (gH h ((f + (j + k)) % n)) (gH h ((f + (j + k + 1)) % n))) (n - j)) := by
  unfold shoe
  rw [hl, sumN_shift, sumN_shift]
  obtain ⟨c, hc⟩ : ∃ c, n - j = c + 1 := ⟨n - j - 1, by omega⟩
  have g0 := addH_0 (h := h) p f j
  have g1 := addH_1 (h := h) p f j
  have g2 : ∀ i, i < c + 1 → gH (addH h p f j) (i + 2) = gH h ((f + j + i) % n) := fun i hi => by rw [addH_2 p f j i (by omega), hn]
  rw [hc]
  congr 1
  ·show cO X Y (gH _ 0) (gH _ ((0 + 1) % (c + 1 + 2))) = _
   rw [g0, Nat.mod_eq_of_lt (by omega), g1, Nat.mod_eq_of_lt (by omega)]
  ·congr 1
   ·show cO X Y (gH _ (0 + 1)) (gH _ ((0 + 1 + 1) % (c + 1 + 2))) = _
    rw [g1, Nat.mod_eq_of_lt (by omega), g2 0 (by omega), Nat.add_zero]
   ·refine sumN_congr (c + 1) fun i hi => ?_
    show cO X Y (gH _ (i + 1 + 1)) (gH _ ((i + 1 + 1 + 1) % (c + 1 + 2))) = _
    rw [g2 i hi, show f + j + i = f + (j + i) by omega]
    congr 1
    rcases Nat.lt_or_ge (i + 1) (c + 1) with h1 | h1
    ·rw [Nat.mod_eq_of_lt (by omega), g2 (i + 1) h1, show f + j + (i + 1) = f + (j + i + 1) by omega]
    ·rw [show i + 1 + 1 + 1 = c + 1 + 2 by omega, Nat.mod_self, g0, show f + (j + i + 1) = f + n by omega, Nat.add_mod_right, Nat.mod_eq_of_lt (by omega)]
 have e4 : shoe X Y h = sumN (fun k => cO X Y (gH h ((f + k) % n)) (gH h ((f + (k + 1)) % n))) n := by
  have := sumN_cyc (fun i => cO X Y (gH h i) (gH h ((i + 1) % n))) n (by omega) f
  unfold shoe
  rw [hn, ← this]
  refine sumN_congr n fun k _ => ?_
  show cO X Y _ (gH h (((f + k) % n + 1) % n)) = _
  rw [Nat.mod_add_mod]; rfl
 have e5 := sumN_app (fun k => cO X Y (gH h ((f + k) % n)) (gH h ((f + (k + 1)) % n))) j (n - j)
 rw [show j + (n - j) = n by omega] at e5
 rw [e1, e2, e3, e4, e5]
 omega
/-- by the fan from the first corner -/
theorem shoe_fan (h : List Nat) (r : Nat) (hl : h.length = r + 2) : shoe X Y h = sumN (fun i => gT X Y (gH h 0) (gH h (i + 1)) (gH h (i + 2))) r := by
  have a1 : sumN (fun i => gT X Y (gH h 0) (gH h (i + 1)) (gH h (i + 2))) r = sumN (fun i => cO X Y (gH h (i + 1)) (gH h (i + 1 + 1))) r - sumN (fun i => cO X Y (gH h 0) (gH h (i + 1 + 1)) - cO X Y (gH h 0) (gH h (i + 1))) r := by
    rw [← sumN_sub]
    refine sumN_congr r fun i _ => ?_
    show gT X Y _ _ _ = _
    rw [gT_cO, cO_swap (gH h 0) (gH h (i + 2))]
    show _ = cO X Y (gH h (i + 1)) (gH h (i + 2)) - (cO X Y (gH h 0) (gH h (i + 2)) - _)
    omega
  rw [a1, sumN_tel (fun i => cO X Y (gH h 0) (gH h (i + 1))) r]
  unfold shoe
  rw [hl]
  show sumN (fun i => cO X Y (gH h i) (gH h ((i + 1) % (r + 2)))) (r + 1) + cO X Y (gH h (r + 1)) (gH h ((r + 1 + 1) % (r + 2))) = _
  rw [Nat.mod_self, sumN_shift, Nat.mod_eq_of_lt (show 0 + 1 < r + 2 by omega), cO_swap (gH h 0) (gH h (r + 1))]
  have a2 : sumN (fun i => cO X Y (gH h (i + 1)) (gH h ((i + 1 + 1) % (r + 2)))) r = sumN (fun i => cO X Y (gH h (i + 1)) (gH h (i + 1 + 1))) r := sumN_congr r fun i hi => by
    show cO X Y _ (gH h ((i + 1 + 1) % (r + 2))) = _
    rw [Nat.mod_eq_of_lt (by omega)]
  rw [a2]
  show cO X Y (gH h 0) (gH h (0 + 1)) + _ + _ = _ - (_ - cO X Y (gH h 0) (gH h (0 + 1)))
  omega
theorem shoe_rot (h : List Nat) (z : Nat) (h0 : 0 < h.length) : shoe X Y (rotH h z) = shoe X Y h := by
  obtain ⟨n, hn⟩ : ∃ n, h.length = n := ⟨_, rfl⟩
  have := sumN_cyc (fun i => cO X Y (gH h i) (gH h ((i + 1) % n))) n (by omega) z
  unfold shoe
  rw [rotH_len, hn, ← this]
  refine sumN_congr n fun k hk => ?_
  show cO X Y (gH (rotH h z) k) (gH (rotH h z) ((k + 1) % n)) = cO X Y (gH h ((z + k) % n)) (gH h (((z + k) % n + 1) % n))
  rw [rotH_at (by rw [hn]; exact hk), rotH_at (by rw [hn]; exact Nat.mod_lt _ (by omega)), hn, Nat.mod_add_mod, Nat.add_mod_mod]
  rfl
end
/-- what Build makes is a triangulation, and covers what the hull does -/
theorem bld_geo {N q : Nat} {X Y : Nat → Int} (hg : allC N X Y = true) (hr : risC N X Y) (hl : isLn N X Y q) (hq : q < N) : ∀ k, q + k < N → Geo (sX X Y) Y (q + k) (bld X Y q k).2 ∧ arT (sX X Y) Y (bld X Y q k).2 = shoe (sX X Y) Y (bld X Y q k).1 := by
 have h2 : 2 ≤ q := by have := hl.1; omega
 have hX := sX_ris hg hr
 intro k
 induction k with
 | zero =>
  intro _
  have hL : gLn (sX X Y) Y q := fun i hi => by
   rcases Nat.lt_or_ge i 2 with h | h
   ·rcases (show i = 0 ∨ i = 1 by omega) with rfl | rfl
    ·exact gT_end1 _ _
    ·exact gT_end2 _ _
   ·exact (wy_gT hg 0 1 i (by omega) (by omega) (by omega)).2.1 (hl.2.2.1 i h hi)
  have c0 := wy_gT hg 0 1 q (by omega) (by omega) hq
  have hn := hl.2.2.2 hq
  show Geo (sX X Y) Y q (begT (begH X Y q) q) ∧ arT (sX X Y) Y (begT (begH X Y q) q) = shoe (sX X Y) Y (begH X Y q ++ [q])
  refine ⟨?_, arT_beg _ _ h2 (begH_len X Y q)⟩
  unfold begH
  split
  ·rename_i hh
   have g1 : ∀ i, i < q → gH (List.range q).reverse i = q - 1 - i := fun i h => by rw [← gH_app _ q i (by simpa using h), gH_dn, if_pos h]
   refine Geo.beg hX h2 hq hL (fun i hi => by rw [g1 i hi]; omega) (fun i hi => by rw [g1 i (by omega), g1 (i + 1) hi]; omega) (fun k hk => ⟨q - 1 - k, by omega, by rw [g1 _ (by omega)]; omega⟩) (fun i hi => ?_)
   rw [g1 i (by omega), g1 (i + 1) hi]
   have := (ln_out hX (by omega) hL (show q - 1 - (i + 1) < q - 1 - i by omega) (by omega) hq).2 (c0.1.1 hh)
   have e := gT_swap (X := sX X Y) (Y := Y) (q - 1 - (i + 1)) (q - 1 - i) q
   omega
  ·rename_i hh
   have g1 : ∀ i, i < q → gH (List.range q) i = i := fun i h => by rw [← gH_app _ q i (by simpa using h), gH_up, if_pos (by omega)]
   have hp : 0 < gT (sX X Y) Y 0 1 q := by have a := mt c0.1.2 hh; have b := mt c0.2.2 hn; omega
   refine Geo.beg hX h2 hq hL (fun i hi => by rw [g1 i hi]; omega) (fun i hi => by rw [g1 i (by omega), g1 (i + 1) hi]; omega) (fun k hk => ⟨k, hk, g1 k hk⟩) (fun i hi => ?_)
   rw [g1 i (by omega), g1 (i + 1) hi]
   exact (ln_out hX (by omega) hL (show i < i + 1 by omega) (by omega) hq).1 hp
 | succ k ih =>
  intro hk
  obtain ⟨G, ha⟩ := ih (by omega)
  have A := bld_add hX (wy_gT hg) h2 hq (fun i h1 h2 => hl.2.2.1 i h1 h2) (hl.2.2.2 hq) k hk
  obtain ⟨H, B, _⟩ := bld_st hg hr hl hq k (by omega)
  have h3 := H.len
  have ml : ∀ k', k' % (bld X Y q k).1.length < (bld X Y q k).1.length := fun k' => Nat.mod_lt _ (by omega)
  refine ⟨G.add H B hX hk A.j0 fun j hj => ?_, ?_⟩
  ·have hs := A.run j hj
   have l1 := H.le _ (ml (firstI X Y (bld X Y q k).1 (q + k + 1) + j))
   have l2 := H.le _ (ml (firstI X Y (bld X Y q k).1 (q + k + 1) + (j + 1)))
   unfold sE at hs
   rw [nx_mod] at hs
   exact (wy_gT hg _ _ _ (Nat.lt_of_le_of_lt l1 (by omega)) (Nat.lt_of_le_of_lt l2 (by omega)) hk).1.1 (of_decide_eq_true hs)
  ·show arT (sX X Y) Y ((bld X Y q k).2 ++ addT _ _ _ _) = shoe (sX X Y) Y (addH _ _ _ _)
   rw [arT_app, ha, arT_add _ _ _ h3 A.f0 A.j0 A.j1]
end Go.Proofs.Ytdlpfiiakmhnlaa

namespace Go.Proofs.Ytdlpfiiakmhnlaa
open Go.RowKit

/-- two lists in order -/
def mrg : List Nat → List Nat → List Nat
  | [], b => b
  | x :: a, [] => x :: a
  | x :: a, y :: b => if y < x then y :: mrg (x :: a) b else x :: mrg a (y :: b)
termination_by a b => a.length + b.length
theorem mrg_nil (b : List Nat) : mrg [] b = b := by rw [mrg]
theorem mrg_nil2 (a : List Nat) : mrg a [] = a := by cases a <;> rw [mrg]
theorem mrg_lt {x y : Nat} {a b : List Nat} (h : y < x) : mrg (x :: a) (y :: b) = y :: mrg (x :: a) b := by rw [mrg, if_pos h]
theorem mrg_ge {x y : Nat} {a b : List Nat} (h : ¬ y < x) : mrg (x :: a) (y :: b) = x :: mrg a (y :: b) := by rw [mrg, if_neg h]
theorem mrg_len : ∀ (n : Nat) (a b : List Nat), a.length + b.length ≤ n → (mrg a b).length = a.length + b.length := by
  intro n
  induction n with
  | zero =>
    intro a b h
    obtain rfl : a = [] := List.eq_nil_of_length_eq_zero (by omega)
    rw [mrg_nil]; simp
  | succ n ih =>
    intro a b h
    cases a with
    | nil => rw [mrg_nil]; simp
    | cons x a =>
      cases b with
      | nil => rw [mrg_nil2]; simp
      | cons y b =>
        simp only [List.length_cons] at h
        by_cases hl : y < x
        · rw [mrg_lt hl, List.length_cons, ih _ _ (by simp only [List.length_cons]; omega)]; simp only [List.length_cons]; omega
        · rw [mrg_ge hl, List.length_cons, ih _ _ (by simp only [List.length_cons]; omega)]; simp only [List.length_cons]; omega
theorem mrg_mem : ∀ (n : Nat) (a b : List Nat), a.length + b.length ≤ n → ∀ z, z ∈ mrg a b ↔ z ∈ a ∨ z ∈ b := by
  intro n
  induction n with
  | zero =>
    intro a b h z
    obtain rfl : a = [] := List.eq_nil_of_length_eq_zero (by omega)
    rw [mrg_nil]; simp
  | succ n ih =>
    intro a b h z
    cases a with
    | nil => rw [mrg_nil]; simp
    | cons x a =>
      cases b with
      | nil => rw [mrg_nil2]; simp
      | cons y b =>
        simp only [List.length_cons] at h
        by_cases hl : y < x
        · rw [mrg_lt hl, List.mem_cons, ih _ _ (by simp only [List.length_cons]; omega)]
          simp only [List.mem_cons]
          constructor
          · rintro (h | (h | h) | h)
            · exact .inr (.inl h)
            · exact .inl (.inl h)
            · exact .inl (.inr h)
            · exact .inr (.inr h)
          · rintro ((h | h) | (h | h))
            · exact .inr (.inl (.inl h))
            · exact .inr (.inl (.inr h))
            · exact .inl h
            · exact .inr (.inr h)
        · rw [mrg_ge hl, List.mem_cons, ih _ _ (by simp only [List.length_cons]; omega)]
          simp only [List.mem_cons]
          constructor
          · rintro (h | h | (h | h))
            · exact .inl (.inl h)
            · exact .inl (.inr h)
            · exact .inr (.inl h)
            · exact .inr (.inr h)
          · rintro ((h | h) | (h | h))
            · exact .inl h
            · exact .inr (.inl h)
            · exact .inr (.inr (.inl h))
            · exact .inr (.inr (.inr h))
def Asc (l : List Nat) : Prop := l.Pairwise (· ≤ ·)
theorem mrg_asc : ∀ (n : Nat) (a b : List Nat), a.length + b.length ≤ n → Asc a → Asc b → Asc (mrg a b) := by
  intro n
  induction n with
  | zero =>
    intro a b h ha hb
    obtain rfl : a = [] := List.eq_nil_of_length_eq_zero (by omega)
    rw [mrg_nil]; exact hb
  | succ n ih =>
    intro a b h ha hb
    cases a with
    | nil => rw [mrg_nil]; exact hb
    | cons x a =>
      cases b with
      | nil => rw [mrg_nil2]; exact ha
      | cons y b =>
        simp only [List.length_cons] at h
        have ca := List.pairwise_cons.1 ha
        have cb := List.pairwise_cons.1 hb
        by_cases hl : y < x
        · rw [mrg_lt hl]
          refine List.pairwise_cons.2 ⟨fun z hz => ?_, ih _ _ (by simp only [List.length_cons]; omega) ha cb.2⟩
          rcases (mrg_mem _ _ _ (Nat.le_refl _) z).1 hz with h1 | h1
          · rcases List.mem_cons.1 h1 with rfl | h1
            · omega
            · have := ca.1 z h1; omega
          · exact cb.1 z h1
        · rw [mrg_ge hl]
          refine List.pairwise_cons.2 ⟨fun z hz => ?_, ih _ _ (by simp only [List.length_cons]; omega) ca.2 hb⟩
          rcases (mrg_mem _ _ _ (Nat.le_refl _) z).1 hz with h1 | h1
          · exact ca.1 z h1
          · rcases List.mem_cons.1 h1 with rfl | h1
            · omega
            · have := cb.1 z h1; omega
/-- a slice of numbers, to be read -/
structure Ns (w : World) (ao : Option Addr) (cap : Nat) (L : List Nat) : Prop where
  ptr : 0 < L.length → ∃ g o, ao = some ⟨g, o, none⟩ ∧ g < w.heap.size ∧ ∀ j x, L[j]? = some x → w.cell? ⟨g, o + j, none⟩ = some (.int .i64 (x : Nat))
  capl : L.length ≤ cap
  capb : cap ≤ 9223372036854775807
theorem Ns.of {w w' : World} {ao : Option Addr} {cap : Nat} {L : List Nat} (h : Ns w ao cap L) (hb : Below w.heap.size w w') : Ns w' ao cap L := by
  refine ⟨fun h0 => ?_, h.capl, h.capb⟩
  obtain ⟨g, o, e, hg, hc⟩ := h.ptr h0
  exact ⟨g, o, e, Nat.lt_of_lt_of_le hg hb.size, fun j x hx => (hb.cell (p := ⟨g, o + j, none⟩) hg).trans (hc j x hx)⟩
theorem Ns.below {B : Nat} {w w' : World} {ao : Option Addr} {cap : Nat} {L : List Nat} (h : Ns w ao cap L) (hb : Below B w w') (hB : ∀ g o, ao = some ⟨g, o, none⟩ → 0 < L.length → g < B) : Ns w' ao cap L := by
  refine ⟨fun h0 => ?_, h.capl, h.capb⟩
  obtain ⟨g, o, e, hg, hc⟩ := h.ptr h0
  exact ⟨g, o, e, Nat.lt_of_lt_of_le hg hb.size, fun j x hx => (hb.cell (p := ⟨g, o + j, none⟩) (hB g o e h0)).trans (hc j x hx)⟩
theorem Ns.ofNL {w : World} {base : Nat} {v : Value} {L : List Nat} (h : NL w base v L) : ∃ ao cap, v = .slice ao L.length cap ∧ Ns w ao cap L := by
  obtain ⟨ao, cap, e, h1, h2, h3⟩ := h.val
  refine ⟨ao, cap, e, fun h0 => ?_, h1, h2⟩
  obtain ⟨g, rfl, _, hg, hc⟩ := h3 h0
  exact ⟨g, 0, rfl, hg, fun j x hx => by rw [Nat.zero_add]; exact hc j x hx⟩
theorem Ns.nil (w : World) : Ns w none 0 [] := ⟨fun h => absurd h (by simp), Nat.le_refl _, by omega⟩
abbrev cmpF : Value := .func (.func 66) #[] #[]
end Go.Proofs.Ytdlpfiiakmhnlaa

namespace Go.Proofs.Ytdlpfiiakmhnlaa
open Go.RowKit

/-- pieces of s things are in order -/
def Pcs (s : Nat) (l : List Nat) : Prop := ∀ k, Asc ((l.drop (k * s)).take s)
theorem asc_short {l : List Nat} (h : l.length ≤ 1) : Asc l := by
  match l, h with
  | [], _ => exact List.Pairwise.nil
  | [x], _ => exact List.pairwise_singleton _ _
theorem pcs_one (l : List Nat) : Pcs 1 l := fun k => asc_short (by rw [List.length_take]; omega)
theorem pcs_end {s : Nat} {l : List Nat} (h : Pcs s l) (hl : l.length ≤ s) : Asc l := by
  have := h 0
  rw [Nat.zero_mul, List.drop_zero, List.take_of_length_le hl] at this
  exact this
theorem pcs_app {t j : Nat} {l m : List Nat} (ht : 0 < t) (h : Pcs t l) (hl : l.length = j * t) (hm : Asc m) (hml : m.length ≤ t) : Pcs t (l ++ m) := by
  intro k
  rcases Nat.lt_trichotomy k j with hk | hk | hk
  · have h1 : (k + 1) * t ≤ j * t := Nat.mul_le_mul_right t hk
    rw [Nat.succ_mul] at h1
    rw [List.drop_append_of_le_length (by omega), List.take_append_of_le_length (by rw [List.length_drop]; omega)]
    exact h k
  · subst hk
    rw [← hl, List.drop_left, List.take_of_length_le hml]
    exact hm
  · have h1 : (j + 1) * t ≤ k * t := Nat.mul_le_mul_right t hk
    rw [Nat.succ_mul] at h1
    rw [List.drop_eq_nil_of_le (by rw [List.length_append]; omega)]
    simp [Asc]
/-- a piece of a list -/
def cut (l : List Nat) (a b : Nat) : List Nat := (l.drop a).take (b - a)
theorem cut_len {l : List Nat} {a b : Nat} (hb : b ≤ l.length) : (cut l a b).length = b - a := by unfold cut; rw [List.length_take, List.length_drop]; omega
theorem cut_at {l : List Nat} {a b j : Nat} {x : Nat} (h : (cut l a b)[j]? = some x) : l[a + j]? = some x := by
  unfold cut at h
  rcases Nat.lt_or_ge j (b - a) with h1 | h1
  · rw [List.getElem?_take_of_lt h1, List.getElem?_drop] at h; exact h
  · rw [List.getElem?_take_eq_none h1] at h; cases h
theorem cut_asc {s j : Nat} {l : List Nat} {a b : Nat} (h : Pcs s l) (ha : a = j * s) (hb : b = min (a + s) l.length) : Asc (cut l a b) := by
  have := h j
  unfold cut
  rw [← ha] at this
  rcases Nat.le_total (a + s) l.length with h1 | h1
  · rw [hb, Nat.min_eq_left h1, show a + s - a = s by omega]; exact this
  · rw [hb, Nat.min_eq_right h1]
    rw [List.take_of_length_le (by rw [List.length_drop]; omega)] at this
    rw [List.take_of_length_le (by rw [List.length_drop]; omega)]; exact this
theorem mem_cut {l : List Nat} {a b : Nat} (hab : a ≤ b) (z : Nat) : z ∈ l.take b ↔ z ∈ l.take a ∨ z ∈ cut l a b := by
  have e : l.take b = l.take a ++ cut l a b := by
    unfold cut
    conv => lhs; rw [show b = a + (b - a) by omega]
    rw [List.take_add]
  rw [e, List.mem_append]
theorem pass_one {s j c n mid en : Nat} {R X : List Nat} (hs : 1 ≤ s) (hR : R.length = n) (hP : Pcs s R) (hc : c = j * (2 * s)) (hcn : c < n) (hmid : mid = min (c + s) n) (hen : en = min (c + 2 * s) n) (hX : X.length = c) (hXP : Pcs (2 * s) X) (hXm : ∀ z, z ∈ X ↔ z ∈ R.take c) :
    (mrg (cut R c mid) (cut R mid en)).length = en - c ∧ Pcs (2 * s) (X ++ mrg (cut R c mid) (cut R mid en)) ∧ ∀ z, z ∈ X ++ mrg (cut R c mid) (cut R mid en) ↔ z ∈ R.take en := by
  have l1 : (cut R c mid).length = mid - c := cut_len (by omega)
  have l2 : (cut R mid en).length = en - mid := cut_len (by omega)
  have lm : (mrg (cut R c mid) (cut R mid en)).length = en - c := by rw [mrg_len _ _ _ (Nat.le_refl _), l1, l2]; omega
  have e1 : c = (2 * j) * s := by rw [hc, Nat.mul_left_comm, Nat.mul_assoc]
  have a1 : Asc (cut R c mid) := cut_asc hP e1 (by rw [hR]; exact hmid)
  have a2 : Asc (cut R mid en) := by
    rcases Nat.lt_or_ge n (c + s) with h | h
    · exact asc_short (by omega)
    · have e2 : mid = (2 * j + 1) * s := by rw [Nat.succ_mul, ← e1]; omega
      exact cut_asc hP e2 (by rw [hR]; omega)
  refine ⟨lm, pcs_app (j := j) (by omega) hXP (by rw [hX]; exact hc) (mrg_asc _ _ _ (Nat.le_refl _) a1 a2) (by omega), fun z => ?_⟩
  rw [List.mem_append, mrg_mem _ _ _ (Nat.le_refl _), hXm, mem_cut (show mid ≤ en by omega), mem_cut (show c ≤ mid by omega), or_assoc]
end Go.Proofs.Ytdlpfiiakmhnlaa

namespace Go.Proofs.Ytdlpfiiakmhnlaa
open Go.RowKit

/-- one of each run of things alike -/
def dd : List Nat → List Nat
  | [] => []
  | [x] => [x]
  | x :: y :: l => if x = y then dd (y :: l) else x :: dd (y :: l)
/-- one more thing -/
theorem dd_snoc : ∀ (l : List Nat) (x y : Nat), dd (l ++ [x, y]) = if x = y then dd (l ++ [x]) else dd (l ++ [x]) ++ [y]
  | [], x, y => by
    by_cases h : x = y
    · subst h; simp [dd]
    · simp [dd, h]
  | [a], x, y => by
    show dd (a :: x :: [y]) = _
    by_cases h1 : a = x <;> by_cases h : x = y <;> simp [dd, h1, h]
  | a :: b :: l, x, y => by
    have ih := dd_snoc (b :: l) x y
    show dd (a :: b :: (l ++ [x, y])) = if x = y then dd (a :: b :: (l ++ [x])) else dd (a :: b :: (l ++ [x])) ++ [y]
    have ih2 : dd (b :: (l ++ [x, y])) = if x = y then dd (b :: (l ++ [x])) else dd (b :: (l ++ [x])) ++ [y] := ih
    rw [dd, dd]
    by_cases h1 : a = b
    · rw [if_pos h1, if_pos h1]; exact ih2
    · rw [if_neg h1, if_neg h1, ih2]
      by_cases h : x = y <;> simp [h]
theorem dd_mem : ∀ (l : List Nat) (z : Nat), z ∈ dd l ↔ z ∈ l
  | [], z => by simp [dd]
  | [x], z => by simp [dd]
  | x :: y :: l, z => by
    have ih := dd_mem (y :: l) z
    unfold dd
    by_cases h : x = y
    · subst h
      rw [if_pos rfl, ih]
      simp
    · rw [if_neg h, List.mem_cons, ih]
      simp only [List.mem_cons]
theorem dd_up : ∀ (l : List Nat), Asc l → (dd l).Pairwise (· < ·)
  | [], _ => by simp [dd]
  | [x], _ => by simp [dd]
  | x :: y :: l, h => by
    have hc := List.pairwise_cons.1 h
    have ih := dd_up (y :: l) hc.2
    unfold dd
    by_cases e : x = y
    · rw [if_pos e]; exact ih
    · rw [if_neg e]
      refine List.pairwise_cons.2 ⟨fun z hz => ?_, ih⟩
      have h1 := (dd_mem (y :: l) z).1 hz
      have h2 := hc.1 z h1
      have h3 := hc.1 y (List.mem_cons_self ..)
      rcases List.mem_cons.1 h1 with rfl | h1
      · omega
      · have := (List.pairwise_cons.1 hc.2).1 z h1
        have h4 : y ≤ z := this
        omega
theorem dd_len : ∀ (l : List Nat), (dd l).length ≤ l.length
  | [] => by simp [dd]
  | [x] => by simp [dd]
  | x :: y :: l => by
    have ih := dd_len (y :: l)
    unfold dd
    split
    · simp only [List.length_cons] at ih ⊢; omega
    · simp only [List.length_cons] at ih ⊢; omega
/-- the state behind i things: k runs are whole, the one that began at f goes on -/
def RunAt (L : List Nat) (f i k : Nat) : Prop := ∃ D x, dd (L.take i) = D ++ [x] ∧ D.length = k ∧ L[i - 1]? = some x ∧ L[f]? = some x ∧ f < i
theorem run_0 {L : List Nat} (h : 0 < L.length) : RunAt L 0 1 0 := by
  obtain ⟨x, hx⟩ : ∃ x, L[0]? = some x := ⟨_, List.getElem?_eq_getElem h⟩
  refine ⟨[], x, ?_, rfl, hx, hx, by omega⟩
  cases L with
  | nil => simp at h
  | cons y l => simp at hx; subst hx; simp [dd]
theorem take_two {L : List Nat} {i x y : Nat} (h0 : 0 < i) (hx : L[i - 1]? = some x) (hy : L[i]? = some y) : L.take i = L.take (i - 1) ++ [x] ∧ L.take (i + 1) = L.take (i - 1) ++ [x, y] := by
  have e : L.take i = L.take (i - 1) ++ [x] := by
    conv => lhs; rw [show i = i - 1 + 1 by omega]
    rw [List.take_add_one, hx]; rfl
  refine ⟨e, ?_⟩
  rw [List.take_add_one, hy, e]; simp
theorem run_same {L : List Nat} {f i k x : Nat} (h : RunAt L f i k) (h0 : 0 < i) (hx : L[i - 1]? = some x) (hy : L[i]? = some x) : RunAt L f (i + 1) k := by
  obtain ⟨D, x', h1, h2, h3, h4, h5⟩ := h
  rw [hx] at h3
  injection h3 with h3
  subst h3
  obtain ⟨e1, e2⟩ := take_two h0 hx hy
  refine ⟨D, x, ?_, h2, by simpa using hy, h4, by omega⟩
  rw [e2, dd_snoc, if_pos rfl, ← e1]; exact h1
theorem run_new {L : List Nat} {f i k x y : Nat} (h : RunAt L f i k) (h0 : 0 < i) (hx : L[i - 1]? = some x) (hy : L[i]? = some y) (hne : x ≠ y) : RunAt L i (i + 1) (k + 1) := by
  obtain ⟨D, x', h1, h2, h3, h4, h5⟩ := h
  obtain ⟨e1, e2⟩ := take_two h0 hx hy
  refine ⟨D ++ [x'], y, ?_, by simp [h2], by simpa using hy, hy, by omega⟩
  rw [e2, dd_snoc, if_neg hne, ← e1, h1]
theorem run_end {L : List Nat} {f k : Nat} (h : RunAt L f L.length k) : k + 1 = (dd L).length := by
  obtain ⟨D, x, h1, h2, _⟩ := h
  rw [List.take_of_length_le (Nat.le_refl _)] at h1
  rw [h1, List.length_append, h2]; rfl
theorem dd_app : ∀ (A B : List Nat) (x y : Nat), x ≠ y → dd (A ++ [x] ++ y :: B) = dd (A ++ [x]) ++ dd (y :: B)
  | [], B, x, y, h => by simp [dd, h]
  | [a], B, x, y, h => by
    show dd (a :: x :: y :: B) = dd [a, x] ++ _
    by_cases h1 : a = x <;> simp [dd, h1, h]
  | a :: b :: A, B, x, y, h => by
    have ih := dd_app (b :: A) B x y h
    show dd (a :: b :: (A ++ [x] ++ y :: B)) = dd (a :: b :: (A ++ [x])) ++ _
    have ih2 : dd (b :: (A ++ [x] ++ y :: B)) = dd (b :: (A ++ [x])) ++ dd (y :: B) := ih
    rw [dd, dd]
    by_cases h1 : a = b
    · rw [if_pos h1, if_pos h1]; exact ih2
    · rw [if_neg h1, if_neg h1, ih2]; rfl
/-- what is told at the end of a run -/
theorem run_tell {L : List Nat} {f i k : Nat} (h : RunAt L f i k) (h0 : 0 < i) (hb : i = L.length ∨ ∃ x y, L[i - 1]? = some x ∧ L[i]? = some y ∧ x ≠ y) : (dd L)[k]? = L[f]? ∧ k < (dd L).length := by
  obtain ⟨D, x, h1, h2, h3, h4, h5⟩ := h
  rcases hb with rfl | ⟨x', y, hx, hy, hne⟩
  · rw [List.take_of_length_le (Nat.le_refl _)] at h1
    rw [h1, h4, ← h2]
    simp
  · rw [hx] at h3
    injection h3 with h3
    subst h3
    obtain ⟨e1, _⟩ := take_two h0 hx hy
    have hil : i < L.length := (List.getElem?_eq_some_iff.1 hy).1
    have hL : L = L.take (i - 1) ++ [x'] ++ y :: L.drop (i + 1) := by
      rw [← e1]
      conv => lhs; rw [← List.take_append_drop i L]
      rw [List.drop_eq_getElem_cons hil, (List.getElem?_eq_some_iff.1 hy).2]
    have hd : dd L = D ++ [x'] ++ dd (y :: L.drop (i + 1)) := by
      conv => lhs; rw [hL]
      rw [dd_app _ _ _ _ hne, ← e1, h1]
    rw [hd, h4, ← h2]
    constructor
    · rw [List.append_assoc, List.getElem?_append_right (Nat.le_refl _), Nat.sub_self]; rfl
    · simp
end Go.Proofs.Ytdlpfiiakmhnlaa

namespace Go.Proofs.Ytdlpfiiakmhnlaa
open Go.RowKit

/-- the ends that stand in a row -/
def ends (L : List (Nat × Nat)) : List Nat := L.flatMap fun x => [x.1, x.2]
theorem ends_len : ∀ (L : List (Nat × Nat)), (ends L).length = 2 * L.length
  | [] => rfl
  | x :: l => by
    show (ends l).length + 2 = _
    rw [ends_len l, List.length_cons]; omega
theorem ends_app (l m : List (Nat × Nat)) : ends (l ++ m) = ends l ++ ends m := by unfold ends; rw [List.flatMap_append]
/-- one of each, rising -/
def onc (N : Nat) (L : List (Nat × Nat)) : List Nat := (List.range N).filter fun b => (ends L).contains b
theorem onc_up (N : Nat) (L : List (Nat × Nat)) : (onc N L).Pairwise (· < ·) := List.Pairwise.filter _ List.pairwise_lt_range
theorem onc_mem {N : Nat} {L : List (Nat × Nat)} (z : Nat) : z ∈ onc N L ↔ z < N ∧ z ∈ ends L := by
  unfold onc
  rw [List.mem_filter, List.mem_range]; simp
theorem up_eq : ∀ (l m : List Nat), l.Pairwise (· < ·) → m.Pairwise (· < ·) → (∀ z, z ∈ l ↔ z ∈ m) → l = m
  | [], [], _, _, _ => rfl
  | [], y :: m, _, _, h => by have := (h y).2 (List.mem_cons_self ..); cases this
  | x :: l, [], _, _, h => by have := (h x).1 (List.mem_cons_self ..); cases this
  | x :: l, y :: m, hl, hm, h => by
    have cl := List.pairwise_cons.1 hl
    have cm := List.pairwise_cons.1 hm
    have hxy : x = y := by
      rcases List.mem_cons.1 ((h x).1 (List.mem_cons_self ..)) with e | e
      · exact e
      · rcases List.mem_cons.1 ((h y).2 (List.mem_cons_self ..)) with e2 | e2
        · exact e2.symm
        · have h1 := cl.1 y e2
          have h2 := cm.1 x e
          omega
    subst hxy
    congr 1
    refine up_eq l m cl.2 cm.2 fun z => ?_
    constructor
    · intro hz
      rcases List.mem_cons.1 ((h z).1 (List.mem_cons_of_mem _ hz)) with e | e
      · subst e; have := cl.1 z hz; omega
      · exact e
    · intro hz
      rcases List.mem_cons.1 ((h z).2 (List.mem_cons_of_mem _ hz)) with e | e
      · subst e; have := cm.1 z hz; omega
      · exact e
theorem onc_eq {N : Nat} {L : List (Nat × Nat)} {R : List Nat} (hR : R.Pairwise (· < ·)) (hm : ∀ z, z ∈ R ↔ z ∈ ends L) (hd : ∀ z, z ∈ ends L → z < N) : R = onc N L :=
  up_eq _ _ hR (onc_up N L) fun z => by rw [hm, onc_mem]; exact ⟨fun h => ⟨hd z h, h⟩, fun h => h.2⟩
/-- the edges of a vertex to greater ones -/
def edA (a : Nat) (l : List Nat) : List (Nat × Nat) := (l.filter fun b => decide (a < b)).map fun b => (a, b)
def preE (N : Nat) (O : Nat → List (Nat × Nat)) : Nat → List (Nat × Nat)
  | 0 => []
  | a + 1 => preE N O a ++ edA a (onc N (O a))
def posE (N : Nat) (O : Nat → List (Nat × Nat)) (a j : Nat) : Nat := (preE N O a).length + (edA a ((onc N (O a)).take j)).length
theorem edA_app (a : Nat) (l m : List Nat) : edA a (l ++ m) = edA a l ++ edA a m := by unfold edA; rw [List.filter_append, List.map_append]
theorem preE_le (N : Nat) (O : Nat → List (Nat × Nat)) (a : Nat) : ∀ M, a ≤ M → ∃ r, preE N O M = preE N O a ++ r := by
  intro M
  induction M with
  | zero => intro h; obtain rfl : a = 0 := by omega
            exact ⟨[], rfl⟩
  | succ M ih =>
    intro h
    rcases Nat.lt_or_ge a (M + 1) with h1 | h1
    · obtain ⟨r, hr⟩ := ih (by omega)
      exact ⟨r ++ edA M (onc N (O M)), by show preE N O M ++ _ = _; rw [hr, List.append_assoc]⟩
    · obtain rfl : a = M + 1 := by omega
      exact ⟨[], by rw [List.append_nil]⟩
theorem posE_0 (N : Nat) (O : Nat → List (Nat × Nat)) (a : Nat) : posE N O a 0 = (preE N O a).length := rfl
theorem posE_all (N : Nat) (O : Nat → List (Nat × Nat)) (a : Nat) : posE N O a (onc N (O a)).length = (preE N O (a + 1)).length := by
  unfold posE
  rw [List.take_length]
  show _ = (preE N O a ++ edA a (onc N (O a))).length
  rw [List.length_append]
theorem takeE {L : List Nat} {j x : Nat} (h : L[j]? = some x) : L.take (j + 1) = L.take j ++ [x] := by rw [List.take_add_one, h]; rfl
theorem posE_no {N : Nat} {O : Nat → List (Nat × Nat)} {a j x : Nat} (h : (onc N (O a))[j]? = some x) (hn : ¬ a < x) : posE N O a (j + 1) = posE N O a j := by
  have : edA a [x] = [] := by
    unfold edA
    rw [List.filter_cons, if_neg (by simpa using hn)]; rfl
  unfold posE
  rw [takeE h, edA_app, this, List.append_nil]
theorem posE_yes {N M : Nat} {O : Nat → List (Nat × Nat)} {a j x : Nat} (ha : a < M) (h : (onc N (O a))[j]? = some x) (hn : a < x) : posE N O a (j + 1) = posE N O a j + 1 ∧ (preE N O M)[posE N O a j]? = some (a, x) := by
  have h1 : edA a [x] = [(a, x)] := by
    unfold edA
    rw [List.filter_cons, if_pos (by simpa using hn)]; rfl
  constructor
  · unfold posE
    rw [takeE h, edA_app, h1, List.length_append]; rfl
  · obtain ⟨r, hr⟩ := preE_le N O (a + 1) M ha
    have hj : j < (onc N (O a)).length := (List.getElem?_eq_some_iff.1 h).1
    have h2 : onc N (O a) = (onc N (O a)).take j ++ x :: (onc N (O a)).drop (j + 1) := by
      conv => lhs; rw [← List.take_append_drop j (onc N (O a))]
      rw [List.drop_eq_getElem_cons hj, (List.getElem?_eq_some_iff.1 h).2]
    have h3 : edA a (onc N (O a)) = edA a ((onc N (O a)).take j) ++ ((a, x) :: edA a ((onc N (O a)).drop (j + 1))) := by
      conv => lhs; rw [h2]
      rw [edA_app, show x :: (onc N (O a)).drop (j + 1) = [x] ++ (onc N (O a)).drop (j + 1) from rfl, edA_app, h1]; rfl
    rw [hr]
    show ((preE N O a ++ edA a (onc N (O a))) ++ r)[(preE N O a).length + (edA a ((onc N (O a)).take j)).length]? = _
    rw [h3, List.append_assoc, List.append_assoc, List.getElem?_append_right (by omega), Nat.add_sub_cancel_left, List.getElem?_append_right (by omega), Nat.sub_self]; rfl
def edE (l : List (Nat × Nat)) (k : Nat) : Array Value := #[.int .i64 (l.getD k (0, 0)).1, .int .i64 (l.getD k (0, 0)).2]
end Go.Proofs.Ytdlpfiiakmhnlaa

namespace Go.Proofs.Ytdlpfiiakmhnlaa
open Go.RowKit

/-- a row without an end -/
def delH (b : Nat) (L : List (Nat × Nat)) : List (Nat × Nat) := L.filter fun x => decide (x.1 ≠ b)
theorem delH_sub {b : Nat} {L : List (Nat × Nat)} {x : Nat × Nat} (h : x ∈ delH b L) : x ∈ L := (List.mem_filter.1 h).1
theorem delH_sort {b : Nat} {L : List (Nat × Nat)} (h : SortH L) : SortH (delH b L) := sortH_pair.2 (List.Pairwise.filter _ (sortH_pair.1 h))
theorem filt_id {b : Nat} : ∀ {l : List (Nat × Nat)}, (∀ x, x ∈ l → x.1 ≠ b) → (l.filter fun x => decide (x.1 ≠ b)) = l := by
  intro l h
  rw [List.filter_eq_self]
  intro x hx
  simpa using h x hx
theorem delH_at {L : List (Nat × Nat)} {i b c : Nat} (hs : SortH L) (hx : L[i]? = some (b, c)) : L.take i ++ L.drop (i + 1) = delH b L := by
  have hi : i < L.length := (List.getElem?_eq_some_iff.1 hx).1
  have e : L = L.take i ++ (b, c) :: L.drop (i + 1) := by
    conv => lhs; rw [← List.take_append_drop i L]
    rw [List.drop_eq_getElem_cons hi, (List.getElem?_eq_some_iff.1 hx).2]
  have h1 : ∀ x, x ∈ L.take i → x.1 ≠ b := fun x h => by
    obtain ⟨j, hj⟩ := List.mem_iff_getElem?.1 h
    have hj2 : j < i := by
      have := (List.getElem?_eq_some_iff.1 hj).1
      rw [List.length_take] at this; omega
    rw [List.getElem?_take_of_lt hj2] at hj
    have := hs j i x (b, c) hj2 hj hx
    have h2 : x.1 < b := this
    omega
  have h2 : ∀ x, x ∈ L.drop (i + 1) → x.1 ≠ b := fun x h => by
    obtain ⟨j, hj⟩ := List.mem_iff_getElem?.1 h
    rw [List.getElem?_drop] at hj
    have := hs i (i + 1 + j) (b, c) x (by omega) hx hj
    have h2 : b < x.1 := this
    omega
  unfold delH
  conv => rhs; rw [e]
  rw [List.filter_append, List.filter_cons, if_neg (by simp), filt_id h1, filt_id h2]
theorem look_delH (b : Nat) : ∀ (L : List (Nat × Nat)) (y : Nat), lookH (delH b L) y = if y = b then none else lookH L y
  | [], y => by unfold lookH delH; simp
  | x :: l, y => by
    have ih := look_delH b l y
    unfold lookH delH at ih ⊢
    by_cases e : x.1 = b
    · rw [List.filter_cons, if_neg (by simpa using e), ih]
      by_cases e2 : y = b
      · rw [if_pos e2, if_pos e2]
      · rw [if_neg e2, if_neg e2, List.find?_cons]
        rw [show decide ((x.1 : Int) = (y : Int)) = false by simp; omega]
    · rw [List.filter_cons, if_pos (by simpa using e), List.find?_cons]
      by_cases e2 : y = b
      · rw [if_pos e2] at ih ⊢
        rw [show decide ((x.1 : Int) = (y : Int)) = false by simp; omega]
        exact ih
      · rw [if_neg e2] at ih ⊢
        rw [List.find?_cons]
        cases hd : decide ((x.1 : Int) = (y : Int)) with
        | true => rfl
        | false => exact ih
def del1 (O : Nat → List (Nat × Nat)) (a b : Nat) : Nat → List (Nat × Nat) := fun v => if v = a then delH b (O a) else O v
def delT (O : Nat → List (Nat × Nat)) (a b c : Nat) : Nat → List (Nat × Nat) := del1 (del1 (del1 O a b) b c) c a
theorem look_del1 (O : Nat → List (Nat × Nat)) (a b x y : Nat) : lookH (del1 O a b x) y = if x = a ∧ y = b then none else lookH (O x) y := by
  unfold del1
  by_cases e : x = a
  · subst e
    rw [if_pos rfl, look_delH]
    by_cases e2 : y = b
    · rw [if_pos e2, if_pos ⟨rfl, e2⟩]
    · rw [if_neg e2, if_neg fun h => e2 h.2]
  · rw [if_neg e, if_neg fun h => e h.1]
theorem look_delT (O : Nat → List (Nat × Nat)) (a b c x y : Nat) : lookH (delT O a b c x) y = if (x = a ∧ y = b) ∨ (x = b ∧ y = c) ∨ (x = c ∧ y = a) then none else lookH (O x) y := by
  unfold delT
  rw [look_del1, look_del1, look_del1]
  by_cases h3 : x = c ∧ y = a
  · rw [if_pos h3, if_pos (Or.inr (Or.inr h3))]
  · rw [if_neg h3]
    by_cases h2 : x = b ∧ y = c
    · rw [if_pos h2, if_pos (Or.inr (Or.inl h2))]
    · rw [if_neg h2]
      by_cases h1 : x = a ∧ y = b
      · rw [if_pos h1, if_pos (Or.inl h1)]
      · rw [if_neg h1, if_neg]
        rintro (h | h | h)
        · exact h1 h
        · exact h2 h
        · exact h3 h
/-- the sides of a triangle lie in a store -/
def HasT (O : Nat → List (Nat × Nat)) (x : Tri3) : Prop := lookH (O x.1) x.2.1 = some x.2.2 ∧ lookH (O x.2.1) x.2.2 = some x.1 ∧ lookH (O x.2.2) x.1 = some x.2.1
/-- what is told rises -/
theorem preO_up {O : Nat → List (Nat × Nat)} (hs : ∀ a, SortH (O a)) : ∀ N, (preO O N).Pairwise fun t u => t.1 < u.1 ∨ (t.1 = u.1 ∧ t.2.1 < u.2.1)
  | 0 => List.Pairwise.nil
  | N + 1 => by
    show (preO O N ++ told N (O N)).Pairwise _
    refine List.pairwise_append.2 ⟨preO_up hs N, ?_, fun t ht u hu => ?_⟩
    · unfold told
      rw [List.pairwise_map]
      refine List.Pairwise.imp (fun {a b} h => ?_) (List.Pairwise.filter _ (sortH_pair.1 (hs N)))
      exact .inr ⟨rfl, h⟩
    · have h1 := (mem_preO.1 ht).1
      have h2 := (mem_told.1 hu).1
      exact .inl (by omega)
theorem preO_ne {O : Nat → List (Nat × Nat)} (hs : ∀ a, SortH (O a)) {N j k : Nat} {t u : Tri3} (hj : (preO O N)[j]? = some t) (hk : (preO O N)[k]? = some u) (h : j < k) : t ≠ u := by
  intro e
  have := List.pairwise_iff_getElem.1 (preO_up hs N) j k (List.getElem?_eq_some_iff.1 hj).1 (List.getElem?_eq_some_iff.1 hk).1 h
  rw [(List.getElem?_eq_some_iff.1 hj).2, (List.getElem?_eq_some_iff.1 hk).2, e] at this
  omega
end Go.Proofs.Ytdlpfiiakmhnlaa

namespace Go.Proofs.Ytdlpfiiakmhnlaa
open Go.RowKit

/-- a sum over the numbers below N -/
def sumM (f : Nat → Nat) : Nat → Nat
  | 0 => 0
  | n + 1 => sumM f n + f n
theorem sumM_congr {f g : Nat → Nat} : ∀ {N : Nat}, (∀ i, i < N → f i = g i) → sumM f N = sumM g N
  | 0, _ => rfl
  | N + 1, h => by
    show sumM f N + f N = sumM g N + g N
    rw [sumM_congr fun i hi => h i (by omega), h N (by omega)]
theorem sumM_add {f g : Nat → Nat} : ∀ {N : Nat}, sumM (fun i => f i + g i) N = sumM f N + sumM g N
  | 0 => rfl
  | N + 1 => by
    show sumM (fun i => f i + g i) N + (f N + g N) = (sumM f N + f N) + (sumM g N + g N)
    rw [sumM_add]; omega
theorem sumM_zero {f : Nat → Nat} : ∀ {N : Nat}, (∀ i, i < N → f i = 0) → sumM f N = 0
  | 0, _ => rfl
  | N + 1, h => by
    show sumM f N + f N = 0
    rw [sumM_zero fun i hi => h i (by omega), h N (by omega)]
theorem sumM_mono {f : Nat → Nat} {M : Nat} : ∀ {N : Nat}, M ≤ N → sumM f M ≤ sumM f N
  | 0, h => by have : M = 0 := by omega
               subst this; exact Nat.le_refl _
  | N + 1, h => by
    rcases Nat.lt_or_ge M (N + 1) with h1 | h1
    · have := sumM_mono (f := f) (show M ≤ N by omega)
      show _ ≤ sumM f N + f N
      omega
    · have : M = N + 1 := by omega
      subst this; exact Nat.le_refl _
/-- all pairs, by the greater end -/
theorem sumM_pairs (I : Nat → Nat → Nat) (h0 : ∀ a, I a a = 0) : ∀ N, sumM (fun a => sumM (fun b => if a < b then I a b + I b a else 0) N) N = sumM (fun a => sumM (I a) N) N
  | 0 => rfl
  | N + 1 => by
    show sumM (fun a => sumM (fun b => if a < b then I a b + I b a else 0) N + (if a < N then I a N + I N a else 0)) N + (sumM (fun b => if N < b then I N b + I b N else 0) N + (if N < N then I N N + I N N else 0)) = sumM (fun a => sumM (I a) N + I a N) N + (sumM (I N) N + I N N)
    rw [sumM_add, sumM_add, sumM_pairs I h0 N, sumM_zero (f := fun b => if N < b then I N b + I b N else 0) (fun i hi => by simp; omega), if_neg (by omega), h0 N]
    rw [sumM_congr (f := fun a => if a < N then I a N + I N a else 0) (g := fun a => I a N + I N a) (fun i hi => by rw [if_pos hi]), sumM_add]
    have : sumM (fun a => I N a) N = sumM (I N) N := rfl
    omega
theorem filt_range (p : Nat → Bool) : ∀ N, ((List.range N).filter p).length = sumM (fun b => if p b then 1 else 0) N
  | 0 => rfl
  | N + 1 => by
    rw [List.range_succ, List.filter_append, List.length_append, filt_range p N]
    show _ = sumM _ N + _
    congr 1
    by_cases h : p N
    · simp [h]
    · simp [h]
theorem filt_sum (p : Nat → Bool) (f : Nat → Nat) : ∀ N, (((List.range N).filter p).map f).sum = sumM (fun b => if p b then f b else 0) N
  | 0 => rfl
  | N + 1 => by
    rw [List.range_succ, List.filter_append, List.map_append, List.sum_append, filt_sum p f N]
    show _ = sumM _ N + _
    congr 1
    by_cases h : p N
    · simp [h]
    · simp [h]
/-- is there a side? -/
def sdI (O : Nat → List (Nat × Nat)) (a b : Nat) : Nat := if (lookH (O a) (b : Nat)).isSome then 1 else 0
theorem row_count {O : Nat → List (Nat × Nat)} {N a : Nat} (hO : Cyc O) (hd : DomO N O) : (O a).length = sumM (sdI O a) N := by
  have h1 : (O a).map (·.1) = (List.range N).filter fun b => (lookH (O a) (b : Nat)).isSome := by
    refine up_eq _ _ ?_ (List.Pairwise.filter _ List.pairwise_lt_range) fun z => ?_
    · rw [List.pairwise_map]; exact sortH_pair.1 (hO.srt a)
    · rw [List.mem_filter, List.mem_range, List.mem_map]
      constructor
      · rintro ⟨⟨b, c⟩, hx, rfl⟩
        have l0 := (look_mem (hO.srt a)).1 hx
        exact ⟨(hd _ _ _ l0).2.1, by show (lookH (O a) (b : Nat)).isSome = true; rw [l0]; rfl⟩
      · rintro ⟨_, h2⟩
        obtain ⟨c, hc⟩ := Option.isSome_iff_exists.1 h2
        exact ⟨(z, c), (look_mem (hO.srt a)).2 hc, rfl⟩
  have h2 := congrArg List.length h1
  rw [List.length_map, filt_range] at h2
  rw [h2]
  rfl
/-- how often an edge counts -/
def cE (O : Nat → List (Nat × Nat)) (e : Nat × Nat) : Nat := sdI O e.1 e.2 + sdI O e.2 e.1
theorem mem_ends {O : Nat → List (Nat × Nat)} (hO : Cyc O) {a b : Nat} : b ∈ ends (O a) ↔ ¬ (sdI O a b + sdI O b a = 0) := by
  have key : ∀ x y : Nat, sdI O x y = 0 ↔ lookH (O x) (y : Nat) = none := by
    intro x y
    unfold sdI
    cases lookH (O x) (y : Nat) <;> simp
  unfold ends
  rw [List.mem_flatMap]
  constructor
  · rintro ⟨⟨x, y⟩, hx, hb⟩
    have l0 := (look_mem (hO.srt a)).1 hx
    have l2 := hO.rot _ _ _ (hO.rot _ _ _ l0)
    intro h
    have e1 := (key a b).1 (by omega)
    have e2 := (key b a).1 (by omega)
    rcases List.mem_cons.1 hb with e | hb
    · simp only [] at e; subst e; rw [l0] at e1; cases e1
    · rcases List.mem_cons.1 hb with e | hb
      · simp only [] at e; subst e; rw [l2] at e2; cases e2
      · cases hb
  · intro h
    cases h1 : lookH (O a) (b : Nat) with
    | some c => exact ⟨(b, c), (look_mem (hO.srt a)).2 h1, List.mem_cons_self ..⟩
    | none =>
      cases h2 : lookH (O b) (a : Nat) with
      | some c =>
        have l1 := hO.rot _ _ _ h2
        exact ⟨(c, b), (look_mem (hO.srt a)).2 l1, List.mem_cons_of_mem _ (List.mem_cons_self ..)⟩
      | none => exact absurd (by rw [(key a b).2 h1, (key b a).2 h2]) h
theorem edA_sum {O : Nat → List (Nat × Nat)} (hO : Cyc O) (N a : Nat) : ((edA a (onc N (O a))).map (cE O)).sum = sumM (fun b => if a < b then sdI O a b + sdI O b a else 0) N := by
  unfold edA onc
  rw [List.map_map, List.filter_filter, filt_sum]
  refine sumM_congr fun b hb => ?_
  by_cases h1 : a < b
  · rw [if_pos h1]
    by_cases h2 : b ∈ ends (O a)
    · rw [if_pos (by simp [h1, h2])]; rfl
    · rw [if_neg (by simp [h1, h2])]
      have h3 := fun h => h2 ((mem_ends hO).2 h)
      have h4 : sdI O a b + sdI O b a = 0 := Classical.byContradiction h3
      exact h4.symm
  · rw [if_neg h1, if_neg (by simp [h1])]
theorem preE_sum {O : Nat → List (Nat × Nat)} (hO : Cyc O) (N : Nat) : ∀ M, ((preE N O M).map (cE O)).sum = sumM (fun a => sumM (fun b => if a < b then sdI O a b + sdI O b a else 0) N) M
  | 0 => rfl
  | M + 1 => by
    show ((preE N O M ++ edA M (onc N (O M))).map (cE O)).sum = sumM _ M + _
    rw [List.map_append, List.sum_append, preE_sum hO N M, edA_sum hO]
/-- how many sides there are -/
def sumO (O : Nat → List (Nat × Nat)) (N : Nat) : Nat := sumM (fun a => (O a).length) N
theorem preE_all {O : Nat → List (Nat × Nat)} (hO : Cyc O) {N : Nat} (hd : DomO N O) : ((preE N O N).map (cE O)).sum = sumO O N := by
  rw [preE_sum hO, sumM_pairs (sdI O)]
  · unfold sumO
    exact sumM_congr fun a _ => (row_count hO hd).symm
  · intro a
    unfold sdI
    cases h : lookH (O a) (a : Nat) with
    | none => rfl
    | some c => exact absurd rfl (hO.ne _ _ _ h)
theorem sum_put1 {O : Nat → List (Nat × Nat)} {a b c : Nat} : ∀ N, sumO (put1 O a b c) N = sumO O N + if a < N then 1 else 0
  | 0 => by rw [if_neg (by omega)]; rfl
  | N + 1 => by
    show sumO (put1 O a b c) N + (put1 O a b c N).length = sumO O N + (O N).length + _
    rw [sum_put1 N]
    unfold put1
    by_cases e : N = a
    · subst e
      rw [if_pos rfl, insH_len, if_neg (by omega), if_pos (by omega)]; omega
    · rw [if_neg e]
      by_cases h : a < N
      · rw [if_pos h, if_pos (by omega)]; omega
      · rw [if_neg h, if_neg (by omega)]; omega
theorem sum_putT {O : Nat → List (Nat × Nat)} {a b c N : Nat} (ha : a < N) (hb : b < N) (hc : c < N) : sumO (putT O a b c) N = sumO O N + 3 := by
  unfold putT
  rw [sum_put1, sum_put1, sum_put1, if_pos ha, if_pos hb, if_pos hc]
theorem sum_all {N : Nat} : ∀ (l : List Tri3) {O : Nat → List (Nat × Nat)}, PutOk N O l → sumO (putAll O l) N = sumO O N + 3 * l.length := by
  intro l
  induction l with
  | nil => intro O _; rfl
  | cons t l ih =>
    intro O hp
    obtain ⟨⟨a1, a2, a3, n1, n2, n3, h1, h2, h3⟩, hp⟩ := hp
    show sumO (putAll (putT O t.1 t.2.1 t.2.2) l) N = _
    rw [ih hp, sum_putT a1 a2 a3, List.length_cons]; omega
theorem ins_del {b c : Nat} : ∀ {L : List (Nat × Nat)}, SortH L → (b, c) ∈ L → insH b c (delH b L) = L
  | [], _, h => by cases h
  | x :: l, hs, h => by
    have hp := List.pairwise_cons.1 (sortH_pair.1 hs)
    rcases List.mem_cons.1 h with e | h1
    · subst e
      have h2 : delH b ((b, c) :: l) = l := by
        unfold delH
        rw [List.filter_cons, if_neg (by simp)]
        exact filt_id fun y hy => by have := hp.1 y hy; simp only [] at this; omega
      rw [h2]
      cases l with
      | nil => rfl
      | cons y l =>
        have := hp.1 y (List.mem_cons_self ..)
        simp only [] at this
        unfold insH
        rw [if_neg (by omega)]
    · have h3 : x.1 < b := hp.1 _ h1
      have h2 : delH b (x :: l) = x :: delH b l := by
        unfold delH
        rw [List.filter_cons, if_pos (by simp; omega)]
      rw [h2]
      show (if x.1 < b then x :: insH b c (delH b l) else (b, c) :: x :: delH b l) = _
      rw [if_pos h3, ins_del (sortH_pair.2 hp.2) h1]
/-- a triangle that is taken out and put again -/
theorem put_del {O : Nat → List (Nat × Nat)} (hO : Cyc O) {a b c : Nat} (h : lookH (O a) b = some c) : putT (delT O a b c) a b c = O := by
  have l1 := hO.rot _ _ _ h
  have l2 := hO.rot _ _ _ l1
  have n0 := hO.ne _ _ _ h
  have n1 := hO.ne _ _ _ l1
  have n2 := hO.ne _ _ _ l2
  funext v
  unfold putT put1 delT del1
  by_cases e1 : v = c
  · subst e1
    simp only [if_pos, if_neg n2, if_neg (fun e => n1 (Eq.symm e) : ¬ v = b), if_neg n2]
    rw [ins_del (hO.srt _) ((look_mem (hO.srt _)).2 l2)]
  · by_cases e2 : v = b
    · subst e2
      simp only [if_neg e1, if_pos, if_neg (fun e => n0 (Eq.symm e) : ¬ v = a)]
      rw [ins_del (hO.srt _) ((look_mem (hO.srt _)).2 l1)]
    · by_cases e3 : v = a
      · subst e3
        simp only [if_neg e1, if_neg e2, if_pos]
        rw [ins_del (hO.srt _) ((look_mem (hO.srt _)).2 h)]
      · simp only [if_neg e1, if_neg e2, if_neg e3]
theorem Cyc.del {O : Nat → List (Nat × Nat)} (hO : Cyc O) {a b c : Nat} (h : lookH (O a) b = some c) : Cyc (delT O a b c) := by
  have l1 := hO.rot _ _ _ h
  have l2 := hO.rot _ _ _ l1
  refine ⟨fun v => ?_, fun x y z hz => ?_, fun x y z hz => ?_⟩
  · unfold delT del1
    repeat' split
    all_goals first | exact hO.srt _ | exact delH_sort (hO.srt _) | exact delH_sort (delH_sort (hO.srt _)) | skip
    all_goals (repeat' split) <;> first | exact hO.srt _ | exact delH_sort (hO.srt _) | exact delH_sort (delH_sort (hO.srt _)) | exact delH_sort (delH_sort (delH_sort (hO.srt _)))
  · rw [look_delT] at hz ⊢
    split at hz
    · cases hz
    · rename_i hn
      have r1 := hO.rot _ _ _ hz
      rw [if_neg, r1]
      have f : ∀ i j k l : Nat, lookH (O i) j = some k → lookH (O i) j = some l → k = l := fun i j k l h1 h2 => by rw [h1] at h2; injection h2
      have r2 := hO.rot _ _ _ r1
      rintro (⟨rfl, rfl⟩ | ⟨rfl, rfl⟩ | ⟨rfl, rfl⟩)
      · exact hn (.inr (.inr ⟨f _ _ _ _ r1 h, rfl⟩))
      · exact hn (.inl ⟨f _ _ _ _ r1 l1, rfl⟩)
      · exact hn (.inr (.inl ⟨f _ _ _ _ r1 l2, rfl⟩))
  · rw [look_delT] at hz
    split at hz
    · cases hz
    · exact hO.ne _ _ _ hz
theorem dom_del {N : Nat} {O : Nat → List (Nat × Nat)} (hd : DomO N O) (a b c : Nat) : DomO N (delT O a b c) := by
  intro x y z hz
  rw [look_delT] at hz
  split at hz
  · cases hz
  · exact hd _ _ _ hz
theorem new_del {O : Nat → List (Nat × Nat)} (hO : Cyc O) {a b c : Nat} (h : lookH (O a) b = some c) : NewT (delT O a b c) a b c := by
  have l1 := hO.rot _ _ _ h
  have l2 := hO.rot _ _ _ l1
  refine ⟨hO.ne _ _ _ h, hO.ne _ _ _ l1, fun e => hO.ne _ _ _ l2 e.symm, ?_, ?_, ?_⟩
  · rw [look_delT, if_pos (.inl ⟨rfl, rfl⟩)]
  · rw [look_delT, if_pos (.inr (.inl ⟨rfl, rfl⟩))]
  · rw [look_delT, if_pos (.inr (.inr ⟨rfl, rfl⟩))]
/-- a store whose sides fit together -/
structure WS (N : Nat) (O : Nat → List (Nat × Nat)) (n : Nat) : Prop where
  cyc : Cyc O
  dom : DomO N O
  cnt : (preO O N).length = n
  sum : sumO O N = 3 * n
theorem sumO_nil : ∀ N, sumO (fun _ => []) N = 0 := fun _ => sumM_zero fun _ _ => rfl
theorem Tri.ws {N q : Nat} {X Y : Nat → Int} {T : List Tri3} {O : Nat → List (Nat × Nat)} (h : Tri N X Y q T O) : WS N O T.length := by
  obtain ⟨h1, h2, h3⟩ := h.cyc
  refine ⟨h1, h2, h3, ?_⟩
  have hp : PutOk N (fun _ => []) T := putok_fresh _ rep_none h.fresh
  rw [h.all, sum_all T hp, sumO_nil]; omega
theorem WS.put {N n : Nat} {O : Nat → List (Nat × Nat)} (h : WS N O n) {a b c : Nat} (hn : NewT O a b c) (ha : a < N) (hb : b < N) (hc : c < N) : WS N (putT O a b c) (n + 1) :=
  ⟨h.cyc.put hn, dom_putT h.cyc.srt hn h.dom ⟨ha, hb, hc⟩, by rw [pre_putT ha hb hc hn.1 hn.2.1 hn.2.2.1, h.cnt], by rw [sum_putT ha hb hc, h.sum]; omega⟩
theorem WS.del {N n : Nat} {O : Nat → List (Nat × Nat)} (h : WS N O n) {a b c : Nat} (hl : lookH (O a) b = some c) : WS N (delT O a b c) (n - 1) ∧ 0 < n := by
  obtain ⟨ha, hb, hc⟩ := h.dom _ _ _ hl
  have hn := new_del h.cyc hl
  have e := put_del h.cyc hl
  have h1 := pre_putT (O := delT O a b c) ha hb hc hn.1 hn.2.1 hn.2.2.1
  have h2 := sum_putT (O := delT O a b c) ha hb hc
  rw [e] at h1 h2
  have h3 := h.cnt
  have h4 := h.sum
  refine ⟨⟨h.cyc.del hl, dom_del h.dom a b c, by omega, by omega⟩, by omega⟩
/-- edges are told rising -/
theorem preE_up (N : Nat) (O : Nat → List (Nat × Nat)) : ∀ M, (preE N O M).Pairwise (fun x y => x.1 < y.1 ∨ (x.1 = y.1 ∧ x.2 < y.2)) ∧ ∀ x, x ∈ preE N O M → x.1 < M ∧ x.1 < x.2 ∧ x.2 < N
  | 0 => ⟨List.Pairwise.nil, fun _ h => by cases h⟩
  | M + 1 => by
    obtain ⟨h1, h2⟩ := preE_up N O M
    have h3 : ∀ x, x ∈ edA M (onc N (O M)) → x.1 = M ∧ M < x.2 ∧ x.2 < N := by
      intro x hx
      unfold edA at hx
      rw [List.mem_map] at hx
      obtain ⟨b, hb, rfl⟩ := hx
      rw [List.mem_filter] at hb
      exact ⟨rfl, by simpa using hb.2, ((onc_mem b).1 hb.1).1⟩
    refine ⟨List.pairwise_append.2 ⟨h1, ?_, fun x hx y hy => .inl ?_⟩, fun x hx => ?_⟩
    · unfold edA
      rw [List.pairwise_map]
      exact List.Pairwise.imp (fun {a b} h => .inr ⟨rfl, h⟩) (List.Pairwise.filter _ (onc_up N (O M)))
    · have := h2 x hx
      have := h3 y hy
      omega
    · rcases List.mem_append.1 hx with hx | hx
      · have := h2 x hx; omega
      · have := h3 x hx; omega
theorem preE_some {N : Nat} {O : Nat → List (Nat × Nat)} (hO : Cyc O) : ∀ M x, x ∈ preE N O M → cE O x ≠ 0
  | 0, _, h => by cases h
  | M + 1, x, h => by
    rcases List.mem_append.1 h with h | h
    · exact preE_some hO M x h
    · unfold edA at h
      rw [List.mem_map] at h
      obtain ⟨b, hb, rfl⟩ := h
      rw [List.mem_filter] at hb
      exact (mem_ends hO).1 ((onc_mem b).1 hb.1).2
/-- what the first edges count -/
def ecN (N : Nat) (O : Nat → List (Nat × Nat)) (k : Nat) : Nat := (((preE N O N).take k).map (cE O)).sum
theorem ecN_step {N : Nat} {O : Nat → List (Nat × Nat)} {k : Nat} {x : Nat × Nat} (hx : (preE N O N)[k]? = some x) : ecN N O (k + 1) = ecN N O k + cE O x := by
  unfold ecN
  rw [List.take_add_one, hx, List.map_append, List.sum_append]; simp
theorem ecN_all {N n : Nat} {O : Nat → List (Nat × Nat)} (h : WS N O n) : ecN N O (preE N O N).length = 3 * n := by
  unfold ecN
  rw [List.take_length, preE_all h.cyc h.dom, h.sum]
end Go.Proofs.Ytdlpfiiakmhnlaa

namespace Go.Proofs.Ytdlpfiiakmhnlaa
open Go.RowKit

theorem way_c (ax ay bx b_y cx cy r : Int) (h : way ax ay bx b_y cx cy = r) : r = -1 ∨ r = 0 ∨ r = 1 := h ▸ way_cases _ _ _ _ _ _
theorem four_new (w V : World) (c0 c1 c2 c3 : Array Value) (t0 t1 t2 t3 : TypeId) (hV : V = (((w.alloc (.cells c0 t0)).alloc (.cells c1 t1)).alloc (.cells c2 t2)).alloc (.cells c3 t3)) :
    Below w.heap.size w V ∧ Blk V w.heap.size c0 t0 ∧ Blk V (w.heap.size + 1) c1 t1 ∧ Blk V (w.heap.size + 2) c2 t2 ∧ Blk V (w.heap.size + 3) c3 t3 := by
  have e1 := (Blk.new (w.alloc (.cells c0 t0)) c1 t1)
  have e2 := (Blk.new ((w.alloc (.cells c0 t0)).alloc (.cells c1 t1)) c2 t2)
  have e3 := (Blk.new (((w.alloc (.cells c0 t0)).alloc (.cells c1 t1)).alloc (.cells c2 t2)) c3 t3)
  simp only [World.size_alloc] at e1 e2 e3
  subst hV
  refine ⟨?_, (((Blk.new w c0 t0).of (below_a1 _ _)).of (below_a1 _ _)).of (below_a1 _ _), (e1.of (below_a1 _ _)).of (below_a1 _ _), e2.of (below_a1 _ _), e3⟩
  exact ((((below_a1 w _).trans ((below_a1 _ _).mono (by simp))).trans ((below_a1 _ _).mono (by simp; omega))).trans ((below_a1 _ _).mono (by simp; omega)))
set_option maxRecDepth 100000 in
set_option maxHeartbeats 8000000 in
theorem Facing_is (ax ay bx b_y cx cy dx dy r1 r2 r3 r4 : Int) (h1 : way ax ay bx b_y cx cy = r1) (h2 : way ax ay bx b_y dx dy = r2) (h3 : way cx cy dx dy ax ay = r3) (h4 : way cx cy dx dy bx b_y = r4) (w : World) :
    Calls Try.prog 37 #[pI ax ay, pI bx b_y, pI cx cy, pI dx dy] w fun e w' => ∃ b, e = .returned (.bool b) ∧ (b = true ↔ r1 * r2 < 0 ∧ r3 * r4 < 0) ∧ Below w.heap.size w w' := by
 have hr1 := way_c _ _ _ _ _ _ _ h1
 have hr2 := way_c _ _ _ _ _ _ _ h2
 have hr3 := way_c _ _ _ _ _ _ _ h3
 have hr4 := way_c _ _ _ _ _ _ _ h4
 have H1 := Lib.hid h1
 have H2 := Lib.hid h2
 have H3 := Lib.hid h3
 have H4 := Lib.hid h4
 clear h1 h2 h3 h4
 go_enter Try.func37, Try.ntmps37
 go_wp2_with fail
 refine name_world ?_
 intro V hV
 obtain ⟨hb0, k0, k1, k2, k3⟩ := four_new _ _ _ _ _ _ _ _ _ _ hV
 obtain ⟨ab, eab⟩ : ∃ b, w.heap.size = b := ⟨_, rfl⟩
 obtain ⟨bb, ebb⟩ : ∃ b, w.heap.size + 1 = b := ⟨_, rfl⟩
 obtain ⟨cb, ecb⟩ : ∃ b, w.heap.size + 1 + 1 = b := ⟨_, rfl⟩
 obtain ⟨db, edb⟩ : ∃ b, w.heap.size + 1 + 1 + 1 = b := ⟨_, rfl⟩
 rw [show w.heap.size + 3 = db from edb] at k3
 rw [show w.heap.size + 2 = cb from ecb] at k2
 rw [ebb] at k1
 rw [eab] at k0
 rw [edb, ecb, ebb, eab]
 have a0 : ∀ u : UpTo V.heap.size V, u.w.cell? ⟨ab, 0, none⟩ = some (.int .i64 ax) := fun u => (k0.of u.below).cell 0
 have a1 : ∀ u : UpTo V.heap.size V, u.w.cell? ⟨ab, 1, none⟩ = some (.int .i64 ay) := fun u => (k0.of u.below).cell 1
 have b0 : ∀ u : UpTo V.heap.size V, u.w.cell? ⟨bb, 0, none⟩ = some (.int .i64 bx) := fun u => (k1.of u.below).cell 0
 have b1 : ∀ u : UpTo V.heap.size V, u.w.cell? ⟨bb, 1, none⟩ = some (.int .i64 b_y) := fun u => (k1.of u.below).cell 1
 have c0 : ∀ u : UpTo V.heap.size V, u.w.cell? ⟨cb, 0, none⟩ = some (.int .i64 cx) := fun u => (k2.of u.below).cell 0
 have c1 : ∀ u : UpTo V.heap.size V, u.w.cell? ⟨cb, 1, none⟩ = some (.int .i64 cy) := fun u => (k2.of u.below).cell 1
 have d0 : ∀ u : UpTo V.heap.size V, u.w.cell? ⟨db, 0, none⟩ = some (.int .i64 dx) := fun u => (k3.of u.below).cell 0
 have d1 : ∀ u : UpTo V.heap.size V, u.w.cell? ⟨db, 1, none⟩ = some (.int .i64 dy) := fun u => (k3.of u.below).cell 1
 have la := k0.lt
 have lb := k1.lt
 have lc := k2.lt
 have ld := k3.lt
 have HB := Lib.hid hb0
 have hws : w.heap.size = ab := eab
 clear hV hb0 k0 k1 k2 k3 eab ebb ecb edb
 by_cases hp : r1 * r2 < 0
 ·rcases hr1 with rfl | rfl | rfl <;> rcases hr2 with rfl | rfl | rfl
  all_goals first | (exact absurd hp (by decide)) | skip
  all_goals
   clear hp
   rcases hr3 with rfl | rfl | rfl <;> rcases hr4 with rfl | rfl | rfl
  all_goals
   skip
   refine wp_region_up V.heap.size 18 [(true, 0), (true, 1), (true, 2), (true, 4), (true, 5), (true, 6), (false, 3), (false, 7), (true, 8), (true, 9), (true, 10), (true, 11), (true, 12), (true, 13), (true, 15), (true, 16), (true, 17), (false, 14)] (by kernel_rfl) (by kernel_rfl) (fun _ _ d _ _ h => by cases d <;> exact h) ?_
   have hb : Below V.heap.size V V.drew := (Below.refl _ _).drew
   iterate 6
    refine wpS_takeL rfl rfl ?_
    go_big_quiet_step (rfl)
    refine wpQuiet_nil ?_
   refine wpS_doL rfl ?_
   intro K hK
   go_wp2_with ((go_at_call 46; (first | (with_reducible refine (rWy_is ax ay bx b_y cx cy _ H1.out _).mono ?_) | (with_reducible refine (rWy_is ax ay bx b_y dx dy _ H2.out _).mono ?_) | (with_reducible refine (rWy_is cx cy dx dy ax ay _ H3.out _).mono ?_) | (with_reducible refine (rWy_is cx cy dx dy bx b_y _ H4.out _).mono ?_)); rintro e w2 ⟨rfl, hn⟩))
   replace hb := hb.trans (hn.mono hb.size)
   refine hK.out _ _ (up_iff.2 hb) ?_
   clear hK K
   clear hn
   refine wpS_doL rfl ?_
   intro K hK
   go_wp2_with ((go_at_call 46; (first | (with_reducible refine (rWy_is ax ay bx b_y cx cy _ H1.out _).mono ?_) | (with_reducible refine (rWy_is ax ay bx b_y dx dy _ H2.out _).mono ?_) | (with_reducible refine (rWy_is cx cy dx dy ax ay _ H3.out _).mono ?_) | (with_reducible refine (rWy_is cx cy dx dy bx b_y _ H4.out _).mono ?_)); rintro e w2 ⟨rfl, hn⟩))
   replace hb := hb.trans (hn.mono hb.size)
   refine hK.out _ _ (up_iff.2 hb) ?_
   clear hK K
   clear hn
   iterate 9
    refine wpS_takeL rfl rfl ?_
    go_big_quiet_step (rfl)
    refine wpQuiet_nil ?_
   refine wpS_doL rfl ?_
   intro K hK
   go_wp2_with ((go_at_call 46; (first | (with_reducible refine (rWy_is ax ay bx b_y cx cy _ H1.out _).mono ?_) | (with_reducible refine (rWy_is ax ay bx b_y dx dy _ H2.out _).mono ?_) | (with_reducible refine (rWy_is cx cy dx dy ax ay _ H3.out _).mono ?_) | (with_reducible refine (rWy_is cx cy dx dy bx b_y _ H4.out _).mono ?_)); rintro e w2 ⟨rfl, hn⟩))
   try replace hb := hb.trans (hn.mono hb.size)
   refine hK.out _ _ (up_iff.2 hb) ?_
   clear hK K
   try clear hn
   refine wpS_nil ?_
   simp only [List.drop_succ_cons, List.drop_zero]
   go_wp2_with fail
   refine (rWy_is cx cy dx dy bx b_y _ H4.out _).mono ?_
   rintro e w3 ⟨rfl, hn3⟩
   have hb3 := hb.trans (hn3.mono hb.size)
   clear hn3 hb
   go_wp2
   go_ret
   exact ⟨_, rfl, by decide, HB.out.trans (hb3.mono HB.out.size)⟩
 ·rcases hr1 with rfl | rfl | rfl <;> rcases hr2 with rfl | rfl | rfl
  all_goals first | (exact absurd (by decide) hp) | skip
  all_goals
   clear hp
   refine wp_region_up V.heap.size 18 [(true, 0), (true, 1), (true, 2), (true, 4), (true, 5), (true, 6), (false, 3), (false, 7), (true, 8), (true, 9), (true, 10), (true, 11), (true, 12), (true, 13), (true, 15), (true, 16), (true, 17), (false, 14)] (by kernel_rfl) (by kernel_rfl) (fun _ _ d _ _ h => by cases d <;> exact h) ?_
   have hb : Below V.heap.size V V.drew := (Below.refl _ _).drew
   iterate 6
    refine wpS_takeL rfl rfl ?_
    go_big_quiet_step (rfl)
    refine wpQuiet_nil ?_
   refine wpS_doL rfl ?_
   intro K hK
   go_wp2_with ((go_at_call 46; (first | (with_reducible refine (rWy_is ax ay bx b_y cx cy _ H1.out _).mono ?_) | (with_reducible refine (rWy_is ax ay bx b_y dx dy _ H2.out _).mono ?_) | (with_reducible refine (rWy_is cx cy dx dy ax ay _ H3.out _).mono ?_) | (with_reducible refine (rWy_is cx cy dx dy bx b_y _ H4.out _).mono ?_)); rintro e w2 ⟨rfl, hn⟩))
   replace hb := hb.trans (hn.mono hb.size)
   refine hK.out _ _ (up_iff.2 hb) ?_
   clear hK K
   clear hn
   refine wpS_doL rfl ?_
   intro K hK
   go_wp2_with ((go_at_call 46; (first | (with_reducible refine (rWy_is ax ay bx b_y cx cy _ H1.out _).mono ?_) | (with_reducible refine (rWy_is ax ay bx b_y dx dy _ H2.out _).mono ?_) | (with_reducible refine (rWy_is cx cy dx dy ax ay _ H3.out _).mono ?_) | (with_reducible refine (rWy_is cx cy dx dy bx b_y _ H4.out _).mono ?_)); rintro e w2 ⟨rfl, hn⟩))
   replace hb := hb.trans (hn.mono hb.size)
   refine hK.out _ _ (up_iff.2 hb) ?_
   clear hK K
   clear hn
   iterate 9
    refine wpS_takeL rfl rfl ?_
    go_big_quiet_step (rfl)
    refine wpQuiet_nil ?_
   refine wpS_doL rfl ?_
   intro K hK
   go_wp2_with ((go_at_call 46; (first | (with_reducible refine (rWy_is ax ay bx b_y cx cy _ H1.out _).mono ?_) | (with_reducible refine (rWy_is ax ay bx b_y dx dy _ H2.out _).mono ?_) | (with_reducible refine (rWy_is cx cy dx dy ax ay _ H3.out _).mono ?_) | (with_reducible refine (rWy_is cx cy dx dy bx b_y _ H4.out _).mono ?_)); rintro e w2 ⟨rfl, hn⟩))
   try replace hb := hb.trans (hn.mono hb.size)
   refine hK.out _ _ (up_iff.2 hb) ?_
   clear hK K
   try clear hn
   refine wpS_nil ?_
   simp only [List.drop_succ_cons, List.drop_zero]
   go_wp2
   go_ret
   exact ⟨_, rfl, ⟨fun h => (by cases h), fun h => absurd h.1 (by decide)⟩, HB.out.trans (hb.mono HB.out.size)⟩
end Go.Proofs.Ytdlpfiiakmhnlaa

namespace Go.Proofs.Ytdlpfiiakmhnlaa
open Go.RowKit

/-- a corner -/
def cr (x : Tri3) (i : Nat) : Nat := if i = 0 then x.1 else if i = 1 then x.2.1 else x.2.2
/-- how many corners are alike, up to a pair of places -/
def mq (x y : Tri3) : Nat → Nat
  | 0 => 0
  | n + 1 => mq x y n + if cr x (n / 3) = cr y (n % 3) then 1 else 0
theorem mq_le (x y : Tri3) : ∀ n, mq x y n ≤ n
  | 0 => Nat.le_refl _
  | n + 1 => by
    show mq x y n + _ ≤ n + 1
    have := mq_le x y n
    split <;> omega
theorem mq_yes {x y : Tri3} {n p q : Nat} (h1 : cr x (n / 3) = p) (h2 : cr y (n % 3) = q) (h : p = q) : mq x y (n + 1) = mq x y n + 1 := by
  show mq x y n + _ = _
  rw [if_pos (by rw [h1, h2]; exact h)]
theorem mq_no {x y : Tri3} {n p q : Nat} (h1 : cr x (n / 3) = p) (h2 : cr y (n % 3) = q) (h : ¬ p = q) : mq x y (n + 1) = mq x y n := by
  show mq x y n + _ = _
  rw [if_neg (by rw [h1, h2]; exact h)]; rfl
/-- two triangles do not meet -/
structure NoM (X Y : Nat → Int) (x y : Tri3) : Prop where
  fac : ∀ i k, i < 3 → k < 3 → ¬ (wy X Y (cr x i) (cr x ((i + 1) % 3)) (cr y k) * wy X Y (cr x i) (cr x ((i + 1) % 3)) (cr y ((k + 1) % 3)) < 0 ∧ wy X Y (cr y k) (cr y ((k + 1) % 3)) (cr x i) * wy X Y (cr y k) (cr y ((k + 1) % 3)) (cr x ((i + 1) % 3)) < 0)
  sid : ∀ i k, i < 3 → k < 3 → ¬ (cr x i = cr y k ∧ cr x ((i + 1) % 3) = cr y ((k + 1) % 3))
  all : mq x y 9 ≠ 3
theorem Facing_no (X Y : Nat → Int) (a b c d : Nat) (h : ¬ (wy X Y a b c * wy X Y a b d < 0 ∧ wy X Y c d a * wy X Y c d b < 0)) (w : World) :
    Calls Try.prog 37 #[pI (X a) (Y a), pI (X b) (Y b), pI (X c) (Y c), pI (X d) (Y d)] w fun e w' => e = .returned (.bool false) ∧ Below w.heap.size w w' := by
  refine (Facing_is (X a) (Y a) (X b) (Y b) (X c) (Y c) (X d) (Y d) _ _ _ _ rfl rfl rfl rfl w).mono ?_
  rintro e w' ⟨q, rfl, hq, hb⟩
  cases q with
  | false => exact ⟨rfl, hb⟩
  | true => exact absurd (hq.1 rfl) h
theorem cr_cell (x : Tri3) {i : Nat} (hi : i < 3) : (#[.int .i64 (x.1 : Nat), .int .i64 (x.2.1 : Nat), .int .i64 (x.2.2 : Nat)] : Array Value)[i]? = some (.int .i64 (cr x i : Nat)) := by
  rcases (show i = 0 ∨ i = 1 ∨ i = 2 by omega) with rfl | rfl | rfl <;> rfl
theorem cr_lt {x : Tri3} {N : Nat} (h : x.1 < N ∧ x.2.1 < N ∧ x.2.2 < N) (i : Nat) : cr x i < N := by
  unfold cr
  split
  · exact h.1
  · split
    · exact h.2.1
    · exact h.2.2
theorem tmod3 (i j : Nat) (h : (i + 1) % 3 = j) : Int.tmod ((i : Int) + 1) 3 = (j : Int) := by
  rw [Int.tmod_eq_emod_of_nonneg (by omega)]; omega
set_option maxRecDepth 100000 in
set_option maxHeartbeats 8000000 in
theorem meet_no (po : Option Addr) (N pc : Nat) (X Y : Nat → Int) (x0 x1 x2 y0 y1 y2 : Nat) (w : World) (hP : Pts w po N pc X Y) (hN : N ≤ 4096) (hx0 : x0 < N) (hx1 : x1 < N) (hx2 : x2 < N) (hy0 : y0 < N) (hy1 : y1 < N) (hy2 : y2 < N)
    (hM : NoM X Y (x0, x1, x2) (y0, y1, y2)) :
    Calls Try.prog 58 #[.slice po N pc, tI (x0 : Nat) (x1 : Nat) (x2 : Nat), tI (y0 : Nat) (y1 : Nat) (y2 : Nat)] w fun e w' => e = .returned (.bool false) ∧ Below w.heap.size w w' := by
 have HP := Lib.hid hP
 have HM := Lib.hid hM
 have hpcl := hP.capl
 have hpcb := hP.capb
 clear hP hM
 go_enter Try.func58, Try.ntmps58
 go_wp2_with fail
 refine name_world ?_
 intro V hV
 have hb0 : Below w.heap.size w V := by rw [hV]; exact below_a2 _ _ _
 have ka : Blk V w.heap.size #[.int .i64 (x0 : Nat), .int .i64 (x1 : Nat), .int .i64 (x2 : Nat)] 35 := by rw [hV]; exact (Blk.new _ _ _).of (below_a1 _ _)
 have kb : Blk V (w.heap.size + 1) #[.int .i64 (y0 : Nat), .int .i64 (y1 : Nat), .int .i64 (y2 : Nat)] 35 := by rw [hV]; have := Blk.new (w.alloc (.cells #[.int .i64 (x0 : Nat), .int .i64 (x1 : Nat), .int .i64 (x2 : Nat)] 35)) #[.int .i64 (y0 : Nat), .int .i64 (y1 : Nat), .int .i64 (y2 : Nat)] 35; simpa using this
 obtain ⟨ab, eab⟩ : ∃ b, w.heap.size = b := ⟨_, rfl⟩
 obtain ⟨bb, ebb⟩ : ∃ b, w.heap.size + 1 = b := ⟨_, rfl⟩
 rw [ebb] at kb
 rw [eab] at ka
 rw [ebb, eab]
 have KA := Lib.hid ka
 have KB := Lib.hid kb
 have BV := Lib.hid hb0
 have hws : w.heap.size = ab := eab
 clear hV hb0 ka kb eab ebb
 go_wp2_with fail
 go_loopg [7, 8] 3 (fun gk s7 s8 wr => ∃ i : Nat, s8 = .int .i64 (i : Nat) ∧ s7 = .int .i64 (mq (x0, x1, x2) (y0, y1, y2) (3 * i) : Nat) ∧ i ≤ 3 ∧ 3 - i ≤ gk ∧ Hid (Below V.heap.size V wr))
 case atStart => exact ⟨0, rfl, rfl, by omega, by omega, Lib.hid (Below.refl _ _)⟩
 case round =>
  obtain ⟨i, rfl, rfl, hi, hgi, HV⟩ := hrel
  by_cases hi3 : i < 3
  ·have hi0 : ((i : Nat) : Int) < 3 := by omega
   go_wp2_with fail
   go_loopg [7, 9] 3 (fun gk s7 s9 wr2 => ∃ k : Nat, s9 = .int .i64 (k : Nat) ∧ s7 = .int .i64 (mq (x0, x1, x2) (y0, y1, y2) (3 * i + k) : Nat) ∧ k ≤ 3 ∧ 3 - k ≤ gk ∧ Hid (Below V.heap.size V wr2))
   case atStart => exact ⟨0, rfl, rfl, by omega, by omega, HV⟩
   case round =>
    clear HV
    obtain ⟨k, rfl, rfl, hk, hgk, HV2⟩ := hrel
    by_cases hk3 : k < 3
    ·clear hi hk
     obtain ⟨P, eP⟩ : ∃ P, cr (x0, x1, x2) i = P := ⟨_, rfl⟩
     obtain ⟨R, eR⟩ : ∃ P, cr (y0, y1, y2) k = P := ⟨_, rfl⟩
     obtain ⟨I1, eI⟩ : ∃ P, (i + 1) % 3 = P := ⟨_, rfl⟩
     obtain ⟨K1, eK⟩ : ∃ P, (k + 1) % 3 = P := ⟨_, rfl⟩
     obtain ⟨Q, eQ⟩ : ∃ P, cr (x0, x1, x2) I1 = P := ⟨_, rfl⟩
     obtain ⟨S, eS⟩ : ∃ P, cr (y0, y1, y2) K1 = P := ⟨_, rfl⟩
     have hI3 : I1 < 3 := by omega
     have hK3 : K1 < 3 := by omega
     have ti := tmod3 i I1 eI
     have tk := tmod3 k K1 eK
     have lP : P < N := by rw [← eP]; exact cr_lt ⟨hx0, hx1, hx2⟩ _
     have lQ : Q < N := by rw [← eQ]; exact cr_lt ⟨hx0, hx1, hx2⟩ _
     have lR : R < N := by rw [← eR]; exact cr_lt ⟨hy0, hy1, hy2⟩ _
     have lS : S < N := by rw [← eS]; exact cr_lt ⟨hy0, hy1, hy2⟩ _
     have EI := Lib.hid (And.intro eI eK)
     have EQ := Lib.hid (show cr (x0, x1, x2) i = P ∧ cr (x0, x1, x2) I1 = Q ∧ cr (y0, y1, y2) k = R ∧ cr (y0, y1, y2) K1 = S from ⟨eP, eQ, eR, eS⟩)
     clear eP eQ eR eS eI eK
     obtain ⟨c, hc⟩ : ∃ c, mq (x0, x1, x2) (y0, y1, y2) (3 * i + k) = c := ⟨_, rfl⟩
     rw [hc]
     have hc9 : c ≤ 9 := by have := mq_le (x0, x1, x2) (y0, y1, y2) (3 * i + k); omega
     have HC := Lib.hid hc
     clear hc
     have HVW := HV2
     clear HV2
     have hka := KA.out.of HVW.out
     have hkb := KB.out.of HVW.out
     obtain ⟨pa, rfl, hpt⟩ := (HP.out.of (BV.out.trans (HVW.out.mono BV.out.size))).atP (by omega)
     have f0 : ∀ u : UpTo wr.heap.size wr, u.w.cell? ⟨ab, i, none⟩ = some (.int .i64 (P : Nat)) := fun u => ((hka.of u.below).cell i).trans (EQ.out.1 ▸ cr_cell (x0, x1, x2) hi3)
     have f1 : ∀ u : UpTo wr.heap.size wr, u.w.cell? ⟨ab, I1, none⟩ = some (.int .i64 (Q : Nat)) := fun u => ((hka.of u.below).cell I1).trans (EQ.out.2.1 ▸ cr_cell (x0, x1, x2) hI3)
     have g0 : ∀ u : UpTo wr.heap.size wr, u.w.cell? ⟨bb, k, none⟩ = some (.int .i64 (R : Nat)) := fun u => ((hkb.of u.below).cell k).trans (EQ.out.2.2.1 ▸ cr_cell (y0, y1, y2) hk3)
     have g1 : ∀ u : UpTo wr.heap.size wr, u.w.cell? ⟨bb, K1, none⟩ = some (.int .i64 (S : Nat)) := fun u => ((hkb.of u.below).cell K1).trans (EQ.out.2.2.2 ▸ cr_cell (y0, y1, y2) hK3)
     have la := hka.lt
     have lb := hkb.lt
     have KAW := Lib.hid hka
     have KBW := Lib.hid hkb
     have HPT := Lib.hid hpt
     clear hka hkb hpt
     by_cases he : P = R
     ·have HE := Lib.hid he
      have hq1 : (((P : Nat) : Int) == ((R : Nat) : Int)) = true := by rw [he]; simp
      have hq2 : ((P : Nat) == (R : Nat)) = true := by simpa using he
      have hq3 : decide ((P : Nat) = (R : Nat)) = true := by simpa using he
      clear he
      go_wp2_with fail
      refine wp_region_up wr.heap.size 6 [(true, 0), (true, 1), (true, 2), (true, 3), (true, 4), (true, 5)] (by kernel_rfl) (by kernel_rfl) (fun _ _ d _ _ h => by cases d <;> exact h) ?_
      have hb : Below wr.heap.size wr wr.drew := (Below.refl _ _).drew
      iterate 6
       refine wpS_takeL rfl rfl ?_
       go_big_quiet_step (rfl)
       refine wpQuiet_nil ?_
      refine wpS_nil ?_
      simp only [List.drop_succ_cons, List.drop_zero]
      have h0 := ((KAW.out.of hb).cell i).trans (EQ.out.1 ▸ cr_cell (x0, x1, x2) hi3)
      have h1 := ((KBW.out.of hb).cell k).trans (EQ.out.2.2.1 ▸ cr_cell (y0, y1, y2) hk3)
      have lh0 := (KAW.out.of hb).lt
      have lh1 := (KBW.out.of hb).lt
      clear f0 f1 g0 g1
      go_wp2_with fail
      clear h0 h1 lh0 lh1 la lb
      refine name_world ?_
      intro W1 hW1
      have HVW1 := Lib.hid (show Below V.heap.size V W1 by rw [hW1]; exact HVW.out.trans (hb.mono HVW.out.size))
      clear hW1 hb HVW KAW KBW
      have hka := KA.out.of HVW1.out
      have hkb := KB.out.of HVW1.out
      obtain ⟨pb, epb, hpt⟩ := (HP.out.of (BV.out.trans (HVW1.out.mono BV.out.size))).atP (by omega)
      injection epb with epb
      subst epb
      have f0 : ∀ u : UpTo W1.heap.size W1, u.w.cell? ⟨ab, i, none⟩ = some (.int .i64 (P : Nat)) := fun u => ((hka.of u.below).cell i).trans (EQ.out.1 ▸ cr_cell (x0, x1, x2) hi3)
      have f1 : ∀ u : UpTo W1.heap.size W1, u.w.cell? ⟨ab, I1, none⟩ = some (.int .i64 (Q : Nat)) := fun u => ((hka.of u.below).cell I1).trans (EQ.out.2.1 ▸ cr_cell (x0, x1, x2) hI3)
      have g0 : ∀ u : UpTo W1.heap.size W1, u.w.cell? ⟨bb, k, none⟩ = some (.int .i64 (R : Nat)) := fun u => ((hkb.of u.below).cell k).trans (EQ.out.2.2.1 ▸ cr_cell (y0, y1, y2) hk3)
      have g1 : ∀ u : UpTo W1.heap.size W1, u.w.cell? ⟨bb, K1, none⟩ = some (.int .i64 (S : Nat)) := fun u => ((hkb.of u.below).cell K1).trans (EQ.out.2.2.2 ▸ cr_cell (y0, y1, y2) hK3)
      have la := hka.lt
      have lb := hkb.lt
      have qp := hpt P lP
      have qq := hpt Q lQ
      have qr := hpt R lR
      have qs := hpt S lS
      have qp0 := fun u => (qp u).1
      have qp1 := fun u => (qp u).2
      have qq0 := fun u => (qq u).1
      have qq1 := fun u => (qq u).2
      have qr0 := fun u => (qr u).1
      have qr1 := fun u => (qr u).2
      have qs0 := fun u => (qs u).1
      have qs1 := fun u => (qs u).2
      clear hka hkb hpt qp qq qr qs
      have hF0 := HM.out.fac i k (by omega) (by omega)
      rw [EI.out.1, EI.out.2, EQ.out.1, EQ.out.2.1, EQ.out.2.2.1, EQ.out.2.2.2] at hF0
      have HF := Lib.hid hF0
      clear hF0
      refine wp_region_up W1.heap.size 28 [(true, 0), (true, 1), (true, 2), (true, 3), (true, 4), (true, 5), (true, 6), (true, 7), (true, 8), (true, 9), (true, 10), (true, 11), (true, 12), (true, 13), (true, 14), (true, 15), (true, 16), (true, 17), (true, 18), (true, 19), (true, 20), (true, 21), (true, 22), (true, 23), (true, 24), (true, 25), (true, 26), (true, 27)] (by kernel_rfl) (by kernel_rfl) (fun _ _ d _ _ h => by cases d <;> exact h) ?_
      have hb : Below W1.heap.size W1 W1.drew := (Below.refl _ _).drew
      iterate 28
       refine wpS_takeL rfl rfl ?_
       go_big_quiet_step (rfl)
       refine wpQuiet_nil ?_
      refine wpS_nil ?_
      simp only [List.drop_succ_cons, List.drop_zero]
      clear f0 f1 g0 g1 la lb qp0 qp1 qq0 qq1 qr0 qr1 qs0 qs1
      go_wp2_with fail
      refine (Facing_no X Y P Q R S HF.out _).mono ?_
      rintro e w2 ⟨rfl, hn⟩
      replace hb := hb.trans (hn.mono hb.size)
      clear hn
      go_wp2_with fail
      refine name_world ?_
      intro W2 hW2
      have HVW2 := Lib.hid (show Below V.heap.size V W2 by rw [hW2]; exact HVW1.out.trans (hb.mono HVW1.out.size))
      clear hW2 hb HVW1
      have hka := KA.out.of HVW2.out
      have hkb := KB.out.of HVW2.out
      obtain ⟨pb, epb, hpt⟩ := (HP.out.of (BV.out.trans (HVW2.out.mono BV.out.size))).atP (by omega)
      injection epb with epb
      subst epb
      have f0 : ∀ u : UpTo W2.heap.size W2, u.w.cell? ⟨ab, i, none⟩ = some (.int .i64 (P : Nat)) := fun u => ((hka.of u.below).cell i).trans (EQ.out.1 ▸ cr_cell (x0, x1, x2) hi3)
      have f1 : ∀ u : UpTo W2.heap.size W2, u.w.cell? ⟨ab, I1, none⟩ = some (.int .i64 (Q : Nat)) := fun u => ((hka.of u.below).cell I1).trans (EQ.out.2.1 ▸ cr_cell (x0, x1, x2) hI3)
      have g0 : ∀ u : UpTo W2.heap.size W2, u.w.cell? ⟨bb, k, none⟩ = some (.int .i64 (R : Nat)) := fun u => ((hkb.of u.below).cell k).trans (EQ.out.2.2.1 ▸ cr_cell (y0, y1, y2) hk3)
      have g1 : ∀ u : UpTo W2.heap.size W2, u.w.cell? ⟨bb, K1, none⟩ = some (.int .i64 (S : Nat)) := fun u => ((hkb.of u.below).cell K1).trans (EQ.out.2.2.2 ▸ cr_cell (y0, y1, y2) hK3)
      have la := hka.lt
      have lb := hkb.lt
      have qp := hpt P lP
      have qq := hpt Q lQ
      have qr := hpt R lR
      have qs := hpt S lS
      have qp0 := fun u => (qp u).1
      have qp1 := fun u => (qp u).2
      have qq0 := fun u => (qq u).1
      have qq1 := fun u => (qq u).2
      have qr0 := fun u => (qr u).1
      have qr1 := fun u => (qr u).2
      have qs0 := fun u => (qs u).1
      have qs1 := fun u => (qs u).2
      clear hka hkb hpt qp qq qr qs
      clear qp0 qp1 qq0 qq1 qr0 qr1 qs0 qs1
      have hz := HM.out.sid i k (by omega) (by omega)
      rw [EI.out.1, EI.out.2, EQ.out.1, EQ.out.2.1, EQ.out.2.2.1, EQ.out.2.2.2] at hz
      have hz2 : ¬ Q = S := fun e => hz ⟨HE.out, e⟩
      have hz4 : (((Q : Nat) : Int) == ((S : Nat) : Int)) = false := by simp; omega
      have hz5 : ((Q : Nat) == (S : Nat)) = false := by simpa using hz2
      have hz6 : decide ((Q : Nat) = (S : Nat)) = false := by simpa using hz2
      clear hz hz2
      refine wp_region_up W2.heap.size 18 [(true, 0), (true, 1), (true, 2), (true, 3), (true, 4), (true, 5), (true, 6), (true, 7), (true, 8), (true, 9), (true, 10), (true, 11), (true, 12), (true, 13), (true, 14), (true, 15), (true, 16), (true, 17)] (by kernel_rfl) (by kernel_rfl) (fun _ _ d _ _ h => by cases d <;> exact h) ?_
      have hb : Below W2.heap.size W2 W2.drew := (Below.refl _ _).drew
      iterate 18
       refine wpS_takeL rfl rfl ?_
       go_big_quiet_step (rfl)
       refine wpQuiet_nil ?_
      refine wpS_nil ?_
      simp only [List.drop_succ_cons, List.drop_zero]
      have h0 := (KA.out.of (HVW2.out.trans (hb.mono HVW2.out.size))).cell i |>.trans (EQ.out.1 ▸ cr_cell (x0, x1, x2) hi3)
      have h1 := (KB.out.of (HVW2.out.trans (hb.mono HVW2.out.size))).cell k |>.trans (EQ.out.2.2.1 ▸ cr_cell (y0, y1, y2) hk3)
      have h2 := (KA.out.of (HVW2.out.trans (hb.mono HVW2.out.size))).cell I1 |>.trans (EQ.out.2.1 ▸ cr_cell (x0, x1, x2) hI3)
      have h3 := (KB.out.of (HVW2.out.trans (hb.mono HVW2.out.size))).cell K1 |>.trans (EQ.out.2.2.2 ▸ cr_cell (y0, y1, y2) hK3)
      have l0 := (KA.out.of (HVW2.out.trans (hb.mono HVW2.out.size))).lt
      have l1 := (KB.out.of (HVW2.out.trans (hb.mono HVW2.out.size))).lt
      have HV9 := Lib.hid (HVW2.out.trans (hb.mono HVW2.out.size))
      clear f0 f1 g0 g1 la lb hb HVW2
      go_wp2_with fail
      go_roundg (3 - (k + 1))
      case measure => omega
      case rel =>
       refine ⟨k + 1, by norm_cast, ?_, by omega, Nat.le_refl _, HV9⟩
       rw [show 3 * i + (k + 1) = (3 * i + k) + 1 from rfl, mq_yes (p := P) (q := R) (by rw [show (3 * i + k) / 3 = i by omega]; exact EQ.out.1) (by rw [show (3 * i + k) % 3 = k by omega]; exact EQ.out.2.2.1) HE.out, HC.out]
       show Value.int .i64 ((c : Int) + 1) = .int .i64 ((c + 1 : Nat) : Int)
       norm_cast
     ·have HE := Lib.hid he
      have hq1 : (((P : Nat) : Int) == ((R : Nat) : Int)) = false := by simp; omega
      have hq2 : ((P : Nat) == (R : Nat)) = false := by simpa using he
      have hq3 : decide ((P : Nat) = (R : Nat)) = false := by simpa using he
      clear he
      go_wp2_with fail
      refine wp_region_up wr.heap.size 6 [(true, 0), (true, 1), (true, 2), (true, 3), (true, 4), (true, 5)] (by kernel_rfl) (by kernel_rfl) (fun _ _ d _ _ h => by cases d <;> exact h) ?_
      have hb : Below wr.heap.size wr wr.drew := (Below.refl _ _).drew
      iterate 6
       refine wpS_takeL rfl rfl ?_
       go_big_quiet_step (rfl)
       refine wpQuiet_nil ?_
      refine wpS_nil ?_
      simp only [List.drop_succ_cons, List.drop_zero]
      have h0 := ((KAW.out.of hb).cell i).trans (EQ.out.1 ▸ cr_cell (x0, x1, x2) hi3)
      have h1 := ((KBW.out.of hb).cell k).trans (EQ.out.2.2.1 ▸ cr_cell (y0, y1, y2) hk3)
      have lh0 := (KAW.out.of hb).lt
      have lh1 := (KBW.out.of hb).lt
      clear f0 f1 g0 g1
      go_wp2_with fail
      clear h0 h1 lh0 lh1 la lb
      refine name_world ?_
      intro W1 hW1
      have HVW1 := Lib.hid (show Below V.heap.size V W1 by rw [hW1]; exact HVW.out.trans (hb.mono HVW.out.size))
      clear hW1 hb HVW KAW KBW
      have hka := KA.out.of HVW1.out
      have hkb := KB.out.of HVW1.out
      obtain ⟨pb, epb, hpt⟩ := (HP.out.of (BV.out.trans (HVW1.out.mono BV.out.size))).atP (by omega)
      injection epb with epb
      subst epb
      have f0 : ∀ u : UpTo W1.heap.size W1, u.w.cell? ⟨ab, i, none⟩ = some (.int .i64 (P : Nat)) := fun u => ((hka.of u.below).cell i).trans (EQ.out.1 ▸ cr_cell (x0, x1, x2) hi3)
      have f1 : ∀ u : UpTo W1.heap.size W1, u.w.cell? ⟨ab, I1, none⟩ = some (.int .i64 (Q : Nat)) := fun u => ((hka.of u.below).cell I1).trans (EQ.out.2.1 ▸ cr_cell (x0, x1, x2) hI3)
      have g0 : ∀ u : UpTo W1.heap.size W1, u.w.cell? ⟨bb, k, none⟩ = some (.int .i64 (R : Nat)) := fun u => ((hkb.of u.below).cell k).trans (EQ.out.2.2.1 ▸ cr_cell (y0, y1, y2) hk3)
      have g1 : ∀ u : UpTo W1.heap.size W1, u.w.cell? ⟨bb, K1, none⟩ = some (.int .i64 (S : Nat)) := fun u => ((hkb.of u.below).cell K1).trans (EQ.out.2.2.2 ▸ cr_cell (y0, y1, y2) hK3)
      have la := hka.lt
      have lb := hkb.lt
      have qp := hpt P lP
      have qq := hpt Q lQ
      have qr := hpt R lR
      have qs := hpt S lS
      have qp0 := fun u => (qp u).1
      have qp1 := fun u => (qp u).2
      have qq0 := fun u => (qq u).1
      have qq1 := fun u => (qq u).2
      have qr0 := fun u => (qr u).1
      have qr1 := fun u => (qr u).2
      have qs0 := fun u => (qs u).1
      have qs1 := fun u => (qs u).2
      clear hka hkb hpt qp qq qr qs
      have hF0 := HM.out.fac i k (by omega) (by omega)
      rw [EI.out.1, EI.out.2, EQ.out.1, EQ.out.2.1, EQ.out.2.2.1, EQ.out.2.2.2] at hF0
      have HF := Lib.hid hF0
      clear hF0
      refine wp_region_up W1.heap.size 28 [(true, 0), (true, 1), (true, 2), (true, 3), (true, 4), (true, 5), (true, 6), (true, 7), (true, 8), (true, 9), (true, 10), (true, 11), (true, 12), (true, 13), (true, 14), (true, 15), (true, 16), (true, 17), (true, 18), (true, 19), (true, 20), (true, 21), (true, 22), (true, 23), (true, 24), (true, 25), (true, 26), (true, 27)] (by kernel_rfl) (by kernel_rfl) (fun _ _ d _ _ h => by cases d <;> exact h) ?_
      have hb : Below W1.heap.size W1 W1.drew := (Below.refl _ _).drew
      iterate 28
       refine wpS_takeL rfl rfl ?_
       go_big_quiet_step (rfl)
       refine wpQuiet_nil ?_
      refine wpS_nil ?_
      simp only [List.drop_succ_cons, List.drop_zero]
      clear f0 f1 g0 g1 la lb qp0 qp1 qq0 qq1 qr0 qr1 qs0 qs1
      go_wp2_with fail
      refine (Facing_no X Y P Q R S HF.out _).mono ?_
      rintro e w2 ⟨rfl, hn⟩
      replace hb := hb.trans (hn.mono hb.size)
      clear hn
      go_wp2_with fail
      refine name_world ?_
      intro W2 hW2
      have HVW2 := Lib.hid (show Below V.heap.size V W2 by rw [hW2]; exact HVW1.out.trans (hb.mono HVW1.out.size))
      clear hW2 hb HVW1
      have hka := KA.out.of HVW2.out
      have hkb := KB.out.of HVW2.out
      obtain ⟨pb, epb, hpt⟩ := (HP.out.of (BV.out.trans (HVW2.out.mono BV.out.size))).atP (by omega)
      injection epb with epb
      subst epb
      have f0 : ∀ u : UpTo W2.heap.size W2, u.w.cell? ⟨ab, i, none⟩ = some (.int .i64 (P : Nat)) := fun u => ((hka.of u.below).cell i).trans (EQ.out.1 ▸ cr_cell (x0, x1, x2) hi3)
      have f1 : ∀ u : UpTo W2.heap.size W2, u.w.cell? ⟨ab, I1, none⟩ = some (.int .i64 (Q : Nat)) := fun u => ((hka.of u.below).cell I1).trans (EQ.out.2.1 ▸ cr_cell (x0, x1, x2) hI3)
      have g0 : ∀ u : UpTo W2.heap.size W2, u.w.cell? ⟨bb, k, none⟩ = some (.int .i64 (R : Nat)) := fun u => ((hkb.of u.below).cell k).trans (EQ.out.2.2.1 ▸ cr_cell (y0, y1, y2) hk3)
      have g1 : ∀ u : UpTo W2.heap.size W2, u.w.cell? ⟨bb, K1, none⟩ = some (.int .i64 (S : Nat)) := fun u => ((hkb.of u.below).cell K1).trans (EQ.out.2.2.2 ▸ cr_cell (y0, y1, y2) hK3)
      have la := hka.lt
      have lb := hkb.lt
      have qp := hpt P lP
      have qq := hpt Q lQ
      have qr := hpt R lR
      have qs := hpt S lS
      have qp0 := fun u => (qp u).1
      have qp1 := fun u => (qp u).2
      have qq0 := fun u => (qq u).1
      have qq1 := fun u => (qq u).2
      have qr0 := fun u => (qr u).1
      have qr1 := fun u => (qr u).2
      have qs0 := fun u => (qs u).1
      have qs1 := fun u => (qs u).2
      clear hka hkb hpt qp qq qr qs
      clear qp0 qp1 qq0 qq1 qr0 qr1 qs0 qs1
      refine wp_region_up W2.heap.size 18 [(true, 0), (true, 1), (true, 2), (true, 3), (true, 4), (true, 5), (true, 6), (true, 7), (true, 8), (true, 9), (true, 10), (true, 11), (true, 12), (true, 13), (true, 14), (true, 15), (true, 16), (true, 17)] (by kernel_rfl) (by kernel_rfl) (fun _ _ d _ _ h => by cases d <;> exact h) ?_
      have hb : Below W2.heap.size W2 W2.drew := (Below.refl _ _).drew
      iterate 18
       refine wpS_takeL rfl rfl ?_
       go_big_quiet_step (rfl)
       refine wpQuiet_nil ?_
      refine wpS_nil ?_
      simp only [List.drop_succ_cons, List.drop_zero]
      have h0 := (KA.out.of (HVW2.out.trans (hb.mono HVW2.out.size))).cell i |>.trans (EQ.out.1 ▸ cr_cell (x0, x1, x2) hi3)
      have h1 := (KB.out.of (HVW2.out.trans (hb.mono HVW2.out.size))).cell k |>.trans (EQ.out.2.2.1 ▸ cr_cell (y0, y1, y2) hk3)
      have h2 := (KA.out.of (HVW2.out.trans (hb.mono HVW2.out.size))).cell I1 |>.trans (EQ.out.2.1 ▸ cr_cell (x0, x1, x2) hI3)
      have h3 := (KB.out.of (HVW2.out.trans (hb.mono HVW2.out.size))).cell K1 |>.trans (EQ.out.2.2.2 ▸ cr_cell (y0, y1, y2) hK3)
      have l0 := (KA.out.of (HVW2.out.trans (hb.mono HVW2.out.size))).lt
      have l1 := (KB.out.of (HVW2.out.trans (hb.mono HVW2.out.size))).lt
      have HV9 := Lib.hid (HVW2.out.trans (hb.mono HVW2.out.size))
      clear f0 f1 g0 g1 la lb hb HVW2
      go_wp2_with fail
      go_roundg (3 - (k + 1))
      case measure => omega
      case rel =>
       refine ⟨k + 1, by norm_cast, ?_, by omega, Nat.le_refl _, HV9⟩
       rw [show 3 * i + (k + 1) = (3 * i + k) + 1 from rfl, mq_no (p := P) (q := R) (by rw [show (3 * i + k) / 3 = i by omega]; exact EQ.out.1) (by rw [show (3 * i + k) % 3 = k by omega]; exact EQ.out.2.2.1) HE.out, HC.out]
    ·have hk9 : k = 3 := by omega
     subst hk9
     go_wp2_with fail
     go_roundg (3 - (i + 1))
     case measure => omega
     case rel => exact ⟨i + 1, by norm_cast, by rw [show 3 * (i + 1) = 3 * i + 3 from rfl], by omega, Nat.le_refl _, HV2⟩
  ·have hi9 : i = 3 := by omega
   subst hi9
   obtain ⟨c, hc⟩ : ∃ c, mq (x0, x1, x2) (y0, y1, y2) (3 * 3) = c := ⟨_, rfl⟩
   rw [hc]
   have hc3 : ¬ c = 3 := fun e => HM.out.all (hc.trans e)
   have hz4 : ((c : Int) == 3) = false := by simp; omega
   have HB := Lib.hid (BV.out.trans (HV.out.mono BV.out.size))
   clear hc hc3
   go_wp2
   go_ret
   exact ⟨rfl, HB.out⟩
end Go.Proofs.Ytdlpfiiakmhnlaa

