/- Bs2: several of my texts in one: RegG, RegH, Blk, Dig, Walk1. Conditions: as each of them says. -/
import Derived.Test.YtlcbomjdbdgbmaaBs1
import Derived.WalkKit
import Derived.KernelRfl
import Derived.Test.YtlcbomjdbdgbmaaProg
import Derived.WalkSpells
import Derived.StillTactics
import Derived.Laws.Pointers
import Derived.Deep.RegionHeld3
import Derived.RowKit3
import Derived.Deep.QuietTactic
import Derived.BigQuiet
import Derived.BigRegion
/- The laws on regions once more, for a region that ends in several stores: what merely takes a call's results apart may come between the stores. Conditions: closed checks on the region's edges. -/
namespace Go.Proofs.Ytlcbomjdbdgbmaa
open Go Go.RowKit

section
variable {P : Program} {ops : Array Oper} {Q : Exit → Act → World → Prop} {md : Region.Mode} {W : World}

/-- the class of worlds, until number j0 has come up -/
def ClsAt (C : World → Prop) (j0 : Nat) (listed : Array Bool) (w : World) : Prop := C w ∨ listed.getD j0 false = true

def wpAnyHS (P : Program) (md : Region.Mode) (ops : Array Oper) (Q : Exit → Act → World → Prop) (C : World → Prop) (j0 : Nat) (L : Array Bool → Act → World → Prop) : Nat → Array Bool → Act → World → Prop
  | 0, listed, a, w => L listed a w
  | f + 1, listed, a, w => Region.ready md ops listed ≠ [] ∧ ∀ i ∈ Region.ready md ops listed, wpOp P ops Q i (fun a' w' => ClsAt C j0 (listed.setIfInBounds i true) w' ∧ wpAnyHS P md ops Q C j0 L f (listed.setIfInBounds i true) a' w') a w

theorem wpAny_of_HS {C : World → Prop} {j0 g : Nat} {L : Array Bool → Act → World → Prop} (hL : ∀ listed a w, L listed a w → wpAny P md ops Q g listed a w) :
    ∀ (f : Nat) (listed : Array Bool) (a : Act) (w : World), wpAnyHS P md ops Q C j0 L f listed a w → wpAny P md ops Q (f + g) listed a w
  | 0, listed, a, w, h => by rw [Nat.zero_add]; exact hL _ _ _ h
  | f + 1, listed, a, w, h => by
    rw [show f + 1 + g = (f + g) + 1 by omega]
    exact ⟨fun h0 => absurd h0 h.1, fun i hi => wpOp_mono (fun a' w' h' => wpAny_of_HS hL f _ a' w' h'.2) (h.2 i hi)⟩

theorem HeadInv.all {listed : Array Bool} (h : HeadInv md ops ops.size listed) {i : Nat} (hi : i ∈ Region.ready md ops listed) : HeadInv md ops ops.size (listed.setIfInBounds i true) := by
  obtain ⟨_, o, ho, _⟩ := mem_ready.1 hi
  exact h.set hi (Array.getElem?_eq_some_iff.1 ho).1

theorem wpAnyHS_first {C D : World → Prop} {j0 i : Nat} {oi : Oper} {v : Value} {L : Array Bool → Act → World → Prop} (hi : ops[i]? = some oi) (hsel : ∀ (j : Nat) (o : Oper) cs b, ops[j]? = some o → o.op ≠ .select cs b)
    (hQ : ∀ c a d v w, Q (.panic c) (Act.put a d v) w → Q (.panic c) a w)
    (hij : i ≠ j0) (hD : ∀ listed w, HeadInv md ops ops.size listed → listed.getD i true = false → ClsAt C j0 listed w → D w)
    (hdone : ∀ listed a w, L listed a w → Region.ready md ops listed = []) :
    ∀ (f : Nat) (listed : Array Bool) (a : Act) (w : World), HeadInv md ops ops.size listed →
      (∀ j oj, ops[j]? = some oj → j ≠ i → listed.getD j true = false → (∀ e ∈ oj.after, Region.binds md e = true → e.on ≠ i) → oi.apart ops oj = true) →
      i ∈ Region.ready md ops listed → YieldsIf P ops D oi v a → ClsAt C j0 listed w →
      wpAnyHS P md ops Q C j0 L f (listed.setIfInBounds i true) (a.put oi.dst v) w → wpAnyHS P md ops Q C j0 L (f + 1) listed a w := by
  intro f
  have cls : ∀ (listed : Array Bool) (w : World), ClsAt C j0 listed w → ClsAt C j0 (listed.setIfInBounds i true) w := fun listed w h => h.imp id getD_set_true
  induction f with
  | zero =>
    intro listed a w inv _ hr hy hC H
    have hun := (mem_ready.1 hr).1
    refine ⟨fun h => (by rw [h] at hr; cases hr), fun j hj => ?_⟩
    by_cases hji : j = i
    · subst hji; exact hy.wpOp hi (hD _ _ inv hun hC) ⟨cls _ _ hC, H⟩
    · have h1 := hdone _ _ _ H
      have h2 := ready_mono hj hji
      rw [h1] at h2
      cases h2
  | succ f ih =>
    intro listed a w inv hfree hr hy hC H
    have hun := (mem_ready.1 hr).1
    refine ⟨fun h => (by rw [h] at hr; cases hr), fun j hj => ?_⟩
    by_cases hji : j = i
    · subst hji; exact hy.wpOp hi (hD _ _ inv hun hC) ⟨cls _ _ hC, H⟩
    · have h1 := H.2 j (ready_mono hj hji)
      obtain ⟨hjun, oj, hoj, hall⟩ := mem_ready.1 hj
      have hnot : ∀ e ∈ oj.after, Region.binds md e = true → e.on ≠ i := fun e he hb heq => by
        have h1 := hall e he hb
        rw [heq, getD_both hun] at h1
        cases h1
      have h2 := wpOp_putIf hoj (hfree j oj hoj hji hjun hnot) (fun cs b => hsel i oi cs b hi) (fun cs b => hsel j oj cs b hoj) (fun c a w => hQ c _ _ _ w) hy h1
      have hfree' : ∀ k ok, ops[k]? = some ok → k ≠ i → (listed.setIfInBounds j true).getD k true = false →
          (∀ e ∈ ok.after, Region.binds md e = true → e.on ≠ i) → oi.apart ops ok = true := fun k ok hk hki hun hno => by
        refine hfree k ok hk hki ?_ hno
        by_cases hjk : j = k
        · subst hjk; exact hjun
        · rw [getD_set_ne true hjk] at hun; exact hun
      refine wpOp_mono (fun a' w' h3 => ?_) h2
      have hc : ClsAt C j0 (listed.setIfInBounds j true) w' := by
        rcases h3.2.1 with h | h
        · exact .inl h
        · rw [Array.setIfInBounds_comm _ _ (Ne.symm hji)] at h
          rw [getD_set_ne false hij] at h; exact .inr h
      refine ⟨hc, ih (listed.setIfInBounds j true) a' w' (HeadInv.all inv hj) hfree' (ready_mono hr (Ne.symm hji)) h3.1 hc ?_⟩
      rw [Array.setIfInBounds_comm _ _ hji]
      exact h3.2.2

/-- the walk by a schedule: (0, i): it only reads or computes, in any world of the class; (2, i): it only computes; (1, i): it comes up alone, the class holds behind it; (3, i): it comes up alone -/
def wpG (P : Program) (ops : Array Oper) (C : World → Prop) (Q : Exit → Act → World → Prop) : List (Nat × Nat) → Act → World → Prop
  | [], a, w => Q .normal a w
  | (0, i) :: σ, a, w => ∃ o v, ops[i]? = some o ∧ YieldsIf P ops C o v a ∧ wpG P ops C Q σ (a.put o.dst v) w
  | (2, i) :: σ, a, w => ∃ o v, ops[i]? = some o ∧ YieldsIf P ops (fun _ => True) o v a ∧ wpG P ops C Q σ (a.put o.dst v) w
  | (1, i) :: σ, a, w => wpOp P ops Q i (fun a' w' => C w' ∧ wpG P ops C Q σ a' w') a w
  | (_, i) :: σ, a, w => wpOp P ops Q i (fun a' w' => wpG P ops C Q σ a' w') a w

/-- does number j wait for number i, by way of some others? -/
def waitsN (md : Region.Mode) (ops : Array Oper) : Nat → Nat → Nat → Bool
  | 0, j, i => Region.waitsFor md ops j i
  | n + 1, j, i => Region.waitsFor md ops j i || (List.range ops.size).any fun m => Region.waitsFor md ops j m && waitsN md ops n m i

theorem waits_listed {listed : Array Bool} {j i : Nat} (inv : HeadInv md ops ops.size listed) (hw : Region.waitsFor md ops j i = true) (h : listed.getD j false = true) : listed.getD i false = true := by
  obtain ⟨o, ho, e, he, hb, hon⟩ := Region.waitsFor_spec hw
  have h2 := inv.closed j o ho h e he hb
  rw [hon] at h2
  exact h2
theorem waitsN_listed {listed : Array Bool} (inv : HeadInv md ops ops.size listed) : ∀ (n j i : Nat), waitsN md ops n j i = true → listed.getD j false = true → listed.getD i false = true
  | 0, j, i, hw, h => waits_listed inv hw h
  | n + 1, j, i, hw, h => by
    unfold waitsN at hw
    rw [Bool.or_eq_true] at hw
    rcases hw with hw | hw
    · exact waits_listed inv hw h
    · obtain ⟨m, _, hm⟩ := List.any_eq_true.1 hw
      rw [Bool.and_eq_true] at hm
      exact waitsN_listed inv n m i hm.2 (waits_listed inv hm.1 h)

/-- does one item of the schedule fit the edges? -/
def itemB (md : Region.Mode) (ops : Array Oper) (j0 k i : Nat) (listed : Array Bool) : Bool :=
  match k with
  | 0 => i != j0 && (waitsN md ops 2 j0 i || decide (ops.size ≤ j0)) && (Region.ready md ops listed).contains i && Region.free md ops listed i
  | 2 => i != j0 && (Region.ready md ops listed).contains i && Region.free md ops listed i
  | 1 => i != j0 && decide (Region.ready md ops listed = [i])
  | _ => (i == j0 || listed.getD j0 false) && decide (Region.ready md ops listed = [i])

def schedG (md : Region.Mode) (ops : Array Oper) (j0 : Nat) : List (Nat × Nat) → Array Bool → Bool
  | [], listed => decide (Region.ready md ops listed = [])
  | (k, i) :: σ, listed => itemB md ops j0 k i listed && schedG md ops j0 σ (listed.setIfInBounds i true)

theorem cls_of {C : World → Prop} {j0 i : Nat} {listed : Array Bool} {w : World} (hw : (waitsN md ops 2 j0 i || decide (ops.size ≤ j0)) = true) (inv : HeadInv md ops ops.size listed) (hun : listed.getD i true = false)
    (h : ClsAt C j0 listed w) : C w := by
  rcases h with h | h
  · exact h
  · rw [Bool.or_eq_true, decide_eq_true_eq] at hw
    rcases hw with hw | hw
    · have h2 := waitsN_listed inv _ _ _ hw h
      rw [getD_both hun] at h2; cases h2
    · have : listed.getD j0 false = false := by
        have hs := inv.size
        simp [Array.getElem?_eq_none (by omega : listed.size ≤ j0)]
      rw [this] at h; cases h

theorem wpAnyHS_of_G {C : World → Prop} {j0 : Nat} (hsel : Region.noSelect ops = true) (hQ : ∀ c a d v w, Q (.panic c) (Act.put a d v) w → Q (.panic c) a w) :
    ∀ (σ : List (Nat × Nat)) (listed : Array Bool) (a : Act) (w : World), HeadInv md ops ops.size listed → schedG md ops j0 σ listed = true → ClsAt C j0 listed w → wpG P ops C Q σ a w →
    wpAnyHS P md ops Q C j0 (fun listed' a' w' => Region.ready md ops listed' = [] ∧ Q .normal a' w') σ.length listed a w
  | [], listed, a, w, _, hB, _, h => ⟨by simpa [schedG] using hB, h⟩
  | (0, i) :: σ, listed, a, w, inv, hB, hC, h => by
    simp only [schedG, itemB, Bool.and_eq_true, bne_iff_ne] at hB
    obtain ⟨⟨⟨⟨hij, hw⟩, hr⟩, hf⟩, hB'⟩ := hB
    obtain ⟨o, v, ho, hy, hK⟩ := h
    have hr' : i ∈ Region.ready md ops listed := by simpa using hr
    exact wpAnyHS_first ho (Region.noSelect_spec hsel) hQ hij (fun l w il hu hc => cls_of hw il hu hc) (fun l a w hL => hL.1) σ.length listed a w inv
      (Region.free_spec ho hf) hr' hy hC (wpAnyHS_of_G hsel hQ σ _ _ _ (HeadInv.all inv hr') hB' (hC.imp id getD_set_true) hK)
  | (2, i) :: σ, listed, a, w, inv, hB, hC, h => by
    simp only [schedG, itemB, Bool.and_eq_true, bne_iff_ne] at hB
    obtain ⟨⟨⟨hij, hr⟩, hf⟩, hB'⟩ := hB
    obtain ⟨o, v, ho, hy, hK⟩ := h
    have hr' : i ∈ Region.ready md ops listed := by simpa using hr
    exact wpAnyHS_first ho (Region.noSelect_spec hsel) hQ hij (fun _ _ _ _ _ => trivial) (fun l a w hL => hL.1) σ.length listed a w inv
      (Region.free_spec ho hf) hr' hy hC (wpAnyHS_of_G hsel hQ σ _ _ _ (HeadInv.all inv hr') hB' (hC.imp id getD_set_true) hK)
  | (1, i) :: σ, listed, a, w, inv, hB, hC, h => by
    simp only [schedG, itemB, Bool.and_eq_true, decide_eq_true_eq] at hB
    obtain ⟨⟨_, hr⟩, hB'⟩ := hB
    refine ⟨by rw [hr]; simp, fun j hj => ?_⟩
    have hji : j = i := by rw [hr] at hj; simpa using hj
    subst hji
    exact wpOp_mono (fun a' w' h' => ⟨.inl h'.1, wpAnyHS_of_G hsel hQ σ _ _ _ (HeadInv.all inv hj) hB' (.inl h'.1) h'.2⟩) h
  | (k + 3, i) :: σ, listed, a, w, inv, hB, hC, h => by
    simp only [schedG, itemB, Bool.and_eq_true, decide_eq_true_eq, Bool.or_eq_true, beq_iff_eq] at hB
    obtain ⟨⟨hj0, hr⟩, hB'⟩ := hB
    refine ⟨by rw [hr]; simp, fun j hj => ?_⟩
    have hji : j = i := by rw [hr] at hj; simpa using hj
    subst hji
    have hc : ∀ w', ClsAt C j0 (listed.setIfInBounds j true) w' := by
      intro w'
      refine .inr ?_
      rcases hj0 with h | h
      · subst h
        obtain ⟨_, o, ho, _⟩ := mem_ready.1 hj
        have := (Array.getElem?_eq_some_iff.1 ho).1
        rw [getD_set (by rw [inv.size]; exact this)]; simp
      · exact getD_set_true h
    exact wpOp_mono (fun a' w' h' => ⟨hc w', wpAnyHS_of_G hsel hQ σ _ _ _ (HeadInv.all inv hj) hB' (hc w') h'⟩) h

theorem HeadInv.none : HeadInv md ops ops.size (Array.replicate ops.size false) :=
  ⟨by simp, fun j oj _ hl => (by rw [getD_replicate_false] at hl; cases hl), fun t h1 h2 => by omega⟩

/-- THE LAW: a region that draws its order, walked by a schedule of all its operations; j0: the first that may leave the class. -/
theorem wp_region_G {id : Nat} {a : Act} {w : World} {l : List Oper} (j0 : Nat) (σ : List (Nat × Nat)) (hm : P.follows .mixedOrders = true)
    (hB : (Region.noSelect l.toArray && decide (σ.length = l.length) && schedG .any l.toArray j0 σ (Array.replicate l.length false)) = true)
    (hQ : ∀ c a d v w, Q (.panic c) (Act.put a d v) w ↔ Q (.panic c) a w)
    (h : wpG P l.toArray (fun w' => ∃ u : UpTo w.heap.size w, w' = u.w) Q σ a w.drew) : (Code.region id l.toArray true).wp P Q a w := by
  simp only [Bool.and_eq_true, decide_eq_true_eq] at hB
  obtain ⟨⟨hsel, hlen⟩, hs⟩ := hB
  have hrep : (Array.replicate l.length false) = Array.replicate l.toArray.size false := by simp
  rw [hrep] at hs
  have H := wpAnyHS_of_G (P := P) hsel (fun c a d v w => (hQ c a d v w).1) σ _ a w.drew HeadInv.none hs (.inl (up_iff.2 (Below.refl _ _).drew)) h
  refine wp_region_any hm ?_
  have := wpAny_of_HS (g := 0) (fun listed a' w' hL => (⟨hL.1, hL.2⟩ : wpAny P .any l.toArray Q 0 listed a' w')) _ _ _ _ H
  have e : σ.length + 0 = l.toArray.size := by simp [hlen]
  rw [e] at this
  exact this


theorem free_of {n n1 : Nat} {A : List Nat} {z : Nat → Obj} {ls listed : Array Bool} {D : List Nat} {β : Nat → Nat} {w : World} (s : FlSt md ops n A W z ls listed D β w) (ok : FloatOk ops n1 A) {i : Nat} {o : Oper} (hin : i < n1) (ho : ops[i]? = some o)
    (hfr : Region.free md ops ls i = true) : ∀ j oj, ops[j]? = some oj → j ≠ i → listed.getD j true = false → (∀ e ∈ oj.after, Region.binds md e = true → e.on ≠ i) → o.apart ops oj = true := by
  intro j oj hj hji hun hno
  by_cases hjA : j ∈ A
  · obtain ⟨_, oj', hoj', _, _, _, hall⟩ := ok.at_ j hjA
    obtain ⟨oi', hoi', _, _, hap⟩ := hall i hin (Ne.symm hji)
    obtain rfl : o = oi' := Option.some.inj (ho.symm.trans hoi')
    obtain rfl : oj = oj' := Option.some.inj (hj.symm.trans hoj')
    exact hap
  · have hjs : j < ops.size := (Array.getElem?_eq_some_iff.1 hj).1
    refine Region.free_spec ho hfr j oj hj hji ?_ hno
    rw [getD_tf (by rw [s.lsz]; exact hjs)]
    rw [getD_tf (by rw [s.size]; exact hjs)] at hun
    cases hl : ls.getD j false with
    | false => rfl
    | true => rw [s.sup j hl hjA] at hun; cases hun

/-- the walk by a schedule of what comes ahead of the first store, the world growing between its steps -/
def wpFG (P : Program) (ops : Array Oper) (W : World) (Q : Exit → Act → World → Prop) (T : Act → World → Prop) : List (Nat × Nat) → Act → World → Prop
  | [], a, w => T a w
  | (0, i) :: σ, a, w => ∃ o v, ops[i]? = some o ∧ YieldsIf P ops (fun w' => ∃ u : UpTo W.heap.size W, w' = u.w) o v a ∧ wpFG P ops W Q T σ (a.put o.dst v) w
  | (2, i) :: σ, a, w => ∃ o v, ops[i]? = some o ∧ YieldsIf P ops (fun _ => True) o v a ∧ wpFG P ops W Q T σ (a.put o.dst v) w
  | (_, i) :: σ, a, w => ∀ w1, Below w.heap.size w w1 → wpOp P ops Q i (fun a' w' => Below w1.heap.size w1 w' ∧ wpFG P ops W Q T σ a' w') a w1

/-- the first part of a schedule: its items lie below j0, and none of them is number j0 or comes behind it -/
def schedFG (md : Region.Mode) (ops : Array Oper) (j0 : Nat) (τ : List (Nat × Nat)) : List (Nat × Nat) → Array Bool → Bool
  | [], listed => decide (Region.ready md ops listed = [j0]) && schedG md ops j0 τ listed
  | (k, i) :: σ, listed => decide (i < j0) && (k == 0 || k == 1 || k == 2) && itemB md ops j0 k i listed && schedFG md ops j0 τ σ (listed.setIfInBounds i true)

theorem floatG_main {j0 : Nat} {A : List Nat} {z : Nat → Obj} {τ : List (Nat × Nat)} (hsel : Region.noSelect ops = true) (hQ : ∀ c a d v w, Q (.panic c) (Act.put a d v) w ↔ Q (.panic c) a w) (hj0 : j0 < ops.size)
    (ok : FloatOk ops j0 A) (hAw : ∀ i ∈ A, Region.waitsFor md ops j0 i = true) (hAl : ∀ i ∈ A, ∀ oi, ops[i]? = some oi → ∀ ρ w, (execOp ρ oi).run P w = .ok (.value (ptrTo w.heap.size)) (w.alloc (z i))) :
    ∀ (f : Nat) (σ : List (Nat × Nat)) (D : List Nat) (β : Nat → Nat) (a0 : Act) (w0 w : World) (ls listed : Array Bool), σ.length + (A.length - D.length) = f → FlSt md ops ops.size A W z ls listed D β w →
      schedFG md ops j0 τ σ ls = true → Below w0.heap.size w0 w → wpFG P ops W Q (fun a w => ∀ w1, Below w.heap.size w w1 → Below W.heap.size W w1 → ∀ β, Good W z β A w1 → wpG P ops (fun w' => ∃ u : UpTo W.heap.size W, w' = u.w) Q τ (puts ops β A a) w1) σ a0 w0 →
      wpAnyHS P md ops Q (fun w' => ∃ u : UpTo W.heap.size W, w' = u.w) j0 (fun listed' a' w' => Region.ready md ops listed' = [] ∧ Q .normal a' w') (f + τ.length) listed (puts ops β D a0) w := by
  intro f
  have fin : ∀ (D : List Nat) (β : Nat → Nat) (a0 : Act) (w0 w : World) (ls listed : Array Bool), A.length ≤ D.length → FlSt md ops ops.size A W z ls listed D β w → schedG md ops j0 τ ls = true → Below w0.heap.size w0 w →
      (∀ w1, Below w0.heap.size w0 w1 → Below W.heap.size W w1 → ∀ β, Good W z β A w1 → wpG P ops (fun w' => ∃ u : UpTo W.heap.size W, w' = u.w) Q τ (puts ops β A a0) w1) →
      wpAnyHS P md ops Q (fun w' => ∃ u : UpTo W.heap.size W, w' = u.w) j0 (fun listed' a' w' => Region.ready md ops listed' = [] ∧ Q .normal a' w') τ.length listed (puts ops β D a0) w := by
    intro D β a0 w0 w ls listed hlen s hB hb h
    have hp : D.Perm A := nodup_perm s.dn s.da hlen
    have e : listed = ls := by
      refine Array.ext (s.size.trans s.lsz.symm) fun i h1 h2 => ?_
      have e1 : listed.getD i false = listed[i] := by simp [h1]
      have e2 : ls.getD i false = ls[i] := by simp [h2]
      rw [← e1, ← e2, Bool.eq_iff_iff]
      refine ⟨s.sub i, fun hi => ?_⟩
      by_cases hA : i ∈ A
      · exact (s.flo i hA).2 (hp.mem_iff.2 hA)
      · exact s.sup i hi hA
    rw [puts_perm ok β a0 s.da hp, e]
    exact wpAnyHS_of_G hsel (fun c a d v w => (hQ c a d v w).1) τ ls _ w (e ▸ s.inv) hB (.inl (up_iff.2 s.cw)) (h w hb s.cw β ⟨fun i hi => s.good.1 i (hp.mem_iff.2 hi), fun i hi j hj => s.good.2 i (hp.mem_iff.2 hi) j (hp.mem_iff.2 hj)⟩)
  induction f with
  | zero =>
    intro σ D β a0 w0 w ls listed hf s hB hb h
    have hσ : σ = [] := List.length_eq_zero_iff.1 (by omega)
    subst hσ
    simp only [schedFG, Bool.and_eq_true] at hB
    rw [Nat.zero_add]
    exact fin D β a0 w0 w ls listed (by simp only [List.length_nil] at hf; omega) s hB.2 hb h
  | succ f ih =>
    intro σ D β a0 w0 w ls listed hf s hB hb h
    rw [show f + 1 + τ.length = (f + τ.length) + 1 by omega]
    have allocs : ∀ i, i ∈ A → i ∉ D → wpOp P ops Q i (fun a' w' => ClsAt (fun w' => ∃ u : UpTo W.heap.size W, w' = u.w) j0 (listed.setIfInBounds i true) w' ∧ wpAnyHS P md ops Q (fun w' => ∃ u : UpTo W.heap.size W, w' = u.w) j0 (fun listed' a' w' => Region.ready md ops listed' = [] ∧ Q .normal a' w') (f + τ.length) (listed.setIfInBounds i true) a' w') (puts ops β D a0) w := by
      intro i hA hD
      refine made_step ok hAl hA hD ?_
      have s' := s.made ok (Nat.le_of_lt hj0) hA hD
      refine ⟨.inl (up_iff.2 s'.cw), ih σ (i :: D) _ a0 w0 (w.alloc (z i)) ls _ ?_ s' hB (hb.alloc hb.size _) h⟩
      have hle : (i :: D).length ≤ A.length := nodup_le (List.nodup_cons.2 ⟨hD, s.dn⟩) s'.da
      simp only [List.length_cons] at hle ⊢
      omega
    match σ, hf, hB, h with
    | [], hf, hB, h =>
      simp only [schedFG, Bool.and_eq_true, decide_eq_true_eq] at hB
      have hpend : ∃ i, i ∈ A ∧ i ∉ D := by
        refine Classical.byContradiction fun hno => ?_
        have hsub : ∀ i ∈ A, i ∈ D := fun i hi => Classical.byContradiction fun h' => hno ⟨i, hi, h'⟩
        have := nodup_le ok.nodup hsub
        simp only [List.length_nil] at hf; omega
      obtain ⟨i, hA, hD⟩ := hpend
      have hri := s.pending ok hA hD
      refine ⟨fun h0 => (by rw [h0] at hri; cases hri), fun j hj => ?_⟩
      rcases s.ready hj with ⟨h1, h2⟩ | ⟨_, h2⟩
      · exact allocs j h1 h2
      · rw [hB.1] at h2
        have hjj : j = j0 := by simpa using h2
        subst hjj
        obtain ⟨o, ho, e, he, hbd, hon⟩ := Region.waitsFor_spec (hAw i hA)
        obtain ⟨_, o', ho', hall⟩ := mem_ready.1 hj
        obtain rfl : o = o' := Option.some.inj (ho.symm.trans ho')
        have h3 := hall e he hbd
        rw [hon] at h3
        exact absurd ((s.flo i hA).1 h3) hD
    | (0, i) :: σ, hf, hB, h =>
      simp only [schedFG, itemB, Bool.and_eq_true, decide_eq_true_eq, bne_iff_ne] at hB
      obtain ⟨⟨⟨hin, _⟩, ⟨⟨hij, hw⟩, hr⟩, hfr⟩, hB'⟩ := hB
      obtain ⟨o, v, ho, hy, hK⟩ := h
      have hr' : i ∈ Region.ready md ops ls := by simpa using hr
      obtain ⟨hiA, hrl⟩ := s.ready_of ok hin hr'
      have hsj := Region.noSelect_spec hsel i o
      refine wpAnyHS_first ho (Region.noSelect_spec hsel) (fun c a d v w => (hQ c a d v w).1) hij (fun l w il hu hc => cls_of hw il hu hc) (fun l a w hL => hL.1) _ listed _ w s.inv
        (free_of s ok hin ho hfr) hrl (puts_yields ok β ho hin hiA (fun cs b => hsj cs b ho) a0 hy D s.da) (.inl (up_iff.2 s.cw)) ?_
      rw [puts_put ok β ho hin hiA v a0 D s.da]
      exact ih σ D β _ w0 w _ _ (by simp only [List.length_cons] at hf; omega) (s.step (Nat.lt_trans hin hj0) hiA hrl (Below.refl _ _)) hB' hb hK
    | (2, i) :: σ, hf, hB, h =>
      simp only [schedFG, itemB, Bool.and_eq_true, decide_eq_true_eq, bne_iff_ne] at hB
      obtain ⟨⟨⟨hin, _⟩, ⟨hij, hr⟩, hfr⟩, hB'⟩ := hB
      obtain ⟨o, v, ho, hy, hK⟩ := h
      have hr' : i ∈ Region.ready md ops ls := by simpa using hr
      obtain ⟨hiA, hrl⟩ := s.ready_of ok hin hr'
      have hsj := Region.noSelect_spec hsel i o
      refine wpAnyHS_first ho (Region.noSelect_spec hsel) (fun c a d v w => (hQ c a d v w).1) hij (fun _ _ _ _ _ => trivial) (fun l a w hL => hL.1) _ listed _ w s.inv
        (free_of s ok hin ho hfr) hrl (puts_yields ok β ho hin hiA (fun cs b => hsj cs b ho) a0 hy D s.da) (.inl (up_iff.2 s.cw)) ?_
      rw [puts_put ok β ho hin hiA v a0 D s.da]
      exact ih σ D β _ w0 w _ _ (by simp only [List.length_cons] at hf; omega) (s.step (Nat.lt_trans hin hj0) hiA hrl (Below.refl _ _)) hB' hb hK
    | (1, i) :: σ, hf, hB, h =>
      simp only [schedFG, itemB, Bool.and_eq_true, decide_eq_true_eq, bne_iff_ne] at hB
      obtain ⟨⟨⟨hin, _⟩, hij, hr⟩, hB'⟩ := hB
      obtain ⟨hiA, hrl⟩ := s.ready_of ok hin (by rw [hr]; simp : i ∈ Region.ready md ops ls)
      refine ⟨fun h0 => (by rw [h0] at hrl; cases hrl), fun j hj => ?_⟩
      rcases s.ready hj with ⟨h1, h2⟩ | ⟨_, h2⟩
      · exact allocs j h1 h2
      · have hji : j = i := by rw [hr] at h2; simpa using h2
        subst hji
        obtain ⟨_, o, ho, _⟩ := mem_ready.1 hrl
        have hsj := Region.noSelect_spec hsel j o
        refine wpOp_mono (fun a' w' h' => ?_) (wpOp_at_puts ok β ho hin hiA (fun cs b => hsj cs b ho) hQ D s.da (h w hb))
        obtain ⟨a1, rfl, hb1, hK⟩ := h'
        have s' := s.step (Nat.lt_trans hin hj0) hiA hrl hb1
        exact ⟨.inl (up_iff.2 s'.cw), ih σ D β a1 w' w' _ _ (by simp only [List.length_cons] at hf; omega) s' hB' (Below.refl _ _) hK⟩
    | (k + 3, i) :: σ, hf, hB, h =>
      simp only [schedFG, Bool.and_eq_true] at hB
      obtain ⟨⟨⟨_, hk⟩, _⟩, _⟩ := hB
      simp at hk


theorem wpFG_mono {T T' : Act → World → Prop} (h : ∀ a w, T a w → T' a w) : ∀ (σ : List (Nat × Nat)) (a : Act) (w : World), wpFG P ops W Q T σ a w → wpFG P ops W Q T' σ a w
  | [], _, _, hh => h _ _ hh
  | (0, _) :: σ, _, _, ⟨o, v, h1, h2, h3⟩ => ⟨o, v, h1, h2, wpFG_mono h σ _ _ h3⟩
  | (2, _) :: σ, _, _, ⟨o, v, h1, h2, h3⟩ => ⟨o, v, h1, h2, wpFG_mono h σ _ _ h3⟩
  | (1, _) :: σ, _, _, hh => fun w1 hb => wpOp_mono (fun _ _ h' => ⟨h'.1, wpFG_mono h σ _ _ h'.2⟩) (hh w1 hb)
  | (_ + 3, _) :: σ, _, _, hh => fun w1 hb => wpOp_mono (fun _ _ h' => ⟨h'.1, wpFG_mono h σ _ _ h'.2⟩) (hh w1 hb)

/-- THE LAW: new variables A, and several stores. -/
theorem wp_region_FG {id : Nat} {a : Act} {w : World} {l : List Oper} (j0 : Nat) (A : List Nat) (z : Nat → Obj) (σ τ : List (Nat × Nat)) (hm : P.follows .mixedOrders = true)
    (hB : (Region.noSelect l.toArray && decide (σ.length + A.length + τ.length = l.length) && decide (j0 < l.length) && floatB l.toArray j0 A && (A.all fun i => Region.waitsFor .any l.toArray j0 i) &&
      schedFG .any l.toArray j0 τ σ ((List.range l.length).map (fun i => A.contains i)).toArray) = true)
    (hQ : ∀ c a d v w, Q (.panic c) (Act.put a d v) w ↔ Q (.panic c) a w)
    (hAl : ∀ i ∈ A, ∀ oi, l[i]? = some oi → ∀ ρ w, (execOp ρ oi).run P w = .ok (.value (ptrTo w.heap.size)) (w.alloc (z i)))
    (h : wpFG P l.toArray w Q (fun a w' => ∀ w1, Below w'.heap.size w' w1 → Below w.heap.size w w1 → ∀ β, Good w z β A w1 → wpG P l.toArray (fun w' => ∃ u : UpTo w.heap.size w, w' = u.w) Q τ (puts l.toArray β A a) w1) σ a w.drew) : (Code.region id l.toArray true).wp P Q a w := by
  simp only [Bool.and_eq_true, decide_eq_true_eq] at hB
  obtain ⟨⟨⟨⟨⟨hsel, hlen⟩, hj⟩, hfl⟩, hw⟩, hs⟩ := hB
  have ok := floatB_ok hfl
  have hls : ∀ j, ((List.range l.length).map (fun i => A.contains i)).toArray.getD j false = true ↔ j ∈ A ∧ j < l.length := by
    intro j
    by_cases hj : j < l.length
    · simp [hj]
    · simp [hj]
  have s0 : FlSt .any l.toArray l.toArray.size A w z ((List.range l.length).map (fun i => A.contains i)).toArray (Array.replicate l.toArray.size false) [] (fun _ => 0) w.drew := by
    refine ⟨by simp, by simp, fun j hj => (by rw [getD_replicate_false] at hj; cases hj), fun j hj hA => absurd ((hls j).1 hj).1 hA, fun j _ => ?_, fun i hi => ?_, HeadInv.none, List.nodup_nil, fun i hi => (by cases hi), (Below.refl _ _).drew, fun i hi => (by cases hi), fun i hi => (by cases hi)⟩
    · rw [getD_replicate_false]; simp
    · obtain ⟨_, oi, hoi, _⟩ := ok.at_ i hi
      have := (Array.getElem?_eq_some_iff.1 hoi).1
      exact (hls i).2 ⟨hi, by simpa using this⟩
  have H := floatG_main (τ := τ) hsel hQ (by simpa using hj) ok (fun i hi => List.all_eq_true.1 hw i hi) (fun i hi oi ho => hAl i hi oi (by simpa using ho)) _ σ [] (fun _ => 0) a w.drew w.drew _ _ rfl s0 hs (Below.refl _ _) h
  refine wp_region_any hm ?_
  have := wpAny_of_HS (g := 0) (fun listed a' w' hL => (⟨hL.1, hL.2⟩ : wpAny P .any l.toArray Q 0 listed a' w')) _ _ _ _ H
  have e : σ.length + (A.length - ([] : List Nat).length) + τ.length + 0 = l.toArray.size := by simp; omega
  rw [e] at this
  exact this

/-- one new variable, several stores -/
theorem wp_region_FG1 {id : Nat} {a : Act} {w : World} {l : List Oper} (j0 i : Nat) (σ τ : List (Nat × Nat)) {o : Oper} {d : Tmp} {t : TypeId} {c : Array Value} (hm : P.follows .mixedOrders = true)
    (hB : (Region.noSelect l.toArray && decide (σ.length + [i].length + τ.length = l.length) && decide (j0 < l.length) && floatB l.toArray j0 [i] && ([i].all fun i => Region.waitsFor .any l.toArray j0 i) &&
      schedFG .any l.toArray j0 τ σ ((List.range l.length).map (fun k => [i].contains k)).toArray) = true)
    (hQ : ∀ c a d v w, Q (.panic c) (Act.put a d v) w ↔ Q (.panic c) a w) (ho : l[i]? = some o) (hop : o.op = .alloc t) (hd : o.dst = some d) (hr : AllocRuns P t c)
    (h : wpFG P l.toArray w Q (fun a w' => ∀ w1, Below w'.heap.size w' w1 → Below w.heap.size w w1 → ∀ b, w.heap.size ≤ b → w1.heap[b]? = some (.cells c t) →
      wpG P l.toArray (fun w' => ∃ u : UpTo w.heap.size w, w' = u.w) Q τ (a.put (some d) (ptrTo b)) w1) σ a w.drew) :
    (Code.region id l.toArray true).wp P Q a w := by
  refine wp_region_FG j0 [i] (fun _ => .cells c t) σ τ hm hB hQ (fun k hk oi hoi ρ w => ?_) (wpFG_mono (fun a w' h' w1 hb1 hb2 β hg => ?_) _ _ _ h)
  · obtain rfl : k = i := by simpa using hk
    obtain rfl : o = oi := Option.some.inj (ho.symm.trans hoi)
    exact alloc_of hr o hop ρ w
  · have h1 := hg.1 i (List.mem_singleton.2 rfl)
    have e : puts l.toArray β [i] a = a.put (some d) (ptrTo (β i)) := by
      show a.put (dstOf l.toArray i) _ = _
      simp [dstOf, ho, hd]
    rw [e]
    exact h' w1 hb1 hb2 _ h1.1 h1.2

/-- two new variables, several stores -/
theorem wp_region_FG2 {id : Nat} {a : Act} {w : World} {l : List Oper} (j0 i j : Nat) (σ τ : List (Nat × Nat)) {o o' : Oper} {d d' : Tmp} {t t' : TypeId} {c c' : Array Value} (hm : P.follows .mixedOrders = true)
    (hB : (Region.noSelect l.toArray && decide (σ.length + [i, j].length + τ.length = l.length) && decide (j0 < l.length) && floatB l.toArray j0 [i, j] && ([i, j].all fun i => Region.waitsFor .any l.toArray j0 i) &&
      schedFG .any l.toArray j0 τ σ ((List.range l.length).map (fun k => [i, j].contains k)).toArray) = true)
    (hQ : ∀ c a d v w, Q (.panic c) (Act.put a d v) w ↔ Q (.panic c) a w) (ho : l[i]? = some o) (hop : o.op = .alloc t) (hd : o.dst = some d) (hr : AllocRuns P t c)
    (ho' : l[j]? = some o') (hop' : o'.op = .alloc t') (hd' : o'.dst = some d') (hr' : AllocRuns P t' c') (hij : (i == j) = false)
    (h : wpFG P l.toArray w Q (fun a w' => ∀ w1, Below w'.heap.size w' w1 → Below w.heap.size w w1 → ∀ b b', b ≠ b' → w.heap.size ≤ b → w1.heap[b]? = some (.cells c t) → w.heap.size ≤ b' → w1.heap[b']? = some (.cells c' t') →
      wpG P l.toArray (fun w' => ∃ u : UpTo w.heap.size w, w' = u.w) Q τ ((a.put (some d') (ptrTo b')).put (some d) (ptrTo b)) w1) σ a w.drew) :
    (Code.region id l.toArray true).wp P Q a w := by
  have hij : i ≠ j := by simpa using hij
  refine wp_region_FG j0 [i, j] (fun k => if k = i then .cells c t else .cells c' t') σ τ hm hB hQ (fun k hk oi hoi ρ w => ?_) (wpFG_mono (fun a w' h' w1 hb1 hb2 β hg => ?_) _ _ _ h)
  · rcases List.mem_cons.1 hk with rfl | hk
    · obtain rfl : o = oi := Option.some.inj (ho.symm.trans hoi)
      rw [if_pos rfl]; exact alloc_of hr o hop ρ w
    · obtain rfl : k = j := by simpa using hk
      obtain rfl : o' = oi := Option.some.inj (ho'.symm.trans hoi)
      rw [if_neg (Ne.symm hij)]; exact alloc_of hr' o' hop' ρ w
  · have h1 := hg.1 i (by simp)
    have h2 := hg.1 j (by simp)
    simp only [if_pos] at h1
    simp only [if_neg (Ne.symm hij)] at h2
    have e : puts l.toArray β [i, j] a = (a.put (some d') (ptrTo (β j))).put (some d) (ptrTo (β i)) := by
      show (a.put (dstOf l.toArray j) _).put (dstOf l.toArray i) _ = _
      simp [dstOf, ho, hd, ho', hd']
    rw [e]
    exact h' w1 hb1 hb2 _ _ (hg.2 i (by simp) j (by simp) hij) h1.1 h1.2 h2.1 h2.2

theorem quiet_item {C : World → Prop} {l : List Oper} {o : Oper} {a : Act} {K : Act → Prop} (hp : plainOp o.op = true) (h : wpQuiet P l.toArray C K [o] a) : ∃ v, YieldsIf P l.toArray C o v a ∧ K (a.put o.dst v) := by
  unfold wpQuiet at h
  by_cases hw : Region.wanted o (yielded l.toArray a.tmps) = true
  · rw [if_pos hw] at h
    obtain ⟨v, h1, h2⟩ := h
    exact ⟨v, .inl ⟨hw, yields_of_quiet hp h1⟩, h2⟩
  · rw [if_neg hw] at h
    exact ⟨undef, .inr ⟨by simpa using hw, rfl⟩, h⟩
theorem do_item {l : List Oper} {i : Nat} {o : Oper} {a : Act} {w : World} {R : Act → World → Prop} (ho : l[i]? = some o) (h : wpList P l.toArray (Exit.then R Q) [o] a w) : wpOp P l.toArray Q i R a w := by
  have ho' : l.toArray[i]? = some o := by simpa using ho
  unfold wpOp
  simp only [ho']
  unfold wpList at h
  by_cases hw : Region.wanted o (yielded l.toArray a.tmps) = true
  · rw [if_pos hw] at h ⊢
    rcases h with h | ⟨h1, h2⟩
    · exact .inl (upon_then h)
    · exact .inr ⟨h1, h2⟩
  · rw [if_neg hw] at h ⊢
    exact h

variable {C : World → Prop} {l : List Oper} {T : Act → World → Prop} {σ : List (Nat × Nat)} {i : Nat} {o : Oper} {a : Act} {w : World}
theorem wpG_take0 (ho : l[i]? = some o) (hp : plainOp o.op = true) (h : wpQuiet P l.toArray C (fun a' => wpG P l.toArray C Q σ a' w) [o] a) : wpG P l.toArray C Q ((0, i) :: σ) a w := by
  obtain ⟨v, h1, h2⟩ := quiet_item hp h
  exact ⟨o, v, by simpa using ho, h1, h2⟩
theorem wpG_take2 (ho : l[i]? = some o) (hp : plainOp o.op = true) (h : wpQuiet P l.toArray (fun _ => True) (fun a' => wpG P l.toArray C Q σ a' w) [o] a) : wpG P l.toArray C Q ((2, i) :: σ) a w := by
  obtain ⟨v, h1, h2⟩ := quiet_item hp h
  exact ⟨o, v, by simpa using ho, h1, h2⟩
theorem wpG_do1 (ho : l[i]? = some o) (h : ∀ K : Act → World → Prop, Hid (∀ a' w', C w' → wpG P l.toArray C Q σ a' w' → K a' w') → wpList P l.toArray (Exit.then K Q) [o] a w) : wpG P l.toArray C Q ((1, i) :: σ) a w :=
  do_item ho (h _ (fun _ _ h1 h2 => ⟨h1, h2⟩))
theorem wpG_do3 (ho : l[i]? = some o) (h : ∀ K : Act → World → Prop, Hid (∀ a' w', wpG P l.toArray C Q σ a' w' → K a' w') → wpList P l.toArray (Exit.then K Q) [o] a w) : wpG P l.toArray C Q ((3, i) :: σ) a w :=
  do_item ho (h _ (fun _ _ h1 => h1))
theorem wpG_nil (h : wpList P l.toArray Q [] a w) : wpG P l.toArray C Q [] a w := h
theorem wpFG_take0 (ho : l[i]? = some o) (hp : plainOp o.op = true) (h : wpQuiet P l.toArray (fun w' => ∃ u : UpTo W.heap.size W, w' = u.w) (fun a' => wpFG P l.toArray W Q T σ a' w) [o] a) : wpFG P l.toArray W Q T ((0, i) :: σ) a w := by
  obtain ⟨v, h1, h2⟩ := quiet_item hp h
  exact ⟨o, v, by simpa using ho, h1, h2⟩
theorem wpFG_take2 (ho : l[i]? = some o) (hp : plainOp o.op = true) (h : wpQuiet P l.toArray (fun _ => True) (fun a' => wpFG P l.toArray W Q T σ a' w) [o] a) : wpFG P l.toArray W Q T ((2, i) :: σ) a w := by
  obtain ⟨v, h1, h2⟩ := quiet_item hp h
  exact ⟨o, v, by simpa using ho, h1, h2⟩
theorem wpFG_do (ho : l[i]? = some o) (h : ∀ w1, Below w.heap.size w w1 → ∀ K : Act → World → Prop, Hid (∀ a' w', Below w1.heap.size w1 w' → wpFG P l.toArray W Q T σ a' w' → K a' w') → wpList P l.toArray (Exit.then K Q) [o] a w1) : wpFG P l.toArray W Q T ((1, i) :: σ) a w :=
  fun w1 hb => do_item ho (h w1 hb _ (fun _ _ h1 h2 => ⟨h1, h2⟩))
theorem wpFG_nil (h : T a w) : wpFG P l.toArray W Q T [] a w := h

end
end Go.Proofs.Ytlcbomjdbdgbmaa
/- The laws on regions with several stores once more, for calls that stand in a longer row; four new variables of one type. Conditions: closed checks on the region's edges. -/
namespace Go.Proofs.Ytlcbomjdbdgbmaa.Far
open Go Go.RowKit Go.Proofs.Ytlcbomjdbdgbmaa
section
variable {P : Program} {ops : Array Oper} {Q : Exit → Act → World → Prop} {md : Region.Mode} {W : World}

/-- does one item of the schedule fit the edges? -/
def itemB (md : Region.Mode) (ops : Array Oper) (j0 k i : Nat) (listed : Array Bool) : Bool :=
  match k with
  | 0 => i != j0 && (waitsN md ops 7 j0 i || decide (ops.size ≤ j0)) && (Region.ready md ops listed).contains i && Region.free md ops listed i
  | 2 => i != j0 && (Region.ready md ops listed).contains i && Region.free md ops listed i
  | 1 => i != j0 && decide (Region.ready md ops listed = [i])
  | _ => (i == j0 || listed.getD j0 false) && decide (Region.ready md ops listed = [i])

def schedG (md : Region.Mode) (ops : Array Oper) (j0 : Nat) : List (Nat × Nat) → Array Bool → Bool
  | [], listed => decide (Region.ready md ops listed = [])
  | (k, i) :: σ, listed => itemB md ops j0 k i listed && schedG md ops j0 σ (listed.setIfInBounds i true)

theorem cls_of {C : World → Prop} {j0 i : Nat} {listed : Array Bool} {w : World} (hw : (waitsN md ops 7 j0 i || decide (ops.size ≤ j0)) = true) (inv : HeadInv md ops ops.size listed) (hun : listed.getD i true = false)
    (h : ClsAt C j0 listed w) : C w := by
  rcases h with h | h
  · exact h
  · rw [Bool.or_eq_true, decide_eq_true_eq] at hw
    rcases hw with hw | hw
    · have h2 := waitsN_listed inv _ _ _ hw h
      rw [getD_both hun] at h2; cases h2
    · have : listed.getD j0 false = false := by
        have hs := inv.size
        simp [Array.getElem?_eq_none (by omega : listed.size ≤ j0)]
      rw [this] at h; cases h

theorem wpAnyHS_of_G {C : World → Prop} {j0 : Nat} (hsel : Region.noSelect ops = true) (hQ : ∀ c a d v w, Q (.panic c) (Act.put a d v) w → Q (.panic c) a w) :
    ∀ (σ : List (Nat × Nat)) (listed : Array Bool) (a : Act) (w : World), HeadInv md ops ops.size listed → schedG md ops j0 σ listed = true → ClsAt C j0 listed w → wpG P ops C Q σ a w →
    wpAnyHS P md ops Q C j0 (fun listed' a' w' => Region.ready md ops listed' = [] ∧ Q .normal a' w') σ.length listed a w
  | [], listed, a, w, _, hB, _, h => ⟨by simpa [schedG] using hB, h⟩
  | (0, i) :: σ, listed, a, w, inv, hB, hC, h => by
    simp only [schedG, itemB, Bool.and_eq_true, bne_iff_ne] at hB
    obtain ⟨⟨⟨⟨hij, hw⟩, hr⟩, hf⟩, hB'⟩ := hB
    obtain ⟨o, v, ho, hy, hK⟩ := h
    have hr' : i ∈ Region.ready md ops listed := by simpa using hr
    exact wpAnyHS_first ho (Region.noSelect_spec hsel) hQ hij (fun l w il hu hc => cls_of hw il hu hc) (fun l a w hL => hL.1) σ.length listed a w inv
      (Region.free_spec ho hf) hr' hy hC (wpAnyHS_of_G hsel hQ σ _ _ _ (HeadInv.all inv hr') hB' (hC.imp id getD_set_true) hK)
  | (2, i) :: σ, listed, a, w, inv, hB, hC, h => by
    simp only [schedG, itemB, Bool.and_eq_true, bne_iff_ne] at hB
    obtain ⟨⟨⟨hij, hr⟩, hf⟩, hB'⟩ := hB
    obtain ⟨o, v, ho, hy, hK⟩ := h
    have hr' : i ∈ Region.ready md ops listed := by simpa using hr
    exact wpAnyHS_first ho (Region.noSelect_spec hsel) hQ hij (fun _ _ _ _ _ => trivial) (fun l a w hL => hL.1) σ.length listed a w inv
      (Region.free_spec ho hf) hr' hy hC (wpAnyHS_of_G hsel hQ σ _ _ _ (HeadInv.all inv hr') hB' (hC.imp id getD_set_true) hK)
  | (1, i) :: σ, listed, a, w, inv, hB, hC, h => by
    simp only [schedG, itemB, Bool.and_eq_true, decide_eq_true_eq] at hB
    obtain ⟨⟨_, hr⟩, hB'⟩ := hB
    refine ⟨by rw [hr]; simp, fun j hj => ?_⟩
    have hji : j = i := by rw [hr] at hj; simpa using hj
    subst hji
    exact wpOp_mono (fun a' w' h' => ⟨.inl h'.1, wpAnyHS_of_G hsel hQ σ _ _ _ (HeadInv.all inv hj) hB' (.inl h'.1) h'.2⟩) h
  | (k + 3, i) :: σ, listed, a, w, inv, hB, hC, h => by
    simp only [schedG, itemB, Bool.and_eq_true, decide_eq_true_eq, Bool.or_eq_true, beq_iff_eq] at hB
    obtain ⟨⟨hj0, hr⟩, hB'⟩ := hB
    refine ⟨by rw [hr]; simp, fun j hj => ?_⟩
    have hji : j = i := by rw [hr] at hj; simpa using hj
    subst hji
    have hc : ∀ w', ClsAt C j0 (listed.setIfInBounds j true) w' := by
      intro w'
      refine .inr ?_
      rcases hj0 with h | h
      · subst h
        obtain ⟨_, o, ho, _⟩ := mem_ready.1 hj
        have := (Array.getElem?_eq_some_iff.1 ho).1
        rw [getD_set (by rw [inv.size]; exact this)]; simp
      · exact getD_set_true h
    exact wpOp_mono (fun a' w' h' => ⟨hc w', wpAnyHS_of_G hsel hQ σ _ _ _ (HeadInv.all inv hj) hB' (hc w') h'⟩) h

/-- the first part of a schedule: its items lie below j0, and none of them is number j0 or comes behind it -/
def schedFG (md : Region.Mode) (ops : Array Oper) (j0 : Nat) (τ : List (Nat × Nat)) : List (Nat × Nat) → Array Bool → Bool
  | [], listed => decide (Region.ready md ops listed = [j0]) && schedG md ops j0 τ listed
  | (k, i) :: σ, listed => decide (i < j0) && (k == 0 || k == 1 || k == 2) && itemB md ops j0 k i listed && schedFG md ops j0 τ σ (listed.setIfInBounds i true)

theorem floatG_main {j0 : Nat} {A : List Nat} {z : Nat → Obj} {τ : List (Nat × Nat)} (hsel : Region.noSelect ops = true) (hQ : ∀ c a d v w, Q (.panic c) (Act.put a d v) w ↔ Q (.panic c) a w) (hj0 : j0 < ops.size)
    (ok : FloatOk ops j0 A) (hAw : ∀ i ∈ A, Region.waitsFor md ops j0 i = true) (hAl : ∀ i ∈ A, ∀ oi, ops[i]? = some oi → ∀ ρ w, (execOp ρ oi).run P w = .ok (.value (ptrTo w.heap.size)) (w.alloc (z i))) :
    ∀ (f : Nat) (σ : List (Nat × Nat)) (D : List Nat) (β : Nat → Nat) (a0 : Act) (w0 w : World) (ls listed : Array Bool), σ.length + (A.length - D.length) = f → FlSt md ops ops.size A W z ls listed D β w →
      schedFG md ops j0 τ σ ls = true → Below w0.heap.size w0 w → wpFG P ops W Q (fun a w => ∀ w1, Below w.heap.size w w1 → Below W.heap.size W w1 → ∀ β, Good W z β A w1 → wpG P ops (fun w' => ∃ u : UpTo W.heap.size W, w' = u.w) Q τ (puts ops β A a) w1) σ a0 w0 →
      wpAnyHS P md ops Q (fun w' => ∃ u : UpTo W.heap.size W, w' = u.w) j0 (fun listed' a' w' => Region.ready md ops listed' = [] ∧ Q .normal a' w') (f + τ.length) listed (puts ops β D a0) w := by
  intro f
  have fin : ∀ (D : List Nat) (β : Nat → Nat) (a0 : Act) (w0 w : World) (ls listed : Array Bool), A.length ≤ D.length → FlSt md ops ops.size A W z ls listed D β w → schedG md ops j0 τ ls = true → Below w0.heap.size w0 w →
      (∀ w1, Below w0.heap.size w0 w1 → Below W.heap.size W w1 → ∀ β, Good W z β A w1 → wpG P ops (fun w' => ∃ u : UpTo W.heap.size W, w' = u.w) Q τ (puts ops β A a0) w1) →
      wpAnyHS P md ops Q (fun w' => ∃ u : UpTo W.heap.size W, w' = u.w) j0 (fun listed' a' w' => Region.ready md ops listed' = [] ∧ Q .normal a' w') τ.length listed (puts ops β D a0) w := by
    intro D β a0 w0 w ls listed hlen s hB hb h
    have hp : D.Perm A := nodup_perm s.dn s.da hlen
    have e : listed = ls := by
      refine Array.ext (s.size.trans s.lsz.symm) fun i h1 h2 => ?_
      have e1 : listed.getD i false = listed[i] := by simp [h1]
      have e2 : ls.getD i false = ls[i] := by simp [h2]
      rw [← e1, ← e2, Bool.eq_iff_iff]
      refine ⟨s.sub i, fun hi => ?_⟩
      by_cases hA : i ∈ A
      · exact (s.flo i hA).2 (hp.mem_iff.2 hA)
      · exact s.sup i hi hA
    rw [puts_perm ok β a0 s.da hp, e]
    exact wpAnyHS_of_G hsel (fun c a d v w => (hQ c a d v w).1) τ ls _ w (e ▸ s.inv) hB (.inl (up_iff.2 s.cw)) (h w hb s.cw β ⟨fun i hi => s.good.1 i (hp.mem_iff.2 hi), fun i hi j hj => s.good.2 i (hp.mem_iff.2 hi) j (hp.mem_iff.2 hj)⟩)
  induction f with
  | zero =>
    intro σ D β a0 w0 w ls listed hf s hB hb h
    have hσ : σ = [] := List.length_eq_zero_iff.1 (by omega)
    subst hσ
    simp only [schedFG, Bool.and_eq_true] at hB
    rw [Nat.zero_add]
    exact fin D β a0 w0 w ls listed (by simp only [List.length_nil] at hf; omega) s hB.2 hb h
  | succ f ih =>
    intro σ D β a0 w0 w ls listed hf s hB hb h
    rw [show f + 1 + τ.length = (f + τ.length) + 1 by omega]
    have allocs : ∀ i, i ∈ A → i ∉ D → wpOp P ops Q i (fun a' w' => ClsAt (fun w' => ∃ u : UpTo W.heap.size W, w' = u.w) j0 (listed.setIfInBounds i true) w' ∧ wpAnyHS P md ops Q (fun w' => ∃ u : UpTo W.heap.size W, w' = u.w) j0 (fun listed' a' w' => Region.ready md ops listed' = [] ∧ Q .normal a' w') (f + τ.length) (listed.setIfInBounds i true) a' w') (puts ops β D a0) w := by
      intro i hA hD
      refine made_step ok hAl hA hD ?_
      have s' := s.made ok (Nat.le_of_lt hj0) hA hD
      refine ⟨.inl (up_iff.2 s'.cw), ih σ (i :: D) _ a0 w0 (w.alloc (z i)) ls _ ?_ s' hB (hb.alloc hb.size _) h⟩
      have hle : (i :: D).length ≤ A.length := nodup_le (List.nodup_cons.2 ⟨hD, s.dn⟩) s'.da
      simp only [List.length_cons] at hle ⊢
      omega
    match σ, hf, hB, h with
    | [], hf, hB, h =>
      simp only [schedFG, Bool.and_eq_true, decide_eq_true_eq] at hB
      have hpend : ∃ i, i ∈ A ∧ i ∉ D := by
        refine Classical.byContradiction fun hno => ?_
        have hsub : ∀ i ∈ A, i ∈ D := fun i hi => Classical.byContradiction fun h' => hno ⟨i, hi, h'⟩
        have := nodup_le ok.nodup hsub
        simp only [List.length_nil] at hf; omega
      obtain ⟨i, hA, hD⟩ := hpend
      have hri := s.pending ok hA hD
      refine ⟨fun h0 => (by rw [h0] at hri; cases hri), fun j hj => ?_⟩
      rcases s.ready hj with ⟨h1, h2⟩ | ⟨_, h2⟩
      · exact allocs j h1 h2
      · rw [hB.1] at h2
        have hjj : j = j0 := by simpa using h2
        subst hjj
        obtain ⟨o, ho, e, he, hbd, hon⟩ := Region.waitsFor_spec (hAw i hA)
        obtain ⟨_, o', ho', hall⟩ := mem_ready.1 hj
        obtain rfl : o = o' := Option.some.inj (ho.symm.trans ho')
        have h3 := hall e he hbd
        rw [hon] at h3
        exact absurd ((s.flo i hA).1 h3) hD
    | (0, i) :: σ, hf, hB, h =>
      simp only [schedFG, itemB, Bool.and_eq_true, decide_eq_true_eq, bne_iff_ne] at hB
      obtain ⟨⟨⟨hin, _⟩, ⟨⟨hij, hw⟩, hr⟩, hfr⟩, hB'⟩ := hB
      obtain ⟨o, v, ho, hy, hK⟩ := h
      have hr' : i ∈ Region.ready md ops ls := by simpa using hr
      obtain ⟨hiA, hrl⟩ := s.ready_of ok hin hr'
      have hsj := Region.noSelect_spec hsel i o
      refine wpAnyHS_first ho (Region.noSelect_spec hsel) (fun c a d v w => (hQ c a d v w).1) hij (fun l w il hu hc => cls_of hw il hu hc) (fun l a w hL => hL.1) _ listed _ w s.inv
        (free_of s ok hin ho hfr) hrl (puts_yields ok β ho hin hiA (fun cs b => hsj cs b ho) a0 hy D s.da) (.inl (up_iff.2 s.cw)) ?_
      rw [puts_put ok β ho hin hiA v a0 D s.da]
      exact ih σ D β _ w0 w _ _ (by simp only [List.length_cons] at hf; omega) (s.step (Nat.lt_trans hin hj0) hiA hrl (Below.refl _ _)) hB' hb hK
    | (2, i) :: σ, hf, hB, h =>
      simp only [schedFG, itemB, Bool.and_eq_true, decide_eq_true_eq, bne_iff_ne] at hB
      obtain ⟨⟨⟨hin, _⟩, ⟨hij, hr⟩, hfr⟩, hB'⟩ := hB
      obtain ⟨o, v, ho, hy, hK⟩ := h
      have hr' : i ∈ Region.ready md ops ls := by simpa using hr
      obtain ⟨hiA, hrl⟩ := s.ready_of ok hin hr'
      have hsj := Region.noSelect_spec hsel i o
      refine wpAnyHS_first ho (Region.noSelect_spec hsel) (fun c a d v w => (hQ c a d v w).1) hij (fun _ _ _ _ _ => trivial) (fun l a w hL => hL.1) _ listed _ w s.inv
        (free_of s ok hin ho hfr) hrl (puts_yields ok β ho hin hiA (fun cs b => hsj cs b ho) a0 hy D s.da) (.inl (up_iff.2 s.cw)) ?_
      rw [puts_put ok β ho hin hiA v a0 D s.da]
      exact ih σ D β _ w0 w _ _ (by simp only [List.length_cons] at hf; omega) (s.step (Nat.lt_trans hin hj0) hiA hrl (Below.refl _ _)) hB' hb hK
    | (1, i) :: σ, hf, hB, h =>
      simp only [schedFG, itemB, Bool.and_eq_true, decide_eq_true_eq, bne_iff_ne] at hB
      obtain ⟨⟨⟨hin, _⟩, hij, hr⟩, hB'⟩ := hB
      obtain ⟨hiA, hrl⟩ := s.ready_of ok hin (by rw [hr]; simp : i ∈ Region.ready md ops ls)
      refine ⟨fun h0 => (by rw [h0] at hrl; cases hrl), fun j hj => ?_⟩
      rcases s.ready hj with ⟨h1, h2⟩ | ⟨_, h2⟩
      · exact allocs j h1 h2
      · have hji : j = i := by rw [hr] at h2; simpa using h2
        subst hji
        obtain ⟨_, o, ho, _⟩ := mem_ready.1 hrl
        have hsj := Region.noSelect_spec hsel j o
        refine wpOp_mono (fun a' w' h' => ?_) (wpOp_at_puts ok β ho hin hiA (fun cs b => hsj cs b ho) hQ D s.da (h w hb))
        obtain ⟨a1, rfl, hb1, hK⟩ := h'
        have s' := s.step (Nat.lt_trans hin hj0) hiA hrl hb1
        exact ⟨.inl (up_iff.2 s'.cw), ih σ D β a1 w' w' _ _ (by simp only [List.length_cons] at hf; omega) s' hB' (Below.refl _ _) hK⟩
    | (k + 3, i) :: σ, hf, hB, h =>
      simp only [schedFG, Bool.and_eq_true] at hB
      obtain ⟨⟨⟨_, hk⟩, _⟩, _⟩ := hB
      simp at hk


/-- THE LAW: new variables A, and several stores. -/
theorem wp_region_FG {id : Nat} {a : Act} {w : World} {l : List Oper} (j0 : Nat) (A : List Nat) (z : Nat → Obj) (σ τ : List (Nat × Nat)) (hm : P.follows .mixedOrders = true)
    (hB : (Region.noSelect l.toArray && decide (σ.length + A.length + τ.length = l.length) && decide (j0 < l.length) && floatB l.toArray j0 A && (A.all fun i => Region.waitsFor .any l.toArray j0 i) &&
      schedFG .any l.toArray j0 τ σ ((List.range l.length).map (fun i => A.contains i)).toArray) = true)
    (hQ : ∀ c a d v w, Q (.panic c) (Act.put a d v) w ↔ Q (.panic c) a w)
    (hAl : ∀ i ∈ A, ∀ oi, l[i]? = some oi → ∀ ρ w, (execOp ρ oi).run P w = .ok (.value (ptrTo w.heap.size)) (w.alloc (z i)))
    (h : wpFG P l.toArray w Q (fun a w' => ∀ w1, Below w'.heap.size w' w1 → Below w.heap.size w w1 → ∀ β, Good w z β A w1 → wpG P l.toArray (fun w' => ∃ u : UpTo w.heap.size w, w' = u.w) Q τ (puts l.toArray β A a) w1) σ a w.drew) : (Code.region id l.toArray true).wp P Q a w := by
  simp only [Bool.and_eq_true, decide_eq_true_eq] at hB
  obtain ⟨⟨⟨⟨⟨hsel, hlen⟩, hj⟩, hfl⟩, hw⟩, hs⟩ := hB
  have ok := floatB_ok hfl
  have hls : ∀ j, ((List.range l.length).map (fun i => A.contains i)).toArray.getD j false = true ↔ j ∈ A ∧ j < l.length := by
    intro j
    by_cases hj : j < l.length
    · simp [hj]
    · simp [hj]
  have s0 : FlSt .any l.toArray l.toArray.size A w z ((List.range l.length).map (fun i => A.contains i)).toArray (Array.replicate l.toArray.size false) [] (fun _ => 0) w.drew := by
    refine ⟨by simp, by simp, fun j hj => (by rw [getD_replicate_false] at hj; cases hj), fun j hj hA => absurd ((hls j).1 hj).1 hA, fun j _ => ?_, fun i hi => ?_, HeadInv.none, List.nodup_nil, fun i hi => (by cases hi), (Below.refl _ _).drew, fun i hi => (by cases hi), fun i hi => (by cases hi)⟩
    · rw [getD_replicate_false]; simp
    · obtain ⟨_, oi, hoi, _⟩ := ok.at_ i hi
      have := (Array.getElem?_eq_some_iff.1 hoi).1
      exact (hls i).2 ⟨hi, by simpa using this⟩
  have H := floatG_main (τ := τ) hsel hQ (by simpa using hj) ok (fun i hi => List.all_eq_true.1 hw i hi) (fun i hi oi ho => hAl i hi oi (by simpa using ho)) _ σ [] (fun _ => 0) a w.drew w.drew _ _ rfl s0 hs (Below.refl _ _) h
  refine wp_region_any hm ?_
  have := wpAny_of_HS (g := 0) (fun listed a' w' hL => (⟨hL.1, hL.2⟩ : wpAny P .any l.toArray Q 0 listed a' w')) _ _ _ _ H
  have e : σ.length + (A.length - ([] : List Nat).length) + τ.length + 0 = l.toArray.size := by simp; omega
  rw [e] at this
  exact this

/-- two new variables, several stores -/
theorem wp_region_FG2 {id : Nat} {a : Act} {w : World} {l : List Oper} (j0 i j : Nat) (σ τ : List (Nat × Nat)) {o o' : Oper} {d d' : Tmp} {t t' : TypeId} {c c' : Array Value} (hm : P.follows .mixedOrders = true)
    (hB : (Region.noSelect l.toArray && decide (σ.length + [i, j].length + τ.length = l.length) && decide (j0 < l.length) && floatB l.toArray j0 [i, j] && ([i, j].all fun i => Region.waitsFor .any l.toArray j0 i) &&
      schedFG .any l.toArray j0 τ σ ((List.range l.length).map (fun k => [i, j].contains k)).toArray) = true)
    (hQ : ∀ c a d v w, Q (.panic c) (Act.put a d v) w ↔ Q (.panic c) a w) (ho : l[i]? = some o) (hop : o.op = .alloc t) (hd : o.dst = some d) (hr : AllocRuns P t c)
    (ho' : l[j]? = some o') (hop' : o'.op = .alloc t') (hd' : o'.dst = some d') (hr' : AllocRuns P t' c') (hij : (i == j) = false)
    (h : wpFG P l.toArray w Q (fun a w' => ∀ w1, Below w'.heap.size w' w1 → Below w.heap.size w w1 → ∀ b b', b ≠ b' → w.heap.size ≤ b → w1.heap[b]? = some (.cells c t) → w.heap.size ≤ b' → w1.heap[b']? = some (.cells c' t') →
      wpG P l.toArray (fun w' => ∃ u : UpTo w.heap.size w, w' = u.w) Q τ ((a.put (some d') (ptrTo b')).put (some d) (ptrTo b)) w1) σ a w.drew) :
    (Code.region id l.toArray true).wp P Q a w := by
  have hij : i ≠ j := by simpa using hij
  refine wp_region_FG j0 [i, j] (fun k => if k = i then .cells c t else .cells c' t') σ τ hm hB hQ (fun k hk oi hoi ρ w => ?_) (wpFG_mono (fun a w' h' w1 hb1 hb2 β hg => ?_) _ _ _ h)
  · rcases List.mem_cons.1 hk with rfl | hk
    · obtain rfl : o = oi := Option.some.inj (ho.symm.trans hoi)
      rw [if_pos rfl]; exact alloc_of hr o hop ρ w
    · obtain rfl : k = j := by simpa using hk
      obtain rfl : o' = oi := Option.some.inj (ho'.symm.trans hoi)
      rw [if_neg (Ne.symm hij)]; exact alloc_of hr' o' hop' ρ w
  · have h1 := hg.1 i (by simp)
    have h2 := hg.1 j (by simp)
    simp only [if_pos] at h1
    simp only [if_neg (Ne.symm hij)] at h2
    have e : puts l.toArray β [i, j] a = (a.put (some d') (ptrTo (β j))).put (some d) (ptrTo (β i)) := by
      show (a.put (dstOf l.toArray j) _).put (dstOf l.toArray i) _ = _
      simp [dstOf, ho, hd, ho', hd']
    rw [e]
    exact h' w1 hb1 hb2 _ _ (hg.2 i (by simp) j (by simp) hij) h1.1 h1.2 h2.1 h2.2

theorem wp_region_FG4 {id : Nat} {a : Act} {w : World} {l : List Oper} (j0 i j k m : Nat) (σ τ : List (Nat × Nat)) {o1 o2 o3 o4 : Oper} {d1 d2 d3 d4 : Tmp} {t : TypeId} {c : Array Value} (hm : P.follows .mixedOrders = true)
    (hB : (Region.noSelect l.toArray && decide (σ.length + [i, j, k, m].length + τ.length = l.length) && decide (j0 < l.length) && floatB l.toArray j0 [i, j, k, m] && ([i, j, k, m].all fun i => Region.waitsFor .any l.toArray j0 i) &&
      schedFG .any l.toArray j0 τ σ ((List.range l.length).map (fun n => [i, j, k, m].contains n)).toArray) = true)
    (hQ : ∀ c a d v w, Q (.panic c) (Act.put a d v) w ↔ Q (.panic c) a w) (hr : AllocRuns P t c) (hdist : (i == j || i == k || i == m || j == k || j == m || k == m) = false)
    (h1 : l[i]? = some o1) (p1 : o1.op = .alloc t) (e1 : o1.dst = some d1) (h2 : l[j]? = some o2) (p2 : o2.op = .alloc t) (e2 : o2.dst = some d2)
    (h3 : l[k]? = some o3) (p3 : o3.op = .alloc t) (e3 : o3.dst = some d3) (h4 : l[m]? = some o4) (p4 : o4.op = .alloc t) (e4 : o4.dst = some d4)
    (h : wpFG P l.toArray w Q (fun a w' => ∀ w1, Below w'.heap.size w' w1 → Below w.heap.size w w1 → ∀ b1 b2 b3 b4, (b1 ≠ b2 ∧ b1 ≠ b3 ∧ b1 ≠ b4 ∧ b2 ≠ b3 ∧ b2 ≠ b4 ∧ b3 ≠ b4) →
      (w.heap.size ≤ b1 ∧ w1.heap[b1]? = some (.cells c t)) → (w.heap.size ≤ b2 ∧ w1.heap[b2]? = some (.cells c t)) → (w.heap.size ≤ b3 ∧ w1.heap[b3]? = some (.cells c t)) → (w.heap.size ≤ b4 ∧ w1.heap[b4]? = some (.cells c t)) →
      wpG P l.toArray (fun w' => ∃ u : UpTo w.heap.size w, w' = u.w) Q τ ((((a.put (some d4) (ptrTo b4)).put (some d3) (ptrTo b3)).put (some d2) (ptrTo b2)).put (some d1) (ptrTo b1)) w1) σ a w.drew) :
    (Code.region id l.toArray true).wp P Q a w := by
  simp only [Bool.or_eq_false_iff, beq_eq_false_iff_ne] at hdist
  obtain ⟨⟨⟨⟨⟨n12, n13⟩, n14⟩, n23⟩, n24⟩, n34⟩ := hdist
  refine wp_region_FG j0 [i, j, k, m] (fun _ => .cells c t) σ τ hm hB hQ (fun n hn oi hoi ρ w => ?_) (wpFG_mono (fun a w' h' w1 hb1 hb2 β hg => ?_) _ _ _ h)
  · rcases List.mem_cons.1 hn with rfl | hn
    · obtain rfl : o1 = oi := Option.some.inj (h1.symm.trans hoi)
      exact alloc_of hr o1 p1 ρ w
    · rcases List.mem_cons.1 hn with rfl | hn
      · obtain rfl : o2 = oi := Option.some.inj (h2.symm.trans hoi)
        exact alloc_of hr o2 p2 ρ w
      · rcases List.mem_cons.1 hn with rfl | hn
        · obtain rfl : o3 = oi := Option.some.inj (h3.symm.trans hoi)
          exact alloc_of hr o3 p3 ρ w
        · obtain rfl : n = m := by simpa using hn
          obtain rfl : o4 = oi := Option.some.inj (h4.symm.trans hoi)
          exact alloc_of hr o4 p4 ρ w
  · have g1 := hg.1 i (by simp)
    have g2 := hg.1 j (by simp)
    have g3 := hg.1 k (by simp)
    have g4 := hg.1 m (by simp)
    have e : puts l.toArray β [i, j, k, m] a = (((a.put (some d4) (ptrTo (β m))).put (some d3) (ptrTo (β k))).put (some d2) (ptrTo (β j))).put (some d1) (ptrTo (β i)) := by
      show (((a.put (dstOf l.toArray m) _).put (dstOf l.toArray k) _).put (dstOf l.toArray j) _).put (dstOf l.toArray i) _ = _
      simp [dstOf, h1, e1, h2, e2, h3, e3, h4, e4]
    rw [e]
    exact h' w1 hb1 hb2 _ _ _ _ ⟨hg.2 i (by simp) j (by simp) n12, hg.2 i (by simp) k (by simp) n13, hg.2 i (by simp) m (by simp) n14, hg.2 j (by simp) k (by simp) n23, hg.2 j (by simp) m (by simp) n24, hg.2 k (by simp) m (by simp) n34⟩ g1 g2 g3 g4
end
end Go.Proofs.Ytlcbomjdbdgbmaa.Far
/- Blocks of memory that are known whole; what keeps them. Conditions: none. -/
namespace Go.Proofs.Ytlcbomjdbdgbmaa
open Go.RowKit

/-- a block of cells that is known whole, and may be written -/
def Blk (w : World) (b : Nat) (c : Array Value) (t : TypeId) : Prop := w.heap[b]? = some (.cells c t (0, 0))

section
variable {w w' W : World} {b b' o : Nat} {c : Array Value} {t : TypeId} {B : Nat}

theorem Blk.lt (h : Blk w b c t) : b < w.heap.size := (Array.getElem?_eq_some_iff.1 h).1
theorem Blk.cell (h : Blk w b c t) (o : Nat) : w.cell? ⟨b, o, none⟩ = c[o]? := by
  unfold World.cell?; rw [show w.heap[b]? = _ from h]; rfl
theorem Blk.free (h : Blk w b c t) (o : Nat) : w.frozen? ⟨b, o, none⟩ = false := by
  unfold World.frozen?; rw [show w.heap[b]? = _ from h]; simp
theorem Blk.below (h : Blk W b c t) (hb : Below B W w') (hB : b < B) : Blk w' b c t := (hb.block b hB).trans h
theorem Blk.of (h : Blk W b c t) (hb : Below W.heap.size W w') : Blk w' b c t := h.below hb h.lt
theorem Blk.alloc (h : Blk w b c t) (o : Obj) : Blk (w.alloc o) b c t := h.of ((Below.refl _ _).alloc (Nat.le_refl _) o)
theorem Blk.drew (h : Blk w b c t) : Blk w.drew b c t := h
theorem Blk.new (w : World) (c : Array Value) (t : TypeId) : Blk (w.alloc (.cells c t)) w.heap.size c t := by
  show (w.heap.push _)[w.heap.size]? = _
  rw [Array.getElem?_push, if_pos rfl]
theorem Blk.set (h : Blk w b c t) (hne : b ≠ b') (o : Nat) (s : Option Nat) (v : Value) : Blk (w.setCell ⟨b', o, s⟩ v) b c t := by
  show (w.setCell ⟨b', o, s⟩ v).heap[b]? = _
  rw [Below.heap_setCell _ _ _ _ (by simpa using hne)]; exact h
theorem Blk.put (h : Blk w b c t) (o : Nat) (v : Value) : Blk (w.setCell ⟨b, o, none⟩ v) b (c.setIfInBounds o v) t := by
  show (w.heap.modify b _)[b]? = _
  rw [Array.getElem?_modify, if_pos rfl, show w.heap[b]? = _ from h]; rfl
theorem size_set (w : World) (a : Addr) (v : Value) : (w.setCell a v).heap.size = w.heap.size := by simp [World.setCell]

theorem Blk.newAt (w : World) (n : Nat) (hn : n = w.heap.size) (c : Array Value) (t : TypeId) : Blk (w.alloc (.cells c t)) n c t := hn ▸ Blk.new w c t
theorem Blk.new1 (w : World) (o1 : Obj) (c : Array Value) (t : TypeId) : Blk ((w.alloc o1).alloc (.cells c t)) (w.heap.size + 1) c t := Blk.newAt _ _ (by simp) c t
theorem Blk.new2 (w : World) (o1 o2 : Obj) (c : Array Value) (t : TypeId) : Blk (((w.alloc o1).alloc o2).alloc (.cells c t)) (w.heap.size + 1 + 1) c t := Blk.newAt _ _ (by simp) c t
theorem Blk.new3 (w : World) (o1 o2 o3 : Obj) (c : Array Value) (t : TypeId) : Blk ((((w.alloc o1).alloc o2).alloc o3).alloc (.cells c t)) (w.heap.size + 1 + 1 + 1) c t := Blk.newAt _ _ (by simp) c t
theorem below_set4 (h : Below B W w) (hB : B ≤ b) (x y z u : Value) : Below B W ((((w.setCell ⟨b, 0, none⟩ x).setCell ⟨b, 1, none⟩ y).setCell ⟨b, 2, none⟩ z).setCell ⟨b, 3, none⟩ u) :=
  (((h.setCell hB x).setCell hB y).setCell hB z).setCell hB u

/-- the walk goes on under a name of the world -/
theorem name_world {P : Program} {c : Code} {Q : Exit → Act → World → Prop} {a : Act} {w : World} (h : ∀ W, W = w → c.wp P Q a W) : c.wp P Q a w := h w rfl

theorem calls_w {P : Program} {f : FuncId} {args : Array Value} {w : World} {R : Ending → World → Prop} (h : ∀ W, W = w → Calls P f args W R) : Calls P f args w R := h w rfl

theorem post_world {P : Program} {fn : Func} {R : Ending → World → Prop} {e : Exit} {a : Act} {w : World} (h : ∀ W, W = w → bodyPost P fn R e a W) : bodyPost P fn R e a w := h w rfl

theorem list_world {P : Program} {ops : Array Oper} {l : List Oper} {Q : Exit → Act → World → Prop} {a : Act} {w : World} (h : ∀ W, W = w → wpList P ops Q l a W) : wpList P ops Q l a w := h w rfl
end

/-- the Go value of a number: its four words -/
abbrev wC (x : Int) : Array Value := #[.int .u64 (wd0 x), .int .u64 (wd1 x), .int .u64 (wd2 x), .int .u64 (wd3 x)]
abbrev wI (x : Int) : Value := .agg (wC x)
theorem wC_0 : wC 0 = #[.int .u64 0, .int .u64 0, .int .u64 0, .int .u64 0] := rfl

/-- a variable that holds a number -/
abbrev Var (w : World) (b : Nat) (x : Int) : Prop := Blk w b (wC x) 35
theorem Var.c {w : World} {b : Nat} {x : Int} (h : Var w b x) : w.cell? ⟨b, 0, none⟩ = some (.int .u64 (wd0 x)) ∧ w.cell? ⟨b, 1, none⟩ = some (.int .u64 (wd1 x)) ∧ w.cell? ⟨b, 2, none⟩ = some (.int .u64 (wd2 x)) ∧ w.cell? ⟨b, 3, none⟩ = some (.int .u64 (wd3 x)) :=
  ⟨h.cell 0, h.cell 1, h.cell 2, h.cell 3⟩
theorem Var.f {w : World} {b : Nat} {x : Int} (h : Var w b x) : w.frozen? ⟨b, 0, none⟩ = false ∧ w.frozen? ⟨b, 1, none⟩ = false ∧ w.frozen? ⟨b, 2, none⟩ = false ∧ w.frozen? ⟨b, 3, none⟩ = false :=
  ⟨h.free 0, h.free 1, h.free 2, h.free 3⟩
theorem Var.put4 {w : World} {b : Nat} {x : Int} (h : Var w b x) (y : Int) :
    Var ((((w.setCell ⟨b, 0, none⟩ (.int .u64 (wd0 y))).setCell ⟨b, 1, none⟩ (.int .u64 (wd1 y))).setCell ⟨b, 2, none⟩ (.int .u64 (wd2 y))).setCell ⟨b, 3, none⟩ (.int .u64 (wd3 y))) b y :=
  (((Blk.put h 0 _).put 1 _).put 2 _).put 3 _
theorem Blk.set4 {w : World} {b b' : Nat} {c : Array Value} {t : TypeId} (h : Blk w b c t) (hne : b ≠ b') (x y z u : Value) :
    Blk ((((w.setCell ⟨b', 0, none⟩ x).setCell ⟨b', 1, none⟩ y).setCell ⟨b', 2, none⟩ z).setCell ⟨b', 3, none⟩ u) b c t :=
  (((h.set hne 0 none x).set hne 1 none y).set hne 2 none z).set hne 3 none u
end Go.Proofs.Ytlcbomjdbdgbmaa
/- Plain arithmetic of digits of the base 2^15, the lowest first. Conditions: none. -/
namespace Go.Proofs.Ytlcbomjdbdgbmaa

/-- the number of a list of digits -/
def dval : List Int → Int
  | [] => 0
  | d :: t => d + 32768 * dval t
/-- digits -/
def DigOk (ds : List Int) : Prop := ∀ d ∈ ds, 0 ≤ d ∧ d < 32768
/-- no noughts at the end -/
def Norm (ds : List Int) : Prop := ds = [] ∨ ds.getD (ds.length - 1) 0 ≠ 0
/-- 32768^n -/
def P15 (n : Nat) : Int := 32768 ^ n
theorem P15_0 : P15 0 = 1 := rfl
theorem P15_succ (n : Nat) : P15 (n + 1) = 32768 * P15 n := by unfold P15; rw [Int.pow_succ, Int.mul_comm]
theorem P15_pos (n : Nat) : 0 < P15 n := Int.pow_pos (by decide)
theorem P15_add (m n : Nat) : P15 (m + n) = P15 m * P15 n := by unfold P15; rw [Int.pow_add]
theorem P15_le {m n : Nat} (h : m ≤ n) : P15 m ≤ P15 n := by
  obtain ⟨k, rfl⟩ : ∃ k, n = m + k := ⟨n - m, by omega⟩
  rw [P15_add]
  have h1 := P15_pos m; have h2 := P15_pos k
  have : P15 m * 1 ≤ P15 m * P15 k := Int.mul_le_mul_of_nonneg_left (by omega) (by omega)
  omega

theorem getD_in' {ds : List Int} {i : Nat} (h : i < ds.length) : ds.getD i 0 = ds[i] := by simp [h]
theorem getD_out {ds : List Int} {i : Nat} (h : ds.length ≤ i) : ds.getD i 0 = 0 := by simp [List.getElem?_eq_none h]

theorem DigOk.tail {d : Int} {t : List Int} (h : DigOk (d :: t)) : DigOk t := fun x hx => h x (List.mem_cons_of_mem _ hx)
theorem DigOk.take {ds : List Int} (h : DigOk ds) (n : Nat) : DigOk (ds.take n) := fun x hx => h x (List.mem_of_mem_take hx)
theorem DigOk.drop {ds : List Int} (h : DigOk ds) (n : Nat) : DigOk (ds.drop n) := fun x hx => h x (List.mem_of_mem_drop hx)
theorem DigOk.append {a b : List Int} (ha : DigOk a) (hb : DigOk b) : DigOk (a ++ b) := fun x hx => (List.mem_append.1 hx).elim (ha x) (hb x)
theorem DigOk.one {d : Int} (h : 0 ≤ d ∧ d < 32768) : DigOk [d] := fun x hx => by rw [List.mem_singleton.1 hx]; exact h
theorem DigOk.nil : DigOk [] := fun x hx => by cases hx
theorem DigOk.get {ds : List Int} (h : DigOk ds) (i : Nat) : 0 ≤ ds.getD i 0 ∧ ds.getD i 0 < 32768 := by
  by_cases hi : i < ds.length
  · rw [getD_in' hi]; exact h _ (List.getElem_mem hi)
  · rw [getD_out (by omega)]; omega

theorem dval_append (a b : List Int) : dval (a ++ b) = dval a + P15 a.length * dval b := by
  induction a with
  | nil => simp [dval, P15_0]
  | cons d t ih => rw [List.cons_append, dval, dval, ih, List.length_cons, P15_succ, Int.mul_add, Int.mul_assoc]; omega
theorem dval_bd {ds : List Int} (h : DigOk ds) : 0 ≤ dval ds ∧ dval ds < P15 ds.length := by
  induction ds with
  | nil => simp [dval, P15_0]
  | cons d t ih =>
    have h1 := ih h.tail
    have h2 := h d (List.mem_cons_self ..)
    rw [dval, List.length_cons, P15_succ]; omega
theorem dval_split (ds : List Int) {i : Nat} (h : i < ds.length) : dval ds = dval (ds.take i) + P15 i * (ds.getD i 0 + 32768 * dval (ds.drop (i + 1))) := by
  have e : ds = ds.take i ++ (ds.getD i 0 :: ds.drop (i + 1)) := by
    rw [getD_in' h, ← List.drop_eq_getElem_cons h, List.take_append_drop]
  conv => lhs; rw [e]
  rw [dval_append, List.length_take, Nat.min_eq_left (by omega)]; rfl
theorem dval_take_zero {ds : List Int} {n : Nat} (hn : n < ds.length) (h0 : ds.getD n 0 = 0) (h : dval (ds.take (n + 1)) = dval ds) : dval (ds.take n) = dval ds := by
  rw [← h, List.take_succ_eq_append_getElem hn, dval_append]
  rw [getD_in' hn] at h0
  rw [h0]; simp [dval]
theorem norm_lo {ds : List Int} (h : DigOk ds) (hn : Norm ds) (hne : ds ≠ []) : P15 (ds.length - 1) ≤ dval ds := by
  have hl : 0 < ds.length := List.length_pos_iff.2 hne
  rcases hn with hn | hn
  · exact absurd hn hne
  · have e := dval_split ds (i := ds.length - 1) (by omega)
    have h1 := h.get (ds.length - 1)
    have h2 := (dval_bd (h.take (ds.length - 1))).1
    have h3 : ds.drop (ds.length - 1 + 1) = [] := List.drop_eq_nil_of_le (by omega)
    rw [h3, dval, Int.mul_zero, Int.add_zero] at e
    have h4 := P15_pos (ds.length - 1)
    have h5 : P15 (ds.length - 1) * 1 ≤ P15 (ds.length - 1) * ds.getD (ds.length - 1) 0 := Int.mul_le_mul_of_nonneg_left (by omega) (by omega)
    omega
theorem norm_zero {ds : List Int} (h : DigOk ds) (hn : Norm ds) (hz : dval ds = 0) : ds = [] := by
  rcases Classical.em (ds = []) with h' | h'
  · exact h'
  · have h1 := norm_lo h hn h'
    have h2 := P15_pos (ds.length - 1)
    omega
/-- more digits, greater -/
theorem len_lt {a b : List Int} (ha : DigOk a) (hb : DigOk b) (nb : Norm b) (h : a.length < b.length) : dval a < dval b := by
  have h1 := (dval_bd ha).2
  have h2 := norm_lo hb nb (by intro e; rw [e] at h; cases h)
  have h3 := P15_le (show a.length ≤ b.length - 1 by omega)
  omega
/-- the first digit that differs decides -/
theorem dig_lt {a b : List Int} {i : Nat} (ha : DigOk a) (hb : DigOk b) (hi : i < a.length) (hl : a.length = b.length) (hd : a.drop (i + 1) = b.drop (i + 1)) (h : a.getD i 0 < b.getD i 0) : dval a < dval b := by
  rw [dval_split a hi, dval_split b (by omega : i < b.length), hd]
  have h1 := (dval_bd (ha.take i)).2
  rw [List.length_take, Nat.min_eq_left (by omega)] at h1
  have h2 := (dval_bd (hb.take i)).1
  have h3 := P15_pos i
  have h4 : P15 i * (a.getD i 0 + 32768 * dval (b.drop (i + 1)) + 1) ≤ P15 i * (b.getD i 0 + 32768 * dval (b.drop (i + 1))) := Int.mul_le_mul_of_nonneg_left (by omega) (by omega)
  rw [Int.mul_add _ _ 1, Int.mul_one] at h4
  omega
theorem drop_eq {a b : List Int} {i : Nat} (hi : i < a.length) (hl : a.length = b.length) (hd : a.drop (i + 1) = b.drop (i + 1)) (h : a.getD i 0 = b.getD i 0) : a.drop i = b.drop i := by
  rw [List.drop_eq_getElem_cons hi, List.drop_eq_getElem_cons (by omega : i < b.length), hd]
  rw [getD_in' hi, getD_in' (by omega : i < b.length)] at h
  rw [h]
/-- a number that is not too great has not too many digits -/
theorem norm_len {ds : List Int} (h : DigOk ds) (hn : Norm ds) {k : Nat} (hk : dval ds < P15 k) : ds.length ≤ k := by
  rcases Nat.lt_or_ge k ds.length with h' | h'
  · have h1 := norm_lo h hn (by intro e; rw [e] at h'; cases h')
    have h2 := P15_le (show k ≤ ds.length - 1 by omega)
    omega
  · exact h'
/-- what Cmp tells -/
def cmpI (x y : Int) : Int := if x < y then -1 else if x = y then 0 else 1
theorem cmpI_lt {x y : Int} (h : x < y) : cmpI x y = -1 := by unfold cmpI; rw [if_pos h]
theorem cmpI_eq (x : Int) : cmpI x x = 0 := by unfold cmpI; rw [if_neg (by omega), if_pos rfl]
theorem cmpI_gt {x y : Int} (h : y < x) : cmpI x y = 1 := by unfold cmpI; rw [if_neg (by omega), if_neg (by omega)]

end Go.Proofs.Ytlcbomjdbdgbmaa
/- The walks of package wide's small functions: each computes what its name says, on the four words. Conditions: words are words. -/
namespace Go.Proofs.Ytlcbomjdbdgbmaa
open Go.RowKit


theorem bcell {W w1 : World} (hb : Below W.heap.size W w1) : (∀ b o, b < W.heap.size → w1.cell? ⟨b, o, none⟩ = W.cell? ⟨b, o, none⟩) ∧ (∀ b o, b < W.heap.size → w1.frozen? ⟨b, o, none⟩ = W.frozen? ⟨b, o, none⟩) :=
  ⟨fun b o h => hb.cell (p := ⟨b, o, none⟩) h, fun b o h => hb.frozen (p := ⟨b, o, none⟩) h⟩

theorem add64 (x y c : Int) (hx : Wd x) (hy : Wd y) (hc0 : 0 ≤ c) (hc : c ≤ 1) (w : World) : (callFunc 146 #[.int .u64 x, .int .u64 y, .int .u64 c]).run Try.prog w =
    .ok (.value (.tuple #[.int .u64 ((x + y + c) % 18446744073709551616), .int .u64 ((x + y + c) / 18446744073709551616)])) w := by
  obtain ⟨hx, hx'⟩ := hx
  obtain ⟨hy, hy'⟩ := hy
  obtain ⟨x, rfl⟩ := Int.eq_ofNat_of_zero_le hx
  obtain ⟨y, rfl⟩ := Int.eq_ofNat_of_zero_le hy
  obtain ⟨c, rfl⟩ := Int.eq_ofNat_of_zero_le hc0
  rw [run_callFunc_extern Try.func146 (by kernel_rfl) (by kernel_rfl) (by kernel_rfl) (e := add64Entry) (by kernel_rfl), run_add64 x y c (by omega) (by omega) (by omega) (by omega)]
  simp only [Result.andThen]


set_option maxRecDepth 100000 in
set_option maxHeartbeats 1000000 in
theorem plus_raw (a0 a1 a2 a3 b0 b1 b2 b3 c : Int) (w : World) (ha0 : Wd a0) (ha1 : Wd a1) (ha2 : Wd a2) (ha3 : Wd a3) (hb0 : Wd b0) (hb1 : Wd b1) (hb2 : Wd b2) (hb3 : Wd b3) (hc0 : 0 ≤ c) (hc1 : c ≤ 1) :
    Calls Try.prog 137 #[.agg #[.int .u64 a0, .int .u64 a1, .int .u64 a2, .int .u64 a3], .agg #[.int .u64 b0, .int .u64 b1, .int .u64 b2, .int .u64 b3], .int .u64 c] w fun e w' =>
      e = .returned (.agg #[.int .u64 ((a0 + b0 + c) % 18446744073709551616), .int .u64 ((a1 + b1 + (a0 + b0 + c) / 18446744073709551616) % 18446744073709551616),
        .int .u64 ((a2 + b2 + (a1 + b1 + (a0 + b0 + c) / 18446744073709551616) / 18446744073709551616) % 18446744073709551616),
        .int .u64 ((a3 + b3 + (a2 + b2 + (a1 + b1 + (a0 + b0 + c) / 18446744073709551616) / 18446744073709551616) / 18446744073709551616) % 18446744073709551616)]) ∧ Below w.heap.size w w' := by
  obtain ⟨g0, g0'⟩ := ha0
  obtain ⟨g1, g1'⟩ := ha1
  obtain ⟨g2, g2'⟩ := ha2
  obtain ⟨g3, g3'⟩ := ha3
  obtain ⟨h0, h0'⟩ := hb0
  obtain ⟨h1, h1'⟩ := hb1
  obtain ⟨h2, h2'⟩ := hb2
  obtain ⟨h3, h3'⟩ := hb3
  have k0 := fun w => add64 a0 b0 c ⟨g0, g0'⟩ ⟨h0, h0'⟩ hc0 hc1 w
  have k1 := fun w => add64 a1 b1 ((a0 + b0 + c) / 18446744073709551616) ⟨g1, g1'⟩ ⟨h1, h1'⟩ (by omega) (by omega) w
  have k2 := fun w => add64 a2 b2 ((a1 + b1 + (a0 + b0 + c) / 18446744073709551616) / 18446744073709551616) ⟨g2, g2'⟩ ⟨h2, h2'⟩ (by omega) (by omega) w
  have k3 := fun w => add64 a3 b3 ((a2 + b2 + (a1 + b1 + (a0 + b0 + c) / 18446744073709551616) / 18446744073709551616) / 18446744073709551616) ⟨g3, g3'⟩ ⟨h3, h3'⟩ (by omega) (by omega) w
  clear g0 g0' g1 g1' g2 g2' g3 g3' h0 h0' h1 h1' h2 h2' h3 h3' hc0 hc1
  go_enter Try.func137, Try.ntmps137
  go_wp2
  refine wp_loop_rounds 5 ?_
  rw [rounds_succ]
  go_wp2
  go_region
  go_wp2
  rw [rounds_succ]
  go_wp2
  go_region
  go_wp2
  rw [rounds_succ]
  go_wp2
  go_region
  go_wp2
  rw [rounds_succ]
  go_wp2
  go_region
  go_wp2
  rw [rounds_succ]
  go_wp2
  simp [bodyPost, results, Try.results137, go_sem]
  exact ((((((((Below.refl _ _).alloc (Nat.le_refl _) _).alloc (by simp) _).alloc (by simp; omega) _).alloc (by simp; omega) _).drew).drew).drew).drew

/-- plus: the sum of the bits of two, with one more, or not -/
theorem plus_any (x y c : Int) (w : World) (hc0 : 0 ≤ c) (hc1 : c ≤ 1) :
    Calls Try.prog 137 #[wI x, wI y, .int .u64 c] w fun e w' => e = .returned (wI (x + y + c)) ∧ Below w.heap.size w w' := by
  refine (plus_raw _ _ _ _ _ _ _ _ c w (wd0_Wd x) (wd1_Wd x) (wd2_Wd x) (wd3_Wd x) (wd0_Wd y) (wd1_Wd y) (wd2_Wd y) (wd3_Wd y) hc0 hc1).mono fun e w' ⟨he, hw⟩ => ⟨?_, hw⟩
  rw [he, ← plus_wd0, ← plus_wd1, ← plus_wd2, ← plus_wd3]

theorem negative_raw (a b c d : Int) (w : World) (hd : Wd d) :
    Calls Try.prog 88 #[.agg #[.int .u64 a, .int .u64 b, .int .u64 c, .int .u64 d]] w fun e w' =>
      e = .returned (.bool (d / 9223372036854775808 != 0)) ∧ Below w.heap.size w w' := by
  obtain ⟨h1, h2⟩ := hd
  go_enter Try.func88, Try.ntmps88
  go_wp2
  go_ret
  exact ⟨rfl, (Below.refl _ _).alloc (Nat.le_refl _) _⟩
end Go.Proofs.Ytlcbomjdbdgbmaa
