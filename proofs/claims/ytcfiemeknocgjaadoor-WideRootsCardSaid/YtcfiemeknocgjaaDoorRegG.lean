/- The laws on regions once more, for a region that ends in several stores: what merely takes a call's results apart may come between the stores. Conditions: closed checks on the region's edges. -/
import Derived.Test.YtcfiemeknocgjaaDoorRegF
namespace Go.Proofs.YtcfiemeknocgjaaDoor
open Go Go.RowKit

section
variable {P : Program} {ops : Array Oper} {Q : Exit → Act → World → Prop} {md : Region.Mode} {W : World}

/-- the class of worlds, until number j0 has come up -/
def ClsAt (C : World → Prop) (j0 : Nat) (listed : Array Bool) (w : World) : Prop := C w ∨ listed.getD j0 false = true

def wpAnyHS (P : Program) (md : Region.Mode) (ops : Array Oper) (Q : Exit → Act → World → Prop) (C : World → Prop) (j0 : Nat) (L : Array Bool → Act → World → Prop) : Nat → Array Bool → Act → World → Prop
  | 0, listed, a, w => L listed a w
  | f + 1, listed, a, w => Region.ready md ops listed ≠ [] ∧ ∀ i ∈ Region.ready md ops listed, wpOp P ops Q i (fun a' w' => ClsAt C j0 (listed.setIfInBounds i true) w' ∧ wpAnyHS P md ops Q C j0 L f (listed.setIfInBounds i true) a' w') a w

theorem wpAny_of_HS {C : World → Prop} {j0 g : Nat} {L : Array Bool → Act → World → Prop} (hL : ∀ listed a w, L listed a w → wpAny P md ops Q g listed a w) :
    ∀ (f : Nat) (listed : Array Bool) (a : Act) (w : World), wpAnyHS P md ops Q C j0 L f listed a w → wpAny P md ops Q (f + g) listed a w
  | 0, listed, a, w, h => by rw [Nat.zero_add]; exact hL _ _ _ h
  | f + 1, listed, a, w, h => by
    rw [show f + 1 + g = (f + g) + 1 by omega]
    exact ⟨fun h0 => absurd h0 h.1, fun i hi => wpOp_mono (fun a' w' h' => wpAny_of_HS hL f _ a' w' h'.2) (h.2 i hi)⟩

theorem HeadInv.all {listed : Array Bool} (h : HeadInv md ops ops.size listed) {i : Nat} (hi : i ∈ Region.ready md ops listed) : HeadInv md ops ops.size (listed.setIfInBounds i true) := by
  obtain ⟨_, o, ho, _⟩ := mem_ready.1 hi
  exact h.set hi (Array.getElem?_eq_some_iff.1 ho).1

theorem wpAnyHS_first {C D : World → Prop} {j0 i : Nat} {oi : Oper} {v : Value} {L : Array Bool → Act → World → Prop} (hi : ops[i]? = some oi) (hsel : ∀ (j : Nat) (o : Oper) cs b, ops[j]? = some o → o.op ≠ .select cs b)
    (hQ : ∀ c a d v w, Q (.panic c) (Act.put a d v) w → Q (.panic c) a w)
    (hij : i ≠ j0) (hD : ∀ listed w, HeadInv md ops ops.size listed → listed.getD i true = false → ClsAt C j0 listed w → D w)
    (hdone : ∀ listed a w, L listed a w → Region.ready md ops listed = []) :
    ∀ (f : Nat) (listed : Array Bool) (a : Act) (w : World), HeadInv md ops ops.size listed →
      (∀ j oj, ops[j]? = some oj → j ≠ i → listed.getD j true = false → (∀ e ∈ oj.after, Region.binds md e = true → e.on ≠ i) → oi.apart ops oj = true) →
      i ∈ Region.ready md ops listed → YieldsIf P ops D oi v a → ClsAt C j0 listed w →
      wpAnyHS P md ops Q C j0 L f (listed.setIfInBounds i true) (a.put oi.dst v) w → wpAnyHS P md ops Q C j0 L (f + 1) listed a w := by
  intro f
  have cls : ∀ (listed : Array Bool) (w : World), ClsAt C j0 listed w → ClsAt C j0 (listed.setIfInBounds i true) w := fun listed w h => h.imp id getD_set_true
  induction f with
  | zero =>
    intro listed a w inv _ hr hy hC H
    have hun := (mem_ready.1 hr).1
    refine ⟨fun h => (by rw [h] at hr; cases hr), fun j hj => ?_⟩
    by_cases hji : j = i
    · subst hji; exact hy.wpOp hi (hD _ _ inv hun hC) ⟨cls _ _ hC, H⟩
    · have h1 := hdone _ _ _ H
      have h2 := ready_mono hj hji
      rw [h1] at h2
      cases h2
  | succ f ih =>
    intro listed a w inv hfree hr hy hC H
    have hun := (mem_ready.1 hr).1
    refine ⟨fun h => (by rw [h] at hr; cases hr), fun j hj => ?_⟩
    by_cases hji : j = i
    · subst hji; exact hy.wpOp hi (hD _ _ inv hun hC) ⟨cls _ _ hC, H⟩
    · have h1 := H.2 j (ready_mono hj hji)
      obtain ⟨hjun, oj, hoj, hall⟩ := mem_ready.1 hj
      have hnot : ∀ e ∈ oj.after, Region.binds md e = true → e.on ≠ i := fun e he hb heq => by
        have h1 := hall e he hb
        rw [heq, getD_both hun] at h1
        cases h1
      have h2 := wpOp_putIf hoj (hfree j oj hoj hji hjun hnot) (fun cs b => hsel i oi cs b hi) (fun cs b => hsel j oj cs b hoj) (fun c a w => hQ c _ _ _ w) hy h1
      have hfree' : ∀ k ok, ops[k]? = some ok → k ≠ i → (listed.setIfInBounds j true).getD k true = false →
          (∀ e ∈ ok.after, Region.binds md e = true → e.on ≠ i) → oi.apart ops ok = true := fun k ok hk hki hun hno => by
        refine hfree k ok hk hki ?_ hno
        by_cases hjk : j = k
        · subst hjk; exact hjun
        · rw [getD_set_ne true hjk] at hun; exact hun
      refine wpOp_mono (fun a' w' h3 => ?_) h2
      have hc : ClsAt C j0 (listed.setIfInBounds j true) w' := by
        rcases h3.2.1 with h | h
        · exact .inl h
        · rw [Array.setIfInBounds_comm _ _ (Ne.symm hji)] at h
          rw [getD_set_ne false hij] at h; exact .inr h
      refine ⟨hc, ih (listed.setIfInBounds j true) a' w' (HeadInv.all inv hj) hfree' (ready_mono hr (Ne.symm hji)) h3.1 hc ?_⟩
      rw [Array.setIfInBounds_comm _ _ hji]
      exact h3.2.2

/-- the walk by a schedule: (0, i): it only reads or computes, in any world of the class; (2, i): it only computes; (1, i): it comes up alone, the class holds behind it; (3, i): it comes up alone -/
def wpG (P : Program) (ops : Array Oper) (C : World → Prop) (Q : Exit → Act → World → Prop) : List (Nat × Nat) → Act → World → Prop
  | [], a, w => Q .normal a w
  | (0, i) :: σ, a, w => ∃ o v, ops[i]? = some o ∧ YieldsIf P ops C o v a ∧ wpG P ops C Q σ (a.put o.dst v) w
  | (2, i) :: σ, a, w => ∃ o v, ops[i]? = some o ∧ YieldsIf P ops (fun _ => True) o v a ∧ wpG P ops C Q σ (a.put o.dst v) w
  | (1, i) :: σ, a, w => wpOp P ops Q i (fun a' w' => C w' ∧ wpG P ops C Q σ a' w') a w
  | (_, i) :: σ, a, w => wpOp P ops Q i (fun a' w' => wpG P ops C Q σ a' w') a w

/-- does number j wait for number i, by way of some others? -/
def waitsN (md : Region.Mode) (ops : Array Oper) : Nat → Nat → Nat → Bool
  | 0, j, i => Region.waitsFor md ops j i
  | n + 1, j, i => Region.waitsFor md ops j i || (List.range ops.size).any fun m => Region.waitsFor md ops j m && waitsN md ops n m i

theorem waits_listed {listed : Array Bool} {j i : Nat} (inv : HeadInv md ops ops.size listed) (hw : Region.waitsFor md ops j i = true) (h : listed.getD j false = true) : listed.getD i false = true := by
  obtain ⟨o, ho, e, he, hb, hon⟩ := Region.waitsFor_spec hw
  have h2 := inv.closed j o ho h e he hb
  rw [hon] at h2
  exact h2
theorem waitsN_listed {listed : Array Bool} (inv : HeadInv md ops ops.size listed) : ∀ (n j i : Nat), waitsN md ops n j i = true → listed.getD j false = true → listed.getD i false = true
  | 0, j, i, hw, h => waits_listed inv hw h
  | n + 1, j, i, hw, h => by
    unfold waitsN at hw
    rw [Bool.or_eq_true] at hw
    rcases hw with hw | hw
    · exact waits_listed inv hw h
    · obtain ⟨m, _, hm⟩ := List.any_eq_true.1 hw
      rw [Bool.and_eq_true] at hm
      exact waitsN_listed inv n m i hm.2 (waits_listed inv hm.1 h)

/-- does one item of the schedule fit the edges? -/
def itemB (md : Region.Mode) (ops : Array Oper) (j0 k i : Nat) (listed : Array Bool) : Bool :=
  match k with
  | 0 => i != j0 && (waitsN md ops 2 j0 i || decide (ops.size ≤ j0)) && (Region.ready md ops listed).contains i && Region.free md ops listed i
  | 2 => i != j0 && (Region.ready md ops listed).contains i && Region.free md ops listed i
  | 1 => i != j0 && decide (Region.ready md ops listed = [i])
  | _ => (i == j0 || listed.getD j0 false) && decide (Region.ready md ops listed = [i])

def schedG (md : Region.Mode) (ops : Array Oper) (j0 : Nat) : List (Nat × Nat) → Array Bool → Bool
  | [], listed => decide (Region.ready md ops listed = [])
  | (k, i) :: σ, listed => itemB md ops j0 k i listed && schedG md ops j0 σ (listed.setIfInBounds i true)

theorem cls_of {C : World → Prop} {j0 i : Nat} {listed : Array Bool} {w : World} (hw : (waitsN md ops 2 j0 i || decide (ops.size ≤ j0)) = true) (inv : HeadInv md ops ops.size listed) (hun : listed.getD i true = false)
    (h : ClsAt C j0 listed w) : C w := by
  rcases h with h | h
  · exact h
  · rw [Bool.or_eq_true, decide_eq_true_eq] at hw
    rcases hw with hw | hw
    · have h2 := waitsN_listed inv _ _ _ hw h
      rw [getD_both hun] at h2; cases h2
    · have : listed.getD j0 false = false := by
        have hs := inv.size
        simp [Array.getElem?_eq_none (by omega : listed.size ≤ j0)]
      rw [this] at h; cases h

theorem wpAnyHS_of_G {C : World → Prop} {j0 : Nat} (hsel : Region.noSelect ops = true) (hQ : ∀ c a d v w, Q (.panic c) (Act.put a d v) w → Q (.panic c) a w) :
    ∀ (σ : List (Nat × Nat)) (listed : Array Bool) (a : Act) (w : World), HeadInv md ops ops.size listed → schedG md ops j0 σ listed = true → ClsAt C j0 listed w → wpG P ops C Q σ a w →
    wpAnyHS P md ops Q C j0 (fun listed' a' w' => Region.ready md ops listed' = [] ∧ Q .normal a' w') σ.length listed a w
  | [], listed, a, w, _, hB, _, h => ⟨by simpa [schedG] using hB, h⟩
  | (0, i) :: σ, listed, a, w, inv, hB, hC, h => by
    simp only [schedG, itemB, Bool.and_eq_true, bne_iff_ne] at hB
    obtain ⟨⟨⟨⟨hij, hw⟩, hr⟩, hf⟩, hB'⟩ := hB
    obtain ⟨o, v, ho, hy, hK⟩ := h
    have hr' : i ∈ Region.ready md ops listed := by simpa using hr
    exact wpAnyHS_first ho (Region.noSelect_spec hsel) hQ hij (fun l w il hu hc => cls_of hw il hu hc) (fun l a w hL => hL.1) σ.length listed a w inv
      (Region.free_spec ho hf) hr' hy hC (wpAnyHS_of_G hsel hQ σ _ _ _ (HeadInv.all inv hr') hB' (hC.imp id getD_set_true) hK)
  | (2, i) :: σ, listed, a, w, inv, hB, hC, h => by
    simp only [schedG, itemB, Bool.and_eq_true, bne_iff_ne] at hB
    obtain ⟨⟨⟨hij, hr⟩, hf⟩, hB'⟩ := hB
    obtain ⟨o, v, ho, hy, hK⟩ := h
    have hr' : i ∈ Region.ready md ops listed := by simpa using hr
    exact wpAnyHS_first ho (Region.noSelect_spec hsel) hQ hij (fun _ _ _ _ _ => trivial) (fun l a w hL => hL.1) σ.length listed a w inv
      (Region.free_spec ho hf) hr' hy hC (wpAnyHS_of_G hsel hQ σ _ _ _ (HeadInv.all inv hr') hB' (hC.imp id getD_set_true) hK)
  | (1, i) :: σ, listed, a, w, inv, hB, hC, h => by
    simp only [schedG, itemB, Bool.and_eq_true, decide_eq_true_eq] at hB
    obtain ⟨⟨_, hr⟩, hB'⟩ := hB
    refine ⟨by rw [hr]; simp, fun j hj => ?_⟩
    have hji : j = i := by rw [hr] at hj; simpa using hj
    subst hji
    exact wpOp_mono (fun a' w' h' => ⟨.inl h'.1, wpAnyHS_of_G hsel hQ σ _ _ _ (HeadInv.all inv hj) hB' (.inl h'.1) h'.2⟩) h
  | (k + 3, i) :: σ, listed, a, w, inv, hB, hC, h => by
    simp only [schedG, itemB, Bool.and_eq_true, decide_eq_true_eq, Bool.or_eq_true, beq_iff_eq] at hB
    obtain ⟨⟨hj0, hr⟩, hB'⟩ := hB
    refine ⟨by rw [hr]; simp, fun j hj => ?_⟩
    have hji : j = i := by rw [hr] at hj; simpa using hj
    subst hji
    have hc : ∀ w', ClsAt C j0 (listed.setIfInBounds j true) w' := by
      intro w'
      refine .inr ?_
      rcases hj0 with h | h
      · subst h
        obtain ⟨_, o, ho, _⟩ := mem_ready.1 hj
        have := (Array.getElem?_eq_some_iff.1 ho).1
        rw [getD_set (by rw [inv.size]; exact this)]; simp
      · exact getD_set_true h
    exact wpOp_mono (fun a' w' h' => ⟨hc w', wpAnyHS_of_G hsel hQ σ _ _ _ (HeadInv.all inv hj) hB' (hc w') h'⟩) h

theorem HeadInv.none : HeadInv md ops ops.size (Array.replicate ops.size false) :=
  ⟨by simp, fun j oj _ hl => (by rw [getD_replicate_false] at hl; cases hl), fun t h1 h2 => by omega⟩

/-- THE LAW: a region that draws its order, walked by a schedule of all its operations; j0: the first that may leave the class. -/
theorem wp_region_G {id : Nat} {a : Act} {w : World} {l : List Oper} (j0 : Nat) (σ : List (Nat × Nat)) (hm : P.follows .mixedOrders = true)
    (hB : (Region.noSelect l.toArray && decide (σ.length = l.length) && schedG .any l.toArray j0 σ (Array.replicate l.length false)) = true)
    (hQ : ∀ c a d v w, Q (.panic c) (Act.put a d v) w ↔ Q (.panic c) a w)
    (h : wpG P l.toArray (fun w' => ∃ u : UpTo w.heap.size w, w' = u.w) Q σ a w.drew) : (Code.region id l.toArray true).wp P Q a w := by
  simp only [Bool.and_eq_true, decide_eq_true_eq] at hB
  obtain ⟨⟨hsel, hlen⟩, hs⟩ := hB
  have hrep : (Array.replicate l.length false) = Array.replicate l.toArray.size false := by simp
  rw [hrep] at hs
  have H := wpAnyHS_of_G (P := P) hsel (fun c a d v w => (hQ c a d v w).1) σ _ a w.drew HeadInv.none hs (.inl (up_iff.2 (Below.refl _ _).drew)) h
  refine wp_region_any hm ?_
  have := wpAny_of_HS (g := 0) (fun listed a' w' hL => (⟨hL.1, hL.2⟩ : wpAny P .any l.toArray Q 0 listed a' w')) _ _ _ _ H
  have e : σ.length + 0 = l.toArray.size := by simp [hlen]
  rw [e] at this
  exact this


theorem free_of {n n1 : Nat} {A : List Nat} {z : Nat → Obj} {ls listed : Array Bool} {D : List Nat} {β : Nat → Nat} {w : World} (s : FlSt md ops n A W z ls listed D β w) (ok : FloatOk ops n1 A) {i : Nat} {o : Oper} (hin : i < n1) (ho : ops[i]? = some o)
    (hfr : Region.free md ops ls i = true) : ∀ j oj, ops[j]? = some oj → j ≠ i → listed.getD j true = false → (∀ e ∈ oj.after, Region.binds md e = true → e.on ≠ i) → o.apart ops oj = true := by
  intro j oj hj hji hun hno
  by_cases hjA : j ∈ A
  · obtain ⟨_, oj', hoj', _, _, _, hall⟩ := ok.at_ j hjA
    obtain ⟨oi', hoi', _, _, hap⟩ := hall i hin (Ne.symm hji)
    obtain rfl : o = oi' := Option.some.inj (ho.symm.trans hoi')
    obtain rfl : oj = oj' := Option.some.inj (hj.symm.trans hoj')
    exact hap
  · have hjs : j < ops.size := (Array.getElem?_eq_some_iff.1 hj).1
    refine Region.free_spec ho hfr j oj hj hji ?_ hno
    rw [getD_tf (by rw [s.lsz]; exact hjs)]
    rw [getD_tf (by rw [s.size]; exact hjs)] at hun
    cases hl : ls.getD j false with
    | false => rfl
    | true => rw [s.sup j hl hjA] at hun; cases hun

/-- the walk by a schedule of what comes ahead of the first store, the world growing between its steps -/
def wpFG (P : Program) (ops : Array Oper) (W : World) (Q : Exit → Act → World → Prop) (T : Act → World → Prop) : List (Nat × Nat) → Act → World → Prop
  | [], a, w => T a w
  | (0, i) :: σ, a, w => ∃ o v, ops[i]? = some o ∧ YieldsIf P ops (fun w' => ∃ u : UpTo W.heap.size W, w' = u.w) o v a ∧ wpFG P ops W Q T σ (a.put o.dst v) w
  | (2, i) :: σ, a, w => ∃ o v, ops[i]? = some o ∧ YieldsIf P ops (fun _ => True) o v a ∧ wpFG P ops W Q T σ (a.put o.dst v) w
  | (_, i) :: σ, a, w => ∀ w1, Below w.heap.size w w1 → wpOp P ops Q i (fun a' w' => Below w1.heap.size w1 w' ∧ wpFG P ops W Q T σ a' w') a w1

/-- the first part of a schedule: its items lie below j0, and none of them is number j0 or comes behind it -/
def schedFG (md : Region.Mode) (ops : Array Oper) (j0 : Nat) (τ : List (Nat × Nat)) : List (Nat × Nat) → Array Bool → Bool
  | [], listed => decide (Region.ready md ops listed = [j0]) && schedG md ops j0 τ listed
  | (k, i) :: σ, listed => decide (i < j0) && (k == 0 || k == 1 || k == 2) && itemB md ops j0 k i listed && schedFG md ops j0 τ σ (listed.setIfInBounds i true)

theorem floatG_main {j0 : Nat} {A : List Nat} {z : Nat → Obj} {τ : List (Nat × Nat)} (hsel : Region.noSelect ops = true) (hQ : ∀ c a d v w, Q (.panic c) (Act.put a d v) w ↔ Q (.panic c) a w) (hj0 : j0 < ops.size)
    (ok : FloatOk ops j0 A) (hAw : ∀ i ∈ A, Region.waitsFor md ops j0 i = true) (hAl : ∀ i ∈ A, ∀ oi, ops[i]? = some oi → ∀ ρ w, (execOp ρ oi).run P w = .ok (.value (ptrTo w.heap.size)) (w.alloc (z i))) :
    ∀ (f : Nat) (σ : List (Nat × Nat)) (D : List Nat) (β : Nat → Nat) (a0 : Act) (w0 w : World) (ls listed : Array Bool), σ.length + (A.length - D.length) = f → FlSt md ops ops.size A W z ls listed D β w →
      schedFG md ops j0 τ σ ls = true → Below w0.heap.size w0 w → wpFG P ops W Q (fun a w => ∀ w1, Below w.heap.size w w1 → Below W.heap.size W w1 → ∀ β, Good W z β A w1 → wpG P ops (fun w' => ∃ u : UpTo W.heap.size W, w' = u.w) Q τ (puts ops β A a) w1) σ a0 w0 →
      wpAnyHS P md ops Q (fun w' => ∃ u : UpTo W.heap.size W, w' = u.w) j0 (fun listed' a' w' => Region.ready md ops listed' = [] ∧ Q .normal a' w') (f + τ.length) listed (puts ops β D a0) w := by
  intro f
  have fin : ∀ (D : List Nat) (β : Nat → Nat) (a0 : Act) (w0 w : World) (ls listed : Array Bool), A.length ≤ D.length → FlSt md ops ops.size A W z ls listed D β w → schedG md ops j0 τ ls = true → Below w0.heap.size w0 w →
      (∀ w1, Below w0.heap.size w0 w1 → Below W.heap.size W w1 → ∀ β, Good W z β A w1 → wpG P ops (fun w' => ∃ u : UpTo W.heap.size W, w' = u.w) Q τ (puts ops β A a0) w1) →
      wpAnyHS P md ops Q (fun w' => ∃ u : UpTo W.heap.size W, w' = u.w) j0 (fun listed' a' w' => Region.ready md ops listed' = [] ∧ Q .normal a' w') τ.length listed (puts ops β D a0) w := by
    intro D β a0 w0 w ls listed hlen s hB hb h
    have hp : D.Perm A := nodup_perm s.dn s.da hlen
    have e : listed = ls := by
      refine Array.ext (s.size.trans s.lsz.symm) fun i h1 h2 => ?_
      have e1 : listed.getD i false = listed[i] := by simp [h1]
      have e2 : ls.getD i false = ls[i] := by simp [h2]
      rw [← e1, ← e2, Bool.eq_iff_iff]
      refine ⟨s.sub i, fun hi => ?_⟩
      by_cases hA : i ∈ A
      · exact (s.flo i hA).2 (hp.mem_iff.2 hA)
      · exact s.sup i hi hA
    rw [puts_perm ok β a0 s.da hp, e]
    exact wpAnyHS_of_G hsel (fun c a d v w => (hQ c a d v w).1) τ ls _ w (e ▸ s.inv) hB (.inl (up_iff.2 s.cw)) (h w hb s.cw β ⟨fun i hi => s.good.1 i (hp.mem_iff.2 hi), fun i hi j hj => s.good.2 i (hp.mem_iff.2 hi) j (hp.mem_iff.2 hj)⟩)
  induction f with
  | zero =>
    intro σ D β a0 w0 w ls listed hf s hB hb h
    have hσ : σ = [] := List.length_eq_zero_iff.1 (by omega)
    subst hσ
    simp only [schedFG, Bool.and_eq_true] at hB
    rw [Nat.zero_add]
    exact fin D β a0 w0 w ls listed (by simp only [List.length_nil] at hf; omega) s hB.2 hb h
  | succ f ih =>
    intro σ D β a0 w0 w ls listed hf s hB hb h
    rw [show f + 1 + τ.length = (f + τ.length) + 1 by omega]
    have allocs : ∀ i, i ∈ A → i ∉ D → wpOp P ops Q i (fun a' w' => ClsAt (fun w' => ∃ u : UpTo W.heap.size W, w' = u.w) j0 (listed.setIfInBounds i true) w' ∧ wpAnyHS P md ops Q (fun w' => ∃ u : UpTo W.heap.size W, w' = u.w) j0 (fun listed' a' w' => Region.ready md ops listed' = [] ∧ Q .normal a' w') (f + τ.length) (listed.setIfInBounds i true) a' w') (puts ops β D a0) w := by
      intro i hA hD
      refine made_step ok hAl hA hD ?_
      have s' := s.made ok (Nat.le_of_lt hj0) hA hD
      refine ⟨.inl (up_iff.2 s'.cw), ih σ (i :: D) _ a0 w0 (w.alloc (z i)) ls _ ?_ s' hB (hb.alloc hb.size _) h⟩
      have hle : (i :: D).length ≤ A.length := nodup_le (List.nodup_cons.2 ⟨hD, s.dn⟩) s'.da
      simp only [List.length_cons] at hle ⊢
      omega
    match σ, hf, hB, h with
    | [], hf, hB, h =>
      simp only [schedFG, Bool.and_eq_true, decide_eq_true_eq] at hB
      have hpend : ∃ i, i ∈ A ∧ i ∉ D := by
        refine Classical.byContradiction fun hno => ?_
        have hsub : ∀ i ∈ A, i ∈ D := fun i hi => Classical.byContradiction fun h' => hno ⟨i, hi, h'⟩
        have := nodup_le ok.nodup hsub
        simp only [List.length_nil] at hf; omega
      obtain ⟨i, hA, hD⟩ := hpend
      have hri := s.pending ok hA hD
      refine ⟨fun h0 => (by rw [h0] at hri; cases hri), fun j hj => ?_⟩
      rcases s.ready hj with ⟨h1, h2⟩ | ⟨_, h2⟩
      · exact allocs j h1 h2
      · rw [hB.1] at h2
        have hjj : j = j0 := by simpa using h2
        subst hjj
        obtain ⟨o, ho, e, he, hbd, hon⟩ := Region.waitsFor_spec (hAw i hA)
        obtain ⟨_, o', ho', hall⟩ := mem_ready.1 hj
        obtain rfl : o = o' := Option.some.inj (ho.symm.trans ho')
        have h3 := hall e he hbd
        rw [hon] at h3
        exact absurd ((s.flo i hA).1 h3) hD
    | (0, i) :: σ, hf, hB, h =>
      simp only [schedFG, itemB, Bool.and_eq_true, decide_eq_true_eq, bne_iff_ne] at hB
      obtain ⟨⟨⟨hin, _⟩, ⟨⟨hij, hw⟩, hr⟩, hfr⟩, hB'⟩ := hB
      obtain ⟨o, v, ho, hy, hK⟩ := h
      have hr' : i ∈ Region.ready md ops ls := by simpa using hr
      obtain ⟨hiA, hrl⟩ := s.ready_of ok hin hr'
      have hsj := Region.noSelect_spec hsel i o
      refine wpAnyHS_first ho (Region.noSelect_spec hsel) (fun c a d v w => (hQ c a d v w).1) hij (fun l w il hu hc => cls_of hw il hu hc) (fun l a w hL => hL.1) _ listed _ w s.inv
        (free_of s ok hin ho hfr) hrl (puts_yields ok β ho hin hiA (fun cs b => hsj cs b ho) a0 hy D s.da) (.inl (up_iff.2 s.cw)) ?_
      rw [puts_put ok β ho hin hiA v a0 D s.da]
      exact ih σ D β _ w0 w _ _ (by simp only [List.length_cons] at hf; omega) (s.step (Nat.lt_trans hin hj0) hiA hrl (Below.refl _ _)) hB' hb hK
    | (2, i) :: σ, hf, hB, h =>
      simp only [schedFG, itemB, Bool.and_eq_true, decide_eq_true_eq, bne_iff_ne] at hB
      obtain ⟨⟨⟨hin, _⟩, ⟨hij, hr⟩, hfr⟩, hB'⟩ := hB
      obtain ⟨o, v, ho, hy, hK⟩ := h
      have hr' : i ∈ Region.ready md ops ls := by simpa using hr
      obtain ⟨hiA, hrl⟩ := s.ready_of ok hin hr'
      have hsj := Region.noSelect_spec hsel i o
      refine wpAnyHS_first ho (Region.noSelect_spec hsel) (fun c a d v w => (hQ c a d v w).1) hij (fun _ _ _ _ _ => trivial) (fun l a w hL => hL.1) _ listed _ w s.inv
        (free_of s ok hin ho hfr) hrl (puts_yields ok β ho hin hiA (fun cs b => hsj cs b ho) a0 hy D s.da) (.inl (up_iff.2 s.cw)) ?_
      rw [puts_put ok β ho hin hiA v a0 D s.da]
      exact ih σ D β _ w0 w _ _ (by simp only [List.length_cons] at hf; omega) (s.step (Nat.lt_trans hin hj0) hiA hrl (Below.refl _ _)) hB' hb hK
    | (1, i) :: σ, hf, hB, h =>
      simp only [schedFG, itemB, Bool.and_eq_true, decide_eq_true_eq, bne_iff_ne] at hB
      obtain ⟨⟨⟨hin, _⟩, hij, hr⟩, hB'⟩ := hB
      obtain ⟨hiA, hrl⟩ := s.ready_of ok hin (by rw [hr]; simp : i ∈ Region.ready md ops ls)
      refine ⟨fun h0 => (by rw [h0] at hrl; cases hrl), fun j hj => ?_⟩
      rcases s.ready hj with ⟨h1, h2⟩ | ⟨_, h2⟩
      · exact allocs j h1 h2
      · have hji : j = i := by rw [hr] at h2; simpa using h2
        subst hji
        obtain ⟨_, o, ho, _⟩ := mem_ready.1 hrl
        have hsj := Region.noSelect_spec hsel j o
        refine wpOp_mono (fun a' w' h' => ?_) (wpOp_at_puts ok β ho hin hiA (fun cs b => hsj cs b ho) hQ D s.da (h w hb))
        obtain ⟨a1, rfl, hb1, hK⟩ := h'
        have s' := s.step (Nat.lt_trans hin hj0) hiA hrl hb1
        exact ⟨.inl (up_iff.2 s'.cw), ih σ D β a1 w' w' _ _ (by simp only [List.length_cons] at hf; omega) s' hB' (Below.refl _ _) hK⟩
    | (k + 3, i) :: σ, hf, hB, h =>
      simp only [schedFG, Bool.and_eq_true] at hB
      obtain ⟨⟨⟨_, hk⟩, _⟩, _⟩ := hB
      simp at hk


theorem wpFG_mono {T T' : Act → World → Prop} (h : ∀ a w, T a w → T' a w) : ∀ (σ : List (Nat × Nat)) (a : Act) (w : World), wpFG P ops W Q T σ a w → wpFG P ops W Q T' σ a w
  | [], _, _, hh => h _ _ hh
  | (0, _) :: σ, _, _, ⟨o, v, h1, h2, h3⟩ => ⟨o, v, h1, h2, wpFG_mono h σ _ _ h3⟩
  | (2, _) :: σ, _, _, ⟨o, v, h1, h2, h3⟩ => ⟨o, v, h1, h2, wpFG_mono h σ _ _ h3⟩
  | (1, _) :: σ, _, _, hh => fun w1 hb => wpOp_mono (fun _ _ h' => ⟨h'.1, wpFG_mono h σ _ _ h'.2⟩) (hh w1 hb)
  | (_ + 3, _) :: σ, _, _, hh => fun w1 hb => wpOp_mono (fun _ _ h' => ⟨h'.1, wpFG_mono h σ _ _ h'.2⟩) (hh w1 hb)

/-- THE LAW: new variables A, and several stores. -/
theorem wp_region_FG {id : Nat} {a : Act} {w : World} {l : List Oper} (j0 : Nat) (A : List Nat) (z : Nat → Obj) (σ τ : List (Nat × Nat)) (hm : P.follows .mixedOrders = true)
    (hB : (Region.noSelect l.toArray && decide (σ.length + A.length + τ.length = l.length) && decide (j0 < l.length) && floatB l.toArray j0 A && (A.all fun i => Region.waitsFor .any l.toArray j0 i) &&
      schedFG .any l.toArray j0 τ σ ((List.range l.length).map (fun i => A.contains i)).toArray) = true)
    (hQ : ∀ c a d v w, Q (.panic c) (Act.put a d v) w ↔ Q (.panic c) a w)
    (hAl : ∀ i ∈ A, ∀ oi, l[i]? = some oi → ∀ ρ w, (execOp ρ oi).run P w = .ok (.value (ptrTo w.heap.size)) (w.alloc (z i)))
    (h : wpFG P l.toArray w Q (fun a w' => ∀ w1, Below w'.heap.size w' w1 → Below w.heap.size w w1 → ∀ β, Good w z β A w1 → wpG P l.toArray (fun w' => ∃ u : UpTo w.heap.size w, w' = u.w) Q τ (puts l.toArray β A a) w1) σ a w.drew) : (Code.region id l.toArray true).wp P Q a w := by
  simp only [Bool.and_eq_true, decide_eq_true_eq] at hB
  obtain ⟨⟨⟨⟨⟨hsel, hlen⟩, hj⟩, hfl⟩, hw⟩, hs⟩ := hB
  have ok := floatB_ok hfl
  have hls : ∀ j, ((List.range l.length).map (fun i => A.contains i)).toArray.getD j false = true ↔ j ∈ A ∧ j < l.length := by
    intro j
    by_cases hj : j < l.length
    · simp [hj]
    · simp [hj]
  have s0 : FlSt .any l.toArray l.toArray.size A w z ((List.range l.length).map (fun i => A.contains i)).toArray (Array.replicate l.toArray.size false) [] (fun _ => 0) w.drew := by
    refine ⟨by simp, by simp, fun j hj => (by rw [getD_replicate_false] at hj; cases hj), fun j hj hA => absurd ((hls j).1 hj).1 hA, fun j _ => ?_, fun i hi => ?_, HeadInv.none, List.nodup_nil, fun i hi => (by cases hi), (Below.refl _ _).drew, fun i hi => (by cases hi), fun i hi => (by cases hi)⟩
    · rw [getD_replicate_false]; simp
    · obtain ⟨_, oi, hoi, _⟩ := ok.at_ i hi
      have := (Array.getElem?_eq_some_iff.1 hoi).1
      exact (hls i).2 ⟨hi, by simpa using this⟩
  have H := floatG_main (τ := τ) hsel hQ (by simpa using hj) ok (fun i hi => List.all_eq_true.1 hw i hi) (fun i hi oi ho => hAl i hi oi (by simpa using ho)) _ σ [] (fun _ => 0) a w.drew w.drew _ _ rfl s0 hs (Below.refl _ _) h
  refine wp_region_any hm ?_
  have := wpAny_of_HS (g := 0) (fun listed a' w' hL => (⟨hL.1, hL.2⟩ : wpAny P .any l.toArray Q 0 listed a' w')) _ _ _ _ H
  have e : σ.length + (A.length - ([] : List Nat).length) + τ.length + 0 = l.toArray.size := by simp; omega
  rw [e] at this
  exact this

/-- one new variable, several stores -/
theorem wp_region_FG1 {id : Nat} {a : Act} {w : World} {l : List Oper} (j0 i : Nat) (σ τ : List (Nat × Nat)) {o : Oper} {d : Tmp} {t : TypeId} {c : Array Value} (hm : P.follows .mixedOrders = true)
    (hB : (Region.noSelect l.toArray && decide (σ.length + [i].length + τ.length = l.length) && decide (j0 < l.length) && floatB l.toArray j0 [i] && ([i].all fun i => Region.waitsFor .any l.toArray j0 i) &&
      schedFG .any l.toArray j0 τ σ ((List.range l.length).map (fun k => [i].contains k)).toArray) = true)
    (hQ : ∀ c a d v w, Q (.panic c) (Act.put a d v) w ↔ Q (.panic c) a w) (ho : l[i]? = some o) (hop : o.op = .alloc t) (hd : o.dst = some d) (hr : AllocRuns P t c)
    (h : wpFG P l.toArray w Q (fun a w' => ∀ w1, Below w'.heap.size w' w1 → Below w.heap.size w w1 → ∀ b, w.heap.size ≤ b → w1.heap[b]? = some (.cells c t) →
      wpG P l.toArray (fun w' => ∃ u : UpTo w.heap.size w, w' = u.w) Q τ (a.put (some d) (ptrTo b)) w1) σ a w.drew) :
    (Code.region id l.toArray true).wp P Q a w := by
  refine wp_region_FG j0 [i] (fun _ => .cells c t) σ τ hm hB hQ (fun k hk oi hoi ρ w => ?_) (wpFG_mono (fun a w' h' w1 hb1 hb2 β hg => ?_) _ _ _ h)
  · obtain rfl : k = i := by simpa using hk
    obtain rfl : o = oi := Option.some.inj (ho.symm.trans hoi)
    exact alloc_of hr o hop ρ w
  · have h1 := hg.1 i (List.mem_singleton.2 rfl)
    have e : puts l.toArray β [i] a = a.put (some d) (ptrTo (β i)) := by
      show a.put (dstOf l.toArray i) _ = _
      simp [dstOf, ho, hd]
    rw [e]
    exact h' w1 hb1 hb2 _ h1.1 h1.2

/-- two new variables, several stores -/
theorem wp_region_FG2 {id : Nat} {a : Act} {w : World} {l : List Oper} (j0 i j : Nat) (σ τ : List (Nat × Nat)) {o o' : Oper} {d d' : Tmp} {t t' : TypeId} {c c' : Array Value} (hm : P.follows .mixedOrders = true)
    (hB : (Region.noSelect l.toArray && decide (σ.length + [i, j].length + τ.length = l.length) && decide (j0 < l.length) && floatB l.toArray j0 [i, j] && ([i, j].all fun i => Region.waitsFor .any l.toArray j0 i) &&
      schedFG .any l.toArray j0 τ σ ((List.range l.length).map (fun k => [i, j].contains k)).toArray) = true)
    (hQ : ∀ c a d v w, Q (.panic c) (Act.put a d v) w ↔ Q (.panic c) a w) (ho : l[i]? = some o) (hop : o.op = .alloc t) (hd : o.dst = some d) (hr : AllocRuns P t c)
    (ho' : l[j]? = some o') (hop' : o'.op = .alloc t') (hd' : o'.dst = some d') (hr' : AllocRuns P t' c') (hij : (i == j) = false)
    (h : wpFG P l.toArray w Q (fun a w' => ∀ w1, Below w'.heap.size w' w1 → Below w.heap.size w w1 → ∀ b b', b ≠ b' → w.heap.size ≤ b → w1.heap[b]? = some (.cells c t) → w.heap.size ≤ b' → w1.heap[b']? = some (.cells c' t') →
      wpG P l.toArray (fun w' => ∃ u : UpTo w.heap.size w, w' = u.w) Q τ ((a.put (some d') (ptrTo b')).put (some d) (ptrTo b)) w1) σ a w.drew) :
    (Code.region id l.toArray true).wp P Q a w := by
  have hij : i ≠ j := by simpa using hij
  refine wp_region_FG j0 [i, j] (fun k => if k = i then .cells c t else .cells c' t') σ τ hm hB hQ (fun k hk oi hoi ρ w => ?_) (wpFG_mono (fun a w' h' w1 hb1 hb2 β hg => ?_) _ _ _ h)
  · rcases List.mem_cons.1 hk with rfl | hk
    · obtain rfl : o = oi := Option.some.inj (ho.symm.trans hoi)
      rw [if_pos rfl]; exact alloc_of hr o hop ρ w
    · obtain rfl : k = j := by simpa using hk
      obtain rfl : o' = oi := Option.some.inj (ho'.symm.trans hoi)
      rw [if_neg (Ne.symm hij)]; exact alloc_of hr' o' hop' ρ w
  · have h1 := hg.1 i (by simp)
    have h2 := hg.1 j (by simp)
    simp only [if_pos] at h1
    simp only [if_neg (Ne.symm hij)] at h2
    have e : puts l.toArray β [i, j] a = (a.put (some d') (ptrTo (β j))).put (some d) (ptrTo (β i)) := by
      show (a.put (dstOf l.toArray j) _).put (dstOf l.toArray i) _ = _
      simp [dstOf, ho, hd, ho', hd']
    rw [e]
    exact h' w1 hb1 hb2 _ _ (hg.2 i (by simp) j (by simp) hij) h1.1 h1.2 h2.1 h2.2

theorem quiet_item {C : World → Prop} {l : List Oper} {o : Oper} {a : Act} {K : Act → Prop} (hp : plainOp o.op = true) (h : wpQuiet P l.toArray C K [o] a) : ∃ v, YieldsIf P l.toArray C o v a ∧ K (a.put o.dst v) := by
  unfold wpQuiet at h
  by_cases hw : Region.wanted o (yielded l.toArray a.tmps) = true
  · rw [if_pos hw] at h
    obtain ⟨v, h1, h2⟩ := h
    exact ⟨v, .inl ⟨hw, yields_of_quiet hp h1⟩, h2⟩
  · rw [if_neg hw] at h
    exact ⟨undef, .inr ⟨by simpa using hw, rfl⟩, h⟩
theorem do_item {l : List Oper} {i : Nat} {o : Oper} {a : Act} {w : World} {R : Act → World → Prop} (ho : l[i]? = some o) (h : wpList P l.toArray (Exit.then R Q) [o] a w) : wpOp P l.toArray Q i R a w := by
  have ho' : l.toArray[i]? = some o := by simpa using ho
  unfold wpOp
  simp only [ho']
  unfold wpList at h
  by_cases hw : Region.wanted o (yielded l.toArray a.tmps) = true
  · rw [if_pos hw] at h ⊢
    rcases h with h | ⟨h1, h2⟩
    · exact .inl (upon_then h)
    · exact .inr ⟨h1, h2⟩
  · rw [if_neg hw] at h ⊢
    exact h

variable {C : World → Prop} {l : List Oper} {T : Act → World → Prop} {σ : List (Nat × Nat)} {i : Nat} {o : Oper} {a : Act} {w : World}
theorem wpG_take0 (ho : l[i]? = some o) (hp : plainOp o.op = true) (h : wpQuiet P l.toArray C (fun a' => wpG P l.toArray C Q σ a' w) [o] a) : wpG P l.toArray C Q ((0, i) :: σ) a w := by
  obtain ⟨v, h1, h2⟩ := quiet_item hp h
  exact ⟨o, v, by simpa using ho, h1, h2⟩
theorem wpG_take2 (ho : l[i]? = some o) (hp : plainOp o.op = true) (h : wpQuiet P l.toArray (fun _ => True) (fun a' => wpG P l.toArray C Q σ a' w) [o] a) : wpG P l.toArray C Q ((2, i) :: σ) a w := by
  obtain ⟨v, h1, h2⟩ := quiet_item hp h
  exact ⟨o, v, by simpa using ho, h1, h2⟩
theorem wpG_do1 (ho : l[i]? = some o) (h : ∀ K : Act → World → Prop, Hid (∀ a' w', C w' → wpG P l.toArray C Q σ a' w' → K a' w') → wpList P l.toArray (Exit.then K Q) [o] a w) : wpG P l.toArray C Q ((1, i) :: σ) a w :=
  do_item ho (h _ (fun _ _ h1 h2 => ⟨h1, h2⟩))
theorem wpG_do3 (ho : l[i]? = some o) (h : ∀ K : Act → World → Prop, Hid (∀ a' w', wpG P l.toArray C Q σ a' w' → K a' w') → wpList P l.toArray (Exit.then K Q) [o] a w) : wpG P l.toArray C Q ((3, i) :: σ) a w :=
  do_item ho (h _ (fun _ _ h1 => h1))
theorem wpG_nil (h : wpList P l.toArray Q [] a w) : wpG P l.toArray C Q [] a w := h
theorem wpFG_take0 (ho : l[i]? = some o) (hp : plainOp o.op = true) (h : wpQuiet P l.toArray (fun w' => ∃ u : UpTo W.heap.size W, w' = u.w) (fun a' => wpFG P l.toArray W Q T σ a' w) [o] a) : wpFG P l.toArray W Q T ((0, i) :: σ) a w := by
  obtain ⟨v, h1, h2⟩ := quiet_item hp h
  exact ⟨o, v, by simpa using ho, h1, h2⟩
theorem wpFG_take2 (ho : l[i]? = some o) (hp : plainOp o.op = true) (h : wpQuiet P l.toArray (fun _ => True) (fun a' => wpFG P l.toArray W Q T σ a' w) [o] a) : wpFG P l.toArray W Q T ((2, i) :: σ) a w := by
  obtain ⟨v, h1, h2⟩ := quiet_item hp h
  exact ⟨o, v, by simpa using ho, h1, h2⟩
theorem wpFG_do (ho : l[i]? = some o) (h : ∀ w1, Below w.heap.size w w1 → ∀ K : Act → World → Prop, Hid (∀ a' w', Below w1.heap.size w1 w' → wpFG P l.toArray W Q T σ a' w' → K a' w') → wpList P l.toArray (Exit.then K Q) [o] a w1) : wpFG P l.toArray W Q T ((1, i) :: σ) a w :=
  fun w1 hb => do_item ho (h w1 hb _ (fun _ _ h1 h2 => ⟨h1, h2⟩))
theorem wpFG_nil (h : T a w) : wpFG P l.toArray W Q T [] a w := h

end
end Go.Proofs.YtcfiemeknocgjaaDoor
