/- The laws on regions with several stores once more, for calls that stand in a longer row; four new variables of one type. Conditions: closed checks on the region's edges. -/
import Derived.Test.YtcfiemeknocgjaaDoorRegG
namespace Go.Proofs.YtcfiemeknocgjaaDoor.Far
open Go Go.RowKit Go.Proofs.YtcfiemeknocgjaaDoor
section
variable {P : Program} {ops : Array Oper} {Q : Exit → Act → World → Prop} {md : Region.Mode} {W : World}

/-- does one item of the schedule fit the edges? -/
def itemB (md : Region.Mode) (ops : Array Oper) (j0 k i : Nat) (listed : Array Bool) : Bool :=
  match k with
  | 0 => i != j0 && (waitsN md ops 7 j0 i || decide (ops.size ≤ j0)) && (Region.ready md ops listed).contains i && Region.free md ops listed i
  | 2 => i != j0 && (Region.ready md ops listed).contains i && Region.free md ops listed i
  | 1 => i != j0 && decide (Region.ready md ops listed = [i])
  | _ => (i == j0 || listed.getD j0 false) && decide (Region.ready md ops listed = [i])

def schedG (md : Region.Mode) (ops : Array Oper) (j0 : Nat) : List (Nat × Nat) → Array Bool → Bool
  | [], listed => decide (Region.ready md ops listed = [])
  | (k, i) :: σ, listed => itemB md ops j0 k i listed && schedG md ops j0 σ (listed.setIfInBounds i true)

theorem cls_of {C : World → Prop} {j0 i : Nat} {listed : Array Bool} {w : World} (hw : (waitsN md ops 7 j0 i || decide (ops.size ≤ j0)) = true) (inv : HeadInv md ops ops.size listed) (hun : listed.getD i true = false)
    (h : ClsAt C j0 listed w) : C w := by
  rcases h with h | h
  · exact h
  · rw [Bool.or_eq_true, decide_eq_true_eq] at hw
    rcases hw with hw | hw
    · have h2 := waitsN_listed inv _ _ _ hw h
      rw [getD_both hun] at h2; cases h2
    · have : listed.getD j0 false = false := by
        have hs := inv.size
        simp [Array.getElem?_eq_none (by omega : listed.size ≤ j0)]
      rw [this] at h; cases h

theorem wpAnyHS_of_G {C : World → Prop} {j0 : Nat} (hsel : Region.noSelect ops = true) (hQ : ∀ c a d v w, Q (.panic c) (Act.put a d v) w → Q (.panic c) a w) :
    ∀ (σ : List (Nat × Nat)) (listed : Array Bool) (a : Act) (w : World), HeadInv md ops ops.size listed → schedG md ops j0 σ listed = true → ClsAt C j0 listed w → wpG P ops C Q σ a w →
    wpAnyHS P md ops Q C j0 (fun listed' a' w' => Region.ready md ops listed' = [] ∧ Q .normal a' w') σ.length listed a w
  | [], listed, a, w, _, hB, _, h => ⟨by simpa [schedG] using hB, h⟩
  | (0, i) :: σ, listed, a, w, inv, hB, hC, h => by
    simp only [schedG, itemB, Bool.and_eq_true, bne_iff_ne] at hB
    obtain ⟨⟨⟨⟨hij, hw⟩, hr⟩, hf⟩, hB'⟩ := hB
    obtain ⟨o, v, ho, hy, hK⟩ := h
    have hr' : i ∈ Region.ready md ops listed := by simpa using hr
    exact wpAnyHS_first ho (Region.noSelect_spec hsel) hQ hij (fun l w il hu hc => cls_of hw il hu hc) (fun l a w hL => hL.1) σ.length listed a w inv
      (Region.free_spec ho hf) hr' hy hC (wpAnyHS_of_G hsel hQ σ _ _ _ (HeadInv.all inv hr') hB' (hC.imp id getD_set_true) hK)
  | (2, i) :: σ, listed, a, w, inv, hB, hC, h => by
    simp only [schedG, itemB, Bool.and_eq_true, bne_iff_ne] at hB
    obtain ⟨⟨⟨hij, hr⟩, hf⟩, hB'⟩ := hB
    obtain ⟨o, v, ho, hy, hK⟩ := h
    have hr' : i ∈ Region.ready md ops listed := by simpa using hr
    exact wpAnyHS_first ho (Region.noSelect_spec hsel) hQ hij (fun _ _ _ _ _ => trivial) (fun l a w hL => hL.1) σ.length listed a w inv
      (Region.free_spec ho hf) hr' hy hC (wpAnyHS_of_G hsel hQ σ _ _ _ (HeadInv.all inv hr') hB' (hC.imp id getD_set_true) hK)
  | (1, i) :: σ, listed, a, w, inv, hB, hC, h => by
    simp only [schedG, itemB, Bool.and_eq_true, decide_eq_true_eq] at hB
    obtain ⟨⟨_, hr⟩, hB'⟩ := hB
    refine ⟨by rw [hr]; simp, fun j hj => ?_⟩
    have hji : j = i := by rw [hr] at hj; simpa using hj
    subst hji
    exact wpOp_mono (fun a' w' h' => ⟨.inl h'.1, wpAnyHS_of_G hsel hQ σ _ _ _ (HeadInv.all inv hj) hB' (.inl h'.1) h'.2⟩) h
  | (k + 3, i) :: σ, listed, a, w, inv, hB, hC, h => by
    simp only [schedG, itemB, Bool.and_eq_true, decide_eq_true_eq, Bool.or_eq_true, beq_iff_eq] at hB
    obtain ⟨⟨hj0, hr⟩, hB'⟩ := hB
    refine ⟨by rw [hr]; simp, fun j hj => ?_⟩
    have hji : j = i := by rw [hr] at hj; simpa using hj
    subst hji
    have hc : ∀ w', ClsAt C j0 (listed.setIfInBounds j true) w' := by
      intro w'
      refine .inr ?_
      rcases hj0 with h | h
      · subst h
        obtain ⟨_, o, ho, _⟩ := mem_ready.1 hj
        have := (Array.getElem?_eq_some_iff.1 ho).1
        rw [getD_set (by rw [inv.size]; exact this)]; simp
      · exact getD_set_true h
    exact wpOp_mono (fun a' w' h' => ⟨hc w', wpAnyHS_of_G hsel hQ σ _ _ _ (HeadInv.all inv hj) hB' (hc w') h'⟩) h

/-- the first part of a schedule: its items lie below j0, and none of them is number j0 or comes behind it -/
def schedFG (md : Region.Mode) (ops : Array Oper) (j0 : Nat) (τ : List (Nat × Nat)) : List (Nat × Nat) → Array Bool → Bool
  | [], listed => decide (Region.ready md ops listed = [j0]) && schedG md ops j0 τ listed
  | (k, i) :: σ, listed => decide (i < j0) && (k == 0 || k == 1 || k == 2) && itemB md ops j0 k i listed && schedFG md ops j0 τ σ (listed.setIfInBounds i true)

theorem floatG_main {j0 : Nat} {A : List Nat} {z : Nat → Obj} {τ : List (Nat × Nat)} (hsel : Region.noSelect ops = true) (hQ : ∀ c a d v w, Q (.panic c) (Act.put a d v) w ↔ Q (.panic c) a w) (hj0 : j0 < ops.size)
    (ok : FloatOk ops j0 A) (hAw : ∀ i ∈ A, Region.waitsFor md ops j0 i = true) (hAl : ∀ i ∈ A, ∀ oi, ops[i]? = some oi → ∀ ρ w, (execOp ρ oi).run P w = .ok (.value (ptrTo w.heap.size)) (w.alloc (z i))) :
    ∀ (f : Nat) (σ : List (Nat × Nat)) (D : List Nat) (β : Nat → Nat) (a0 : Act) (w0 w : World) (ls listed : Array Bool), σ.length + (A.length - D.length) = f → FlSt md ops ops.size A W z ls listed D β w →
      schedFG md ops j0 τ σ ls = true → Below w0.heap.size w0 w → wpFG P ops W Q (fun a w => ∀ w1, Below w.heap.size w w1 → Below W.heap.size W w1 → ∀ β, Good W z β A w1 → wpG P ops (fun w' => ∃ u : UpTo W.heap.size W, w' = u.w) Q τ (puts ops β A a) w1) σ a0 w0 →
      wpAnyHS P md ops Q (fun w' => ∃ u : UpTo W.heap.size W, w' = u.w) j0 (fun listed' a' w' => Region.ready md ops listed' = [] ∧ Q .normal a' w') (f + τ.length) listed (puts ops β D a0) w := by
  intro f
  have fin : ∀ (D : List Nat) (β : Nat → Nat) (a0 : Act) (w0 w : World) (ls listed : Array Bool), A.length ≤ D.length → FlSt md ops ops.size A W z ls listed D β w → schedG md ops j0 τ ls = true → Below w0.heap.size w0 w →
      (∀ w1, Below w0.heap.size w0 w1 → Below W.heap.size W w1 → ∀ β, Good W z β A w1 → wpG P ops (fun w' => ∃ u : UpTo W.heap.size W, w' = u.w) Q τ (puts ops β A a0) w1) →
      wpAnyHS P md ops Q (fun w' => ∃ u : UpTo W.heap.size W, w' = u.w) j0 (fun listed' a' w' => Region.ready md ops listed' = [] ∧ Q .normal a' w') τ.length listed (puts ops β D a0) w := by
    intro D β a0 w0 w ls listed hlen s hB hb h
    have hp : D.Perm A := nodup_perm s.dn s.da hlen
    have e : listed = ls := by
      refine Array.ext (s.size.trans s.lsz.symm) fun i h1 h2 => ?_
      have e1 : listed.getD i false = listed[i] := by simp [h1]
      have e2 : ls.getD i false = ls[i] := by simp [h2]
      rw [← e1, ← e2, Bool.eq_iff_iff]
      refine ⟨s.sub i, fun hi => ?_⟩
      by_cases hA : i ∈ A
      · exact (s.flo i hA).2 (hp.mem_iff.2 hA)
      · exact s.sup i hi hA
    rw [puts_perm ok β a0 s.da hp, e]
    exact wpAnyHS_of_G hsel (fun c a d v w => (hQ c a d v w).1) τ ls _ w (e ▸ s.inv) hB (.inl (up_iff.2 s.cw)) (h w hb s.cw β ⟨fun i hi => s.good.1 i (hp.mem_iff.2 hi), fun i hi j hj => s.good.2 i (hp.mem_iff.2 hi) j (hp.mem_iff.2 hj)⟩)
  induction f with
  | zero =>
    intro σ D β a0 w0 w ls listed hf s hB hb h
    have hσ : σ = [] := List.length_eq_zero_iff.1 (by omega)
    subst hσ
    simp only [schedFG, Bool.and_eq_true] at hB
    rw [Nat.zero_add]
    exact fin D β a0 w0 w ls listed (by simp only [List.length_nil] at hf; omega) s hB.2 hb h
  | succ f ih =>
    intro σ D β a0 w0 w ls listed hf s hB hb h
    rw [show f + 1 + τ.length = (f + τ.length) + 1 by omega]
    have allocs : ∀ i, i ∈ A → i ∉ D → wpOp P ops Q i (fun a' w' => ClsAt (fun w' => ∃ u : UpTo W.heap.size W, w' = u.w) j0 (listed.setIfInBounds i true) w' ∧ wpAnyHS P md ops Q (fun w' => ∃ u : UpTo W.heap.size W, w' = u.w) j0 (fun listed' a' w' => Region.ready md ops listed' = [] ∧ Q .normal a' w') (f + τ.length) (listed.setIfInBounds i true) a' w') (puts ops β D a0) w := by
      intro i hA hD
      refine made_step ok hAl hA hD ?_
      have s' := s.made ok (Nat.le_of_lt hj0) hA hD
      refine ⟨.inl (up_iff.2 s'.cw), ih σ (i :: D) _ a0 w0 (w.alloc (z i)) ls _ ?_ s' hB (hb.alloc hb.size _) h⟩
      have hle : (i :: D).length ≤ A.length := nodup_le (List.nodup_cons.2 ⟨hD, s.dn⟩) s'.da
      simp only [List.length_cons] at hle ⊢
      omega
    match σ, hf, hB, h with
    | [], hf, hB, h =>
      simp only [schedFG, Bool.and_eq_true, decide_eq_true_eq] at hB
      have hpend : ∃ i, i ∈ A ∧ i ∉ D := by
        refine Classical.byContradiction fun hno => ?_
        have hsub : ∀ i ∈ A, i ∈ D := fun i hi => Classical.byContradiction fun h' => hno ⟨i, hi, h'⟩
        have := nodup_le ok.nodup hsub
        simp only [List.length_nil] at hf; omega
      obtain ⟨i, hA, hD⟩ := hpend
      have hri := s.pending ok hA hD
      refine ⟨fun h0 => (by rw [h0] at hri; cases hri), fun j hj => ?_⟩
      rcases s.ready hj with ⟨h1, h2⟩ | ⟨_, h2⟩
      · exact allocs j h1 h2
      · rw [hB.1] at h2
        have hjj : j = j0 := by simpa using h2
        subst hjj
        obtain ⟨o, ho, e, he, hbd, hon⟩ := Region.waitsFor_spec (hAw i hA)
        obtain ⟨_, o', ho', hall⟩ := mem_ready.1 hj
        obtain rfl : o = o' := Option.some.inj (ho.symm.trans ho')
        have h3 := hall e he hbd
        rw [hon] at h3
        exact absurd ((s.flo i hA).1 h3) hD
    | (0, i) :: σ, hf, hB, h =>
      simp only [schedFG, itemB, Bool.and_eq_true, decide_eq_true_eq, bne_iff_ne] at hB
      obtain ⟨⟨⟨hin, _⟩, ⟨⟨hij, hw⟩, hr⟩, hfr⟩, hB'⟩ := hB
      obtain ⟨o, v, ho, hy, hK⟩ := h
      have hr' : i ∈ Region.ready md ops ls := by simpa using hr
      obtain ⟨hiA, hrl⟩ := s.ready_of ok hin hr'
      have hsj := Region.noSelect_spec hsel i o
      refine wpAnyHS_first ho (Region.noSelect_spec hsel) (fun c a d v w => (hQ c a d v w).1) hij (fun l w il hu hc => cls_of hw il hu hc) (fun l a w hL => hL.1) _ listed _ w s.inv
        (free_of s ok hin ho hfr) hrl (puts_yields ok β ho hin hiA (fun cs b => hsj cs b ho) a0 hy D s.da) (.inl (up_iff.2 s.cw)) ?_
      rw [puts_put ok β ho hin hiA v a0 D s.da]
      exact ih σ D β _ w0 w _ _ (by simp only [List.length_cons] at hf; omega) (s.step (Nat.lt_trans hin hj0) hiA hrl (Below.refl _ _)) hB' hb hK
    | (2, i) :: σ, hf, hB, h =>
      simp only [schedFG, itemB, Bool.and_eq_true, decide_eq_true_eq, bne_iff_ne] at hB
      obtain ⟨⟨⟨hin, _⟩, ⟨hij, hr⟩, hfr⟩, hB'⟩ := hB
      obtain ⟨o, v, ho, hy, hK⟩ := h
      have hr' : i ∈ Region.ready md ops ls := by simpa using hr
      obtain ⟨hiA, hrl⟩ := s.ready_of ok hin hr'
      have hsj := Region.noSelect_spec hsel i o
      refine wpAnyHS_first ho (Region.noSelect_spec hsel) (fun c a d v w => (hQ c a d v w).1) hij (fun _ _ _ _ _ => trivial) (fun l a w hL => hL.1) _ listed _ w s.inv
        (free_of s ok hin ho hfr) hrl (puts_yields ok β ho hin hiA (fun cs b => hsj cs b ho) a0 hy D s.da) (.inl (up_iff.2 s.cw)) ?_
      rw [puts_put ok β ho hin hiA v a0 D s.da]
      exact ih σ D β _ w0 w _ _ (by simp only [List.length_cons] at hf; omega) (s.step (Nat.lt_trans hin hj0) hiA hrl (Below.refl _ _)) hB' hb hK
    | (1, i) :: σ, hf, hB, h =>
      simp only [schedFG, itemB, Bool.and_eq_true, decide_eq_true_eq, bne_iff_ne] at hB
      obtain ⟨⟨⟨hin, _⟩, hij, hr⟩, hB'⟩ := hB
      obtain ⟨hiA, hrl⟩ := s.ready_of ok hin (by rw [hr]; simp : i ∈ Region.ready md ops ls)
      refine ⟨fun h0 => (by rw [h0] at hrl; cases hrl), fun j hj => ?_⟩
      rcases s.ready hj with ⟨h1, h2⟩ | ⟨_, h2⟩
      · exact allocs j h1 h2
      · have hji : j = i := by rw [hr] at h2; simpa using h2
        subst hji
        obtain ⟨_, o, ho, _⟩ := mem_ready.1 hrl
        have hsj := Region.noSelect_spec hsel j o
        refine wpOp_mono (fun a' w' h' => ?_) (wpOp_at_puts ok β ho hin hiA (fun cs b => hsj cs b ho) hQ D s.da (h w hb))
        obtain ⟨a1, rfl, hb1, hK⟩ := h'
        have s' := s.step (Nat.lt_trans hin hj0) hiA hrl hb1
        exact ⟨.inl (up_iff.2 s'.cw), ih σ D β a1 w' w' _ _ (by simp only [List.length_cons] at hf; omega) s' hB' (Below.refl _ _) hK⟩
    | (k + 3, i) :: σ, hf, hB, h =>
      simp only [schedFG, Bool.and_eq_true] at hB
      obtain ⟨⟨⟨_, hk⟩, _⟩, _⟩ := hB
      simp at hk


/-- THE LAW: new variables A, and several stores. -/
theorem wp_region_FG {id : Nat} {a : Act} {w : World} {l : List Oper} (j0 : Nat) (A : List Nat) (z : Nat → Obj) (σ τ : List (Nat × Nat)) (hm : P.follows .mixedOrders = true)
    (hB : (Region.noSelect l.toArray && decide (σ.length + A.length + τ.length = l.length) && decide (j0 < l.length) && floatB l.toArray j0 A && (A.all fun i => Region.waitsFor .any l.toArray j0 i) &&
      schedFG .any l.toArray j0 τ σ ((List.range l.length).map (fun i => A.contains i)).toArray) = true)
    (hQ : ∀ c a d v w, Q (.panic c) (Act.put a d v) w ↔ Q (.panic c) a w)
    (hAl : ∀ i ∈ A, ∀ oi, l[i]? = some oi → ∀ ρ w, (execOp ρ oi).run P w = .ok (.value (ptrTo w.heap.size)) (w.alloc (z i)))
    (h : wpFG P l.toArray w Q (fun a w' => ∀ w1, Below w'.heap.size w' w1 → Below w.heap.size w w1 → ∀ β, Good w z β A w1 → wpG P l.toArray (fun w' => ∃ u : UpTo w.heap.size w, w' = u.w) Q τ (puts l.toArray β A a) w1) σ a w.drew) : (Code.region id l.toArray true).wp P Q a w := by
  simp only [Bool.and_eq_true, decide_eq_true_eq] at hB
  obtain ⟨⟨⟨⟨⟨hsel, hlen⟩, hj⟩, hfl⟩, hw⟩, hs⟩ := hB
  have ok := floatB_ok hfl
  have hls : ∀ j, ((List.range l.length).map (fun i => A.contains i)).toArray.getD j false = true ↔ j ∈ A ∧ j < l.length := by
    intro j
    by_cases hj : j < l.length
    · simp [hj]
    · simp [hj]
  have s0 : FlSt .any l.toArray l.toArray.size A w z ((List.range l.length).map (fun i => A.contains i)).toArray (Array.replicate l.toArray.size false) [] (fun _ => 0) w.drew := by
    refine ⟨by simp, by simp, fun j hj => (by rw [getD_replicate_false] at hj; cases hj), fun j hj hA => absurd ((hls j).1 hj).1 hA, fun j _ => ?_, fun i hi => ?_, HeadInv.none, List.nodup_nil, fun i hi => (by cases hi), (Below.refl _ _).drew, fun i hi => (by cases hi), fun i hi => (by cases hi)⟩
    · rw [getD_replicate_false]; simp
    · obtain ⟨_, oi, hoi, _⟩ := ok.at_ i hi
      have := (Array.getElem?_eq_some_iff.1 hoi).1
      exact (hls i).2 ⟨hi, by simpa using this⟩
  have H := floatG_main (τ := τ) hsel hQ (by simpa using hj) ok (fun i hi => List.all_eq_true.1 hw i hi) (fun i hi oi ho => hAl i hi oi (by simpa using ho)) _ σ [] (fun _ => 0) a w.drew w.drew _ _ rfl s0 hs (Below.refl _ _) h
  refine wp_region_any hm ?_
  have := wpAny_of_HS (g := 0) (fun listed a' w' hL => (⟨hL.1, hL.2⟩ : wpAny P .any l.toArray Q 0 listed a' w')) _ _ _ _ H
  have e : σ.length + (A.length - ([] : List Nat).length) + τ.length + 0 = l.toArray.size := by simp; omega
  rw [e] at this
  exact this

/-- two new variables, several stores -/
theorem wp_region_FG2 {id : Nat} {a : Act} {w : World} {l : List Oper} (j0 i j : Nat) (σ τ : List (Nat × Nat)) {o o' : Oper} {d d' : Tmp} {t t' : TypeId} {c c' : Array Value} (hm : P.follows .mixedOrders = true)
    (hB : (Region.noSelect l.toArray && decide (σ.length + [i, j].length + τ.length = l.length) && decide (j0 < l.length) && floatB l.toArray j0 [i, j] && ([i, j].all fun i => Region.waitsFor .any l.toArray j0 i) &&
      schedFG .any l.toArray j0 τ σ ((List.range l.length).map (fun k => [i, j].contains k)).toArray) = true)
    (hQ : ∀ c a d v w, Q (.panic c) (Act.put a d v) w ↔ Q (.panic c) a w) (ho : l[i]? = some o) (hop : o.op = .alloc t) (hd : o.dst = some d) (hr : AllocRuns P t c)
    (ho' : l[j]? = some o') (hop' : o'.op = .alloc t') (hd' : o'.dst = some d') (hr' : AllocRuns P t' c') (hij : (i == j) = false)
    (h : wpFG P l.toArray w Q (fun a w' => ∀ w1, Below w'.heap.size w' w1 → Below w.heap.size w w1 → ∀ b b', b ≠ b' → w.heap.size ≤ b → w1.heap[b]? = some (.cells c t) → w.heap.size ≤ b' → w1.heap[b']? = some (.cells c' t') →
      wpG P l.toArray (fun w' => ∃ u : UpTo w.heap.size w, w' = u.w) Q τ ((a.put (some d') (ptrTo b')).put (some d) (ptrTo b)) w1) σ a w.drew) :
    (Code.region id l.toArray true).wp P Q a w := by
  have hij : i ≠ j := by simpa using hij
  refine wp_region_FG j0 [i, j] (fun k => if k = i then .cells c t else .cells c' t') σ τ hm hB hQ (fun k hk oi hoi ρ w => ?_) (wpFG_mono (fun a w' h' w1 hb1 hb2 β hg => ?_) _ _ _ h)
  · rcases List.mem_cons.1 hk with rfl | hk
    · obtain rfl : o = oi := Option.some.inj (ho.symm.trans hoi)
      rw [if_pos rfl]; exact alloc_of hr o hop ρ w
    · obtain rfl : k = j := by simpa using hk
      obtain rfl : o' = oi := Option.some.inj (ho'.symm.trans hoi)
      rw [if_neg (Ne.symm hij)]; exact alloc_of hr' o' hop' ρ w
  · have h1 := hg.1 i (by simp)
    have h2 := hg.1 j (by simp)
    simp only [if_pos] at h1
    simp only [if_neg (Ne.symm hij)] at h2
    have e : puts l.toArray β [i, j] a = (a.put (some d') (ptrTo (β j))).put (some d) (ptrTo (β i)) := by
      show (a.put (dstOf l.toArray j) _).put (dstOf l.toArray i) _ = _
      simp [dstOf, ho, hd, ho', hd']
    rw [e]
    exact h' w1 hb1 hb2 _ _ (hg.2 i (by simp) j (by simp) hij) h1.1 h1.2 h2.1 h2.2

theorem wp_region_FG4 {id : Nat} {a : Act} {w : World} {l : List Oper} (j0 i j k m : Nat) (σ τ : List (Nat × Nat)) {o1 o2 o3 o4 : Oper} {d1 d2 d3 d4 : Tmp} {t : TypeId} {c : Array Value} (hm : P.follows .mixedOrders = true)
    (hB : (Region.noSelect l.toArray && decide (σ.length + [i, j, k, m].length + τ.length = l.length) && decide (j0 < l.length) && floatB l.toArray j0 [i, j, k, m] && ([i, j, k, m].all fun i => Region.waitsFor .any l.toArray j0 i) &&
      schedFG .any l.toArray j0 τ σ ((List.range l.length).map (fun n => [i, j, k, m].contains n)).toArray) = true)
    (hQ : ∀ c a d v w, Q (.panic c) (Act.put a d v) w ↔ Q (.panic c) a w) (hr : AllocRuns P t c) (hdist : (i == j || i == k || i == m || j == k || j == m || k == m) = false)
    (h1 : l[i]? = some o1) (p1 : o1.op = .alloc t) (e1 : o1.dst = some d1) (h2 : l[j]? = some o2) (p2 : o2.op = .alloc t) (e2 : o2.dst = some d2)
    (h3 : l[k]? = some o3) (p3 : o3.op = .alloc t) (e3 : o3.dst = some d3) (h4 : l[m]? = some o4) (p4 : o4.op = .alloc t) (e4 : o4.dst = some d4)
    (h : wpFG P l.toArray w Q (fun a w' => ∀ w1, Below w'.heap.size w' w1 → Below w.heap.size w w1 → ∀ b1 b2 b3 b4, (b1 ≠ b2 ∧ b1 ≠ b3 ∧ b1 ≠ b4 ∧ b2 ≠ b3 ∧ b2 ≠ b4 ∧ b3 ≠ b4) →
      (w.heap.size ≤ b1 ∧ w1.heap[b1]? = some (.cells c t)) → (w.heap.size ≤ b2 ∧ w1.heap[b2]? = some (.cells c t)) → (w.heap.size ≤ b3 ∧ w1.heap[b3]? = some (.cells c t)) → (w.heap.size ≤ b4 ∧ w1.heap[b4]? = some (.cells c t)) →
      wpG P l.toArray (fun w' => ∃ u : UpTo w.heap.size w, w' = u.w) Q τ ((((a.put (some d4) (ptrTo b4)).put (some d3) (ptrTo b3)).put (some d2) (ptrTo b2)).put (some d1) (ptrTo b1)) w1) σ a w.drew) :
    (Code.region id l.toArray true).wp P Q a w := by
  simp only [Bool.or_eq_false_iff, beq_eq_false_iff_ne] at hdist
  obtain ⟨⟨⟨⟨⟨n12, n13⟩, n14⟩, n23⟩, n24⟩, n34⟩ := hdist
  refine wp_region_FG j0 [i, j, k, m] (fun _ => .cells c t) σ τ hm hB hQ (fun n hn oi hoi ρ w => ?_) (wpFG_mono (fun a w' h' w1 hb1 hb2 β hg => ?_) _ _ _ h)
  · rcases List.mem_cons.1 hn with rfl | hn
    · obtain rfl : o1 = oi := Option.some.inj (h1.symm.trans hoi)
      exact alloc_of hr o1 p1 ρ w
    · rcases List.mem_cons.1 hn with rfl | hn
      · obtain rfl : o2 = oi := Option.some.inj (h2.symm.trans hoi)
        exact alloc_of hr o2 p2 ρ w
      · rcases List.mem_cons.1 hn with rfl | hn
        · obtain rfl : o3 = oi := Option.some.inj (h3.symm.trans hoi)
          exact alloc_of hr o3 p3 ρ w
        · obtain rfl : n = m := by simpa using hn
          obtain rfl : o4 = oi := Option.some.inj (h4.symm.trans hoi)
          exact alloc_of hr o4 p4 ρ w
  · have g1 := hg.1 i (by simp)
    have g2 := hg.1 j (by simp)
    have g3 := hg.1 k (by simp)
    have g4 := hg.1 m (by simp)
    have e : puts l.toArray β [i, j, k, m] a = (((a.put (some d4) (ptrTo (β m))).put (some d3) (ptrTo (β k))).put (some d2) (ptrTo (β j))).put (some d1) (ptrTo (β i)) := by
      show (((a.put (dstOf l.toArray m) _).put (dstOf l.toArray k) _).put (dstOf l.toArray j) _).put (dstOf l.toArray i) _ = _
      simp [dstOf, h1, e1, h2, e2, h3, e3, h4, e4]
    rw [e]
    exact h' w1 hb1 hb2 _ _ _ _ ⟨hg.2 i (by simp) j (by simp) n12, hg.2 i (by simp) k (by simp) n13, hg.2 i (by simp) m (by simp) n14, hg.2 j (by simp) k (by simp) n23, hg.2 j (by simp) m (by simp) n24, hg.2 k (by simp) m (by simp) n34⟩ g1 g2 g3 g4
end
end Go.Proofs.YtcfiemeknocgjaaDoor.Far
