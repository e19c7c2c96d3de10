/- A law on a region that draws its order: what only reads or computes may be taken first, what writes or calls comes in its forced order, a forced tail comes last. One walk serves every order. Conditions: closed checks on the region's edges. -/
import Derived.StillTail
import Derived.OrdersHeld
import Derived.Deep.Quiet
import Derived.Below
namespace Go.Proofs.YtcfiemeknocgjaaDoor
open Go Go.RowKit

section
variable {P : Program} {ops : Array Oper} {Q : Exit → Act → World → Prop} {md : Region.Mode} {C : World → Prop}

/-- whatever order is picked for f operations more, all of them ahead of number n; behind each one the class holds; then L -/
def wpAnyHL (P : Program) (md : Region.Mode) (ops : Array Oper) (Q : Exit → Act → World → Prop) (C : World → Prop) (n : Nat) (L : Array Bool → Act → World → Prop) : Nat → Array Bool → Act → World → Prop
  | 0, listed, a, w => L listed a w
  | f + 1, listed, a, w => Region.ready md ops listed ≠ [] ∧ ∀ i ∈ Region.ready md ops listed, i < n ∧ wpOp P ops Q i (fun a' w' => C w' ∧ wpAnyHL P md ops Q C n L f (listed.setIfInBounds i true) a' w') a w

theorem wpAny_of_headH {n g : Nat} {L : Array Bool → Act → World → Prop} (hL : ∀ listed a w, L listed a w → wpAny P md ops Q g listed a w) :
    ∀ (f : Nat) (listed : Array Bool) (a : Act) (w : World), wpAnyHL P md ops Q C n L f listed a w → wpAny P md ops Q (f + g) listed a w
  | 0, listed, a, w, h => by rw [Nat.zero_add]; exact hL _ _ _ h
  | f + 1, listed, a, w, h => by
    rw [show f + 1 + g = (f + g) + 1 by omega]
    exact ⟨fun h0 => absurd h0 h.1, fun i hi => wpOp_mono (fun a' w' h' => wpAny_of_headH hL f _ a' w' h'.2) (h.2 i hi).2⟩

theorem wpAnyHL_first {n i : Nat} {oi : Oper} {v : Value} {L : Array Bool → Act → World → Prop} (hi : ops[i]? = some oi) (hsel : ∀ (j : Nat) (o : Oper) cs b, ops[j]? = some o → o.op ≠ .select cs b)
    (hQ : ∀ c a d v w, Q (.panic c) (Act.put a d v) w → Q (.panic c) a w) (hin : i < n)
    (hlt : ∀ listed, HeadInv md ops n listed → listed.getD i true = false → ∀ j ∈ Region.ready md ops listed, j < n)
    (hdone : ∀ listed a w, L listed a w → ∀ j ∈ Region.ready md ops listed, n ≤ j) :
    ∀ (f : Nat) (listed : Array Bool) (a : Act) (w : World), HeadInv md ops n listed →
      (∀ j oj, ops[j]? = some oj → j ≠ i → listed.getD j true = false → (∀ e ∈ oj.after, Region.binds md e = true → e.on ≠ i) → oi.apart ops oj = true) →
      i ∈ Region.ready md ops listed → YieldsIf P ops C oi v a → C w →
      wpAnyHL P md ops Q C n L f (listed.setIfInBounds i true) (a.put oi.dst v) w → wpAnyHL P md ops Q C n L (f + 1) listed a w := by
  intro f
  induction f with
  | zero =>
    intro listed a w inv _ hr hy hC H
    have hun := (mem_ready.1 hr).1
    refine ⟨fun h => (by rw [h] at hr; cases hr), fun j hj => ?_⟩
    have hjn : j < n := hlt listed inv hun j hj
    refine ⟨hjn, ?_⟩
    by_cases hji : j = i
    · subst hji; exact hy.wpOp hi hC ⟨hC, H⟩
    · have := hdone _ _ _ H j (ready_mono hj hji)
      omega
  | succ f ih =>
    intro listed a w inv hfree hr hy hC H
    have hun := (mem_ready.1 hr).1
    refine ⟨fun h => (by rw [h] at hr; cases hr), fun j hj => ?_⟩
    have hjn : j < n := hlt listed inv hun j hj
    refine ⟨hjn, ?_⟩
    by_cases hji : j = i
    · subst hji; exact hy.wpOp hi hC ⟨hC, H⟩
    · have h1 := (H.2 j (ready_mono hj hji)).2
      obtain ⟨hjun, oj, hoj, hall⟩ := mem_ready.1 hj
      have hnot : ∀ e ∈ oj.after, Region.binds md e = true → e.on ≠ i := fun e he hb heq => by
        have h1 := hall e he hb
        rw [heq, getD_both hun] at h1
        cases h1
      have h2 := wpOp_putIf hoj (hfree j oj hoj hji hjun hnot) (fun cs b => hsel i oi cs b hi) (fun cs b => hsel j oj cs b hoj) (fun c a w => hQ c _ _ _ w) hy h1
      have hfree' : ∀ k ok, ops[k]? = some ok → k ≠ i → (listed.setIfInBounds j true).getD k true = false →
          (∀ e ∈ ok.after, Region.binds md e = true → e.on ≠ i) → oi.apart ops ok = true := fun k ok hk hki hun hno => by
        refine hfree k ok hk hki ?_ hno
        by_cases hjk : j = k
        · subst hjk; exact hjun
        · rw [getD_set_ne true hjk] at hun; exact hun
      refine wpOp_mono (fun a' w' h3 => ⟨h3.2.1, ih (listed.setIfInBounds j true) a' w' (inv.set hj hjn) hfree' (ready_mono hr (Ne.symm hji)) h3.1 h3.2.1 ?_⟩) h2
      rw [Array.setIfInBounds_comm _ _ hji]
      exact h3.2.2

/-- the walk by a schedule: (true, i): number i only reads or computes; (false, i): it comes up alone -/
def wpS (P : Program) (ops : Array Oper) (C : World → Prop) (Q : Exit → Act → World → Prop) (T : Act → World → Prop) : List (Bool × Nat) → Act → World → Prop
  | [], a, w => T a w
  | (true, i) :: σ, a, w => ∃ o v, ops[i]? = some o ∧ YieldsIf P ops C o v a ∧ wpS P ops C Q T σ (a.put o.dst v) w
  | (false, i) :: σ, a, w => wpOp P ops Q i (fun a' w' => C w' ∧ wpS P ops C Q T σ a' w') a w

/-- does the schedule fit the edges? -/
def schedB (md : Region.Mode) (ops : Array Oper) (n : Nat) : List (Bool × Nat) → Array Bool → Bool
  | [], listed => Region.seqB md ops (ops.size - n) n listed
  | (true, i) :: σ, listed => decide (i < n) && (Region.ready md ops listed).contains i && Region.free md ops listed i && schedB md ops n σ (listed.setIfInBounds i true)
  | (false, i) :: σ, listed => decide (i < n) && decide (Region.ready md ops listed = [i]) && schedB md ops n σ (listed.setIfInBounds i true)

/-- no operation from n on may come up ahead of one below n -/
def headB (md : Region.Mode) (ops : Array Oper) (n : Nat) : Bool :=
  decide (n = ops.size) || (decide (n < ops.size) && Region.sinkB md ops n && Region.chainB md ops n)

theorem headB_lt {n : Nat} (h : headB md ops n = true) : ∀ listed, HeadInv md ops n listed → ∀ i, i < n → listed.getD i true = false → ∀ j ∈ Region.ready md ops listed, j < n := by
  intro listed inv i hin hun j hj
  simp only [headB, Bool.or_eq_true, Bool.and_eq_true, decide_eq_true_eq] at h
  rcases h with h | ⟨⟨hn, hs⟩, hc⟩
  · obtain ⟨_, o, ho, _⟩ := mem_ready.1 hj
    have := (Array.getElem?_eq_some_iff.1 ho).1
    omega
  · rcases Nat.lt_or_ge j n with h | h
    · exact h
    · exact absurd hj (tail_waits hs hc hn inv _ i rfl hin hun j h)

theorem wpAnyHL_of_sched {n : Nat} {T : Act → World → Prop} (hsel : Region.noSelect ops = true) (hh : headB md ops n = true) (hQ : ∀ c a d v w, Q (.panic c) (Act.put a d v) w → Q (.panic c) a w) :
    ∀ (σ : List (Bool × Nat)) (listed : Array Bool) (a : Act) (w : World), HeadInv md ops n listed → schedB md ops n σ listed = true → C w → wpS P ops C Q T σ a w →
    wpAnyHL P md ops Q C n (fun listed' a' w' => Region.seqB md ops (ops.size - n) n listed' = true ∧ T a' w') σ.length listed a w
  | [], listed, a, w, _, hB, _, h => ⟨hB, h⟩
  | (true, i) :: σ, listed, a, w, inv, hB, hC, h => by
    simp only [schedB, Bool.and_eq_true, decide_eq_true_eq] at hB
    obtain ⟨⟨⟨hin, hr⟩, hf⟩, hB'⟩ := hB
    obtain ⟨o, v, ho, hy, hK⟩ := h
    have hr' : i ∈ Region.ready md ops listed := by simpa using hr
    exact wpAnyHL_first ho (Region.noSelect_spec hsel) hQ hin (fun l il hu => headB_lt hh l il i hin hu) (fun l a w hL => seqB_ready hL.1) σ.length listed a w inv
      (Region.free_spec ho hf) hr' hy hC (wpAnyHL_of_sched hsel hh hQ σ _ _ _ (inv.set hr' hin) hB' hC hK)
  | (false, i) :: σ, listed, a, w, inv, hB, hC, h => by
    simp only [schedB, Bool.and_eq_true, decide_eq_true_eq] at hB
    obtain ⟨⟨hin, hr⟩, hB'⟩ := hB
    refine ⟨by rw [hr]; simp, fun j hj => ?_⟩
    have hji : j = i := by rw [hr] at hj; simpa using hj
    subst hji
    exact ⟨hin, wpOp_mono (fun a' w' h' => ⟨h'.1, wpAnyHL_of_sched hsel hh hQ σ _ _ _ (inv.set hj hin) hB' h'.1 h'.2⟩) h⟩

/-- THE LAW: a region that draws its order, walked by a schedule of its first n operations, and then by the rest in order. -/
theorem wp_region_sched {id : Nat} {a : Act} {w : World} {l : List Oper} (n : Nat) (σ : List (Bool × Nat)) (C : World → Prop) (hm : P.follows .mixedOrders = true)
    (hB : (Region.noSelect l.toArray && headB .any l.toArray n && decide (σ.length = n) && decide (n ≤ l.length) && schedB .any l.toArray n σ (Array.replicate l.length false)) = true)
    (hQ : ∀ c a d v w, Q (.panic c) (Act.put a d v) w → Q (.panic c) a w) (hC : C { w with drawn := w.drawn + 1 })
    (h : wpS P l.toArray C Q (fun a' w' => wpList P l.toArray Q (l.drop n) a' w') σ a { w with drawn := w.drawn + 1 }) : (Code.region id l.toArray true).wp P Q a w := by
  simp only [Bool.and_eq_true, decide_eq_true_eq] at hB
  obtain ⟨⟨⟨⟨hsel, hh⟩, hlen⟩, hn⟩, hs⟩ := hB
  have hdl : (l.drop n).length = l.toArray.size - n := by simp
  have hrep : (Array.replicate l.length false) = Array.replicate l.toArray.size false := by simp
  rw [hrep] at hs
  have inv0 : HeadInv .any l.toArray n (Array.replicate l.toArray.size false) :=
    ⟨by simp, fun j oj _ hl => (by rw [getD_replicate_false] at hl; cases hl), fun t _ ht => getD_in (by simpa using ht) (getD_replicate_false _ _)⟩
  have H := wpAnyHL_of_sched (P := P) (C := C) hsel hh hQ σ _ a _ inv0 hs hC h
  refine wp_region_any hm ?_
  have := wpAny_of_headH (g := l.toArray.size - n) (fun listed a' w' hL => by
    have := wpAny_of_seq (md := .any) (Q' := Q) (l.drop n) n listed a' w' (fun j => by simp [List.getElem?_drop]) (by rw [hdl]; exact hL.1) hL.2
    rwa [hdl] at this) _ _ _ _ H
  have e : σ.length + (l.toArray.size - n) = l.toArray.size := by simp; omega
  rw [e] at this
  exact this

/-- the operations that yield a value, or fail: no call, no store -/
def plainOp : Op → Bool
  | .move _ | .assign _ | .pick _ _ _ | .build _ _ | .load _ _ | .binOp _ _ _ _ _ | .unOp _ _ _ | .convert _ _ _ | .sliceToArrayPointer _ _ | .slice _ _ _ _ _
  | .fieldAddr _ _ _ | .nilCheck _ | .field _ _ _ | .indexAddr _ _ _ | .index _ _ _ | .extract _ _ | .makeInterface _ _ => true
  | _ => false

theorem bind_value (s : Sem Value) (w w' : World) (n : Next) (h : (do pure (Next.value (← s)) : Sem Next).run P w = .ok n w') : ∃ v, n = .value v := by
  rw [Sem.run_bind] at h
  cases hs : s.run P w with
  | ok v w1 =>
    rw [hs] at h
    simp only [Result.andThen, Sem.run_pure] at h
    injection h with h1 h2
    exact ⟨v, h1.symm⟩
  | halt x w1 =>
    rw [hs] at h
    simp [Result.andThen] at h

theorem nil_value {o : Oper} {x : Operand} {ρ : Operand → Value} {w w' : World} {n : Next} (hp : o.op = .nilCheck x) (h : (execOp ρ o).run P w = .ok n w') : ∃ v, n = .value v := by
  unfold execOp at h
  rw [hp] at h
  dsimp only at h
  split at h
  · simp [runtimePanic] at h
  · simp [runtimePanic] at h
  · simp [runtimePanic] at h
  · split at h
    · simp [runtimePanic] at h
    · simp only [Sem.run_bind] at h
      cases h1 : Sem.run P program w with
      | halt y w1 => rw [h1] at h; simp [Result.andThen] at h
      | ok p w1 =>
        rw [h1] at h
        simp only [Result.andThen] at h
        cases h2 : Sem.run P (nilAhead (p.types.size + Made.depth) _ _ _) w1 with
        | halt y w2 => rw [h2] at h; simp at h
        | ok b w2 =>
          rw [h2] at h
          simp only at h
          split at h
          · simp [unsupported, Result.andThen] at h
          · exact ⟨_, ((Result.ok.inj h).1).symm⟩
    · exact ⟨_, ((Result.ok.inj h).1).symm⟩
  · exact ⟨_, ((Result.ok.inj h).1).symm⟩

theorem plain_value {o : Oper} {ρ : Operand → Value} {w w' : World} {n : Next} (hp : plainOp o.op = true) (h : (execOp ρ o).run P w = .ok n w') : ∃ v, n = .value v := by
  by_cases hnil : ∃ x, o.op = .nilCheck x
  · obtain ⟨x, hx⟩ := hnil
    exact nil_value hx h
  unfold execOp at h
  revert hp h hnil
  cases o.op <;> intro hp h hnil <;> first
    | (exact absurd ⟨_, rfl⟩ hnil)
    | (exact absurd (show false = true from hp) Bool.false_ne_true)
    | (rename_i x; exact ⟨_, ((Result.ok.inj (show Result.ok (Next.value (ρ x)) w = Result.ok n w' from h)).1).symm⟩)
    | (rename_i c x y
       have h' : ((asBool (ρ c)).bind fun b => Sem.pure (Next.value (if b = true then ρ x else ρ y))).run P w = .ok n w' := h
       have e : (((asBool (ρ c)).bind fun b => Sem.pure (if b = true then ρ x else ρ y)).bind fun v => Sem.pure (Next.value v)) = ((asBool (ρ c)).bind fun b => Sem.pure (Next.value (if b = true then ρ x else ρ y))) := by
         unfold asBool; cases ρ c <;> rfl
       rw [← e] at h'
       exact bind_value _ _ _ _ h')
    | (exact bind_value _ _ _ _ h)

theorem yields_of_quiet {o : Oper} {a : Act} {v : Value} (hp : plainOp o.op = true) (h : ∀ w, C w → o.quietAt P a C w v) : ∀ w, C w → (execOp a.eval o).run P w = .ok (.value v) w := by
  intro w hw
  have h3 := h w hw
  unfold Oper.quietAt at h3
  cases hr : (execOp a.eval o).run P w with
  | ok n w' =>
    rw [hr] at h3
    obtain ⟨u, rfl⟩ := plain_value hp hr
    simp only [Oper.quietUpon] at h3
    rw [h3.1, h3.2]
  | halt x w' => rw [hr] at h3; simp only [Oper.quietUpon] at h3

/-- one step: it only reads or computes: by the quiet walk of that one operation -/
theorem wpS_take {T : Act → World → Prop} {σ : List (Bool × Nat)} {i : Nat} {o : Oper} {a : Act} {w : World} (ho : ops[i]? = some o) (hp : plainOp o.op = true)
    (h : wpQuiet P ops C (fun a' => wpS P ops C Q T σ a' w) [o] a) : wpS P ops C Q T ((true, i) :: σ) a w := by
  unfold wpQuiet at h
  by_cases hw : Region.wanted o (yielded ops a.tmps) = true
  · rw [if_pos hw] at h
    obtain ⟨v, h1, h2⟩ := h
    exact ⟨o, v, ho, .inl ⟨hw, yields_of_quiet hp h1⟩, h2⟩
  · rw [if_neg hw] at h
    exact ⟨o, undef, ho, .inr ⟨by simpa using hw, rfl⟩, h⟩

theorem upon_then {o : Oper} {a : Act} {next K : Act → World → Prop} {r : Result Next} (h : o.upon P a next (Exit.then K Q) r) : o.upon P a next Q r := by
  cases r with
  | ok n w' =>
    cases n <;> first
      | exact h
      | (exact Calls.mono h (fun e w'' he => by cases e <;> exact he))
  | halt x w' => cases x <;> exact h

/-- one step: a call, a store, a new block -/
theorem wpS_do {T : Act → World → Prop} {σ : List (Bool × Nat)} {i : Nat} {o : Oper} {a : Act} {w : World} (ho : ops[i]? = some o)
    (h : ∀ K : Act → World → Prop, (∀ a' w', C w' → wpS P ops C Q T σ a' w' → K a' w') → wpList P ops (Exit.then K Q) [o] a w) : wpS P ops C Q T ((false, i) :: σ) a w := by
  have h := h (fun a' w' => C w' ∧ wpS P ops C Q T σ a' w') (fun a' w' h1 h2 => ⟨h1, h2⟩)
  show wpOp P ops Q i (fun a' w' => C w' ∧ wpS P ops C Q T σ a' w') a w
  unfold wpOp
  simp only [ho]
  unfold wpList at h
  by_cases hw : Region.wanted o (yielded ops a.tmps) = true
  · rw [if_pos hw] at h ⊢
    rcases h with h | ⟨h1, h2⟩
    · exact .inl (upon_then h)
    · exact .inr ⟨h1, h2⟩
  · rw [if_neg hw] at h ⊢
    exact h

theorem wpS_takeL {l : List Oper} {T : Act → World → Prop} {σ : List (Bool × Nat)} {i : Nat} {o : Oper} {a : Act} {w : World} (ho : l[i]? = some o) (hp : plainOp o.op = true)
    (h : wpQuiet P l.toArray C (fun a' => wpS P l.toArray C Q T σ a' w) [o] a) : wpS P l.toArray C Q T ((true, i) :: σ) a w := wpS_take (by simpa using ho) hp h
theorem wpS_doL {l : List Oper} {T : Act → World → Prop} {σ : List (Bool × Nat)} {i : Nat} {o : Oper} {a : Act} {w : World} (ho : l[i]? = some o)
    (h : ∀ K : Act → World → Prop, Hid (∀ a' w', C w' → wpS P l.toArray C Q T σ a' w' → K a' w') → wpList P l.toArray (Exit.then K Q) [o] a w) : wpS P l.toArray C Q T ((false, i) :: σ) a w := wpS_do (by simpa using ho) h

theorem wpS_nil {T : Act → World → Prop} {a : Act} {w : World} (h : T a w) : wpS P ops C Q T [] a w := h

/-- the worlds that have all blocks of W below number B -/
def UpTo (B : Nat) (W : World) : Type := { w' : World // Below B W w' }
def UpTo.w {B : Nat} {W : World} (u : UpTo B W) : World := u.1
theorem UpTo.below {B : Nat} {W : World} (u : UpTo B W) : Below B W u.w := u.2
@[go_sem] theorem UpTo.cell {B : Nat} {W : World} (u : UpTo B W) (b o : Nat) (h : b < B) : u.w.cell? ⟨b, o, none⟩ = W.cell? ⟨b, o, none⟩ := u.below.cell (p := ⟨b, o, none⟩) h
/-- the class of a region: all blocks of W below number B are as they were -/
def Up (B : Nat) (W : World) (w' : World) : Prop := ∃ u : UpTo B W, w' = u.w
theorem up_iff {B : Nat} {W w' : World} : Up B W w' ↔ Below B W w' := ⟨fun ⟨u, h⟩ => h ▸ u.below, fun h => ⟨⟨w', h⟩, rfl⟩⟩

/-- THE LAW at the class of a region. -/
theorem wp_region_up {id : Nat} {a : Act} {w : World} {l : List Oper} (B n : Nat) (σ : List (Bool × Nat)) (hm : P.follows .mixedOrders = true)
    (hB : (Region.noSelect l.toArray && headB .any l.toArray n && decide (σ.length = n) && decide (n ≤ l.length) && schedB .any l.toArray n σ (Array.replicate l.length false)) = true)
    (hQ : ∀ c a d v w, Q (.panic c) (Act.put a d v) w → Q (.panic c) a w)
    (h : wpS P l.toArray (fun w' => ∃ u : UpTo B w, w' = u.w) Q (fun a' w' => wpList P l.toArray Q (l.drop n) a' w') σ a w.drew) : (Code.region id l.toArray true).wp P Q a w :=
  wp_region_sched n σ _ hm hB hQ (up_iff.2 (Below.refl B w).drew) h

/-- w' is W, but for block c and for what is new -/
structure OutEx (c : Nat) (W w' : World) : Prop where
  os : w'.os = W.os
  tape : w'.tape = W.tape
  output : w'.output = W.output
  size : W.heap.size ≤ w'.heap.size
  block : ∀ k, k < W.heap.size → k ≠ c → w'.heap[k]? = W.heap[k]?
theorem OutEx.refl (c : Nat) (W : World) : OutEx c W W := ⟨rfl, rfl, rfl, Nat.le_refl _, fun _ _ _ => rfl⟩
theorem OutEx.of {c : Nat} {W w w' : World} (h : OutEx c W w) (hb : Below w.heap.size w w') : OutEx c W w' :=
  ⟨hb.os.trans h.os, hb.tape.trans h.tape, hb.output.trans h.output, Nat.le_trans h.size hb.size, fun k hk hc => (hb.block k (Nat.lt_of_lt_of_le hk h.size)).trans (h.block k hk hc)⟩
theorem OutEx.set {c : Nat} {W w : World} (h : OutEx c W w) (o : Nat) (s : Option Nat) (v : Value) : OutEx c W (w.setCell ⟨c, o, s⟩ v) :=
  ⟨h.os, h.tape, h.output, by simpa [World.setCell] using h.size, fun k hk hc => (Below.heap_setCell _ _ _ _ hc).trans (h.block k hk hc)⟩
theorem OutEx.below {c B : Nat} {W w : World} (h : OutEx c W w) (hB : B ≤ W.heap.size) (hc : B ≤ c) : Below B W w :=
  ⟨h.os, h.tape, h.output, h.size, fun k hk => h.block k (by omega) (by omega)⟩
def UpEx (c : Nat) (W : World) : Type := { w' : World // OutEx c W w' }
def UpEx.w {c : Nat} {W : World} (u : UpEx c W) : World := u.1
@[go_sem] theorem UpEx.cell {c : Nat} {W : World} (u : UpEx c W) (b o : Nat) (h : b < W.heap.size) (hc : b ≠ c) : u.w.cell? ⟨b, o, none⟩ = W.cell? ⟨b, o, none⟩ :=
  World.cell?_of_block (w := W) (u.2.block b h hc)
theorem upex {c : Nat} {W w' : World} (h : OutEx c W w') : ∃ u : UpEx c W, w' = u.w := ⟨⟨w', h⟩, rfl⟩

/-- THE LAW where the region writes to block c alone. -/
theorem wp_region_upx {id : Nat} {a : Act} {w : World} {l : List Oper} (c n : Nat) (σ : List (Bool × Nat)) (hm : P.follows .mixedOrders = true)
    (hB : (Region.noSelect l.toArray && headB .any l.toArray n && decide (σ.length = n) && decide (n ≤ l.length) && schedB .any l.toArray n σ (Array.replicate l.length false)) = true)
    (hQ : ∀ c a d v w, Q (.panic c) (Act.put a d v) w → Q (.panic c) a w)
    (h : wpS P l.toArray (fun w' => ∃ u : UpEx c w, w' = u.w) Q (fun a' w' => wpList P l.toArray Q (l.drop n) a' w') σ a w.drew) : (Code.region id l.toArray true).wp P Q a w :=
  wp_region_sched n σ _ hm hB hQ (upex ((OutEx.refl c w).of (Below.refl _ _).drew)) h

end
end Go.Proofs.YtcfiemeknocgjaaDoor
