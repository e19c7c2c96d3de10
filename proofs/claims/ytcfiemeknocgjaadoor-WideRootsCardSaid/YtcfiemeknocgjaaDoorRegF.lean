/- A law on a region that draws its order and makes new variables: the new variables may be made at any time; what follows is shown for whatever blocks they are. Conditions: closed checks on the region's edges. -/
import Derived.Test.YtcfiemeknocgjaaDoorReg
namespace Go.Proofs.YtcfiemeknocgjaaDoor
open Go Go.RowKit

section
variable {P : Program} {ops : Array Oper} {Q : Exit → Act → World → Prop} {md : Region.Mode} {W : World}

def dstOf (ops : Array Oper) (i : Nat) : Option Tmp := (ops[i]?).bind (·.dst)
def ptrTo (b : Nat) : Value := .pointer (some ⟨b, 0, none⟩)
/-- the slots of the new variables D, at the blocks β -/
def puts (ops : Array Oper) (β : Nat → Nat) (D : List Nat) (a : Act) : Act := D.foldr (fun i a => a.put (dstOf ops i) (ptrTo (β i))) a

/-- the blocks of the new variables D are there, new, and apart -/
def Good (W : World) (z : Nat → Obj) (β : Nat → Nat) (D : List Nat) (w : World) : Prop :=
  (∀ i ∈ D, W.heap.size ≤ β i ∧ w.heap[β i]? = some (z i)) ∧ (∀ i ∈ D, ∀ j ∈ D, i ≠ j → β i ≠ β j)

/-- the walk by a schedule, the world growing between its steps -/
def wpF (P : Program) (ops : Array Oper) (W : World) (Q : Exit → Act → World → Prop) (T : Act → World → Prop) : List (Bool × Nat) → Act → World → Prop
  | [], a, w => T a w
  | (true, i) :: σ, a, w => ∃ o v, ops[i]? = some o ∧ YieldsIf P ops (fun w' => ∃ u : UpTo W.heap.size W, w' = u.w) o v a ∧ wpF P ops W Q T σ (a.put o.dst v) w
  | (false, i) :: σ, a, w => ∀ w1, Below w.heap.size w w1 → wpOp P ops Q i (fun a' w' => Below w1.heap.size w1 w' ∧ wpF P ops W Q T σ a' w') a w1

/-- the checks on the new variables -/
def floatB (ops : Array Oper) (n : Nat) (A : List Nat) : Bool :=
  decide A.Nodup && A.all fun i => decide (i < n) && match ops[i]? with
    | none => false
    | some oi => oi.after.isEmpty && oi.guard.isNone && oi.dst.isSome &&
      (List.range n).all fun j => j == i || match ops[j]? with
        | none => false
        | some oj => !(oj.after.any fun e => e.on == i) && oi.apart ops oj && oj.apart ops oi

structure FloatOk (ops : Array Oper) (n : Nat) (A : List Nat) : Prop where
  nodup : A.Nodup
  at_ : ∀ i ∈ A, i < n ∧ ∃ oi, ops[i]? = some oi ∧ oi.after = #[] ∧ oi.guard = none ∧ (∃ d, oi.dst = some d) ∧
    ∀ j, j < n → j ≠ i → ∃ oj, ops[j]? = some oj ∧ (∀ e ∈ oj.after, e.on ≠ i) ∧ oi.apart ops oj = true ∧ oj.apart ops oi = true

theorem floatB_ok {n : Nat} {A : List Nat} (h : floatB ops n A = true) : FloatOk ops n A := by
  unfold floatB at h
  rw [Bool.and_eq_true, decide_eq_true_eq, List.all_eq_true] at h
  refine ⟨h.1, fun i hi => ?_⟩
  have h1 := h.2 i hi
  rw [Bool.and_eq_true, decide_eq_true_eq] at h1
  refine ⟨h1.1, ?_⟩
  cases ho : ops[i]? with
  | none => simp [ho] at h1
  | some oi =>
    simp only [ho] at h1
    obtain ⟨_, h2⟩ := h1
    rw [Bool.and_eq_true, Bool.and_eq_true, Bool.and_eq_true, List.all_eq_true] at h2
    obtain ⟨⟨⟨h3, h4⟩, h5⟩, h6⟩ := h2
    refine ⟨oi, rfl, by simpa using h3, by simpa using h4, Option.isSome_iff_exists.1 h5, fun j hj hji => ?_⟩
    have h7 := h6 j (List.mem_range.2 hj)
    cases hoj : ops[j]? with
    | none => simp [hoj, hji] at h7
    | some oj =>
      simp only [hoj, Bool.or_eq_true, beq_iff_eq, hji, false_or, Bool.and_eq_true, Bool.not_eq_true'] at h7
      obtain ⟨⟨h8, h9⟩, h10⟩ := h7
      refine ⟨oj, rfl, fun e he heq => ?_, h9, h10⟩
      have : oj.after.any (fun e => e.on == i) = true := Array.any_eq_true'.2 ⟨e, he, by simpa using heq⟩
      rw [this] at h8; cases h8

theorem yields_put {oi oj : Oper} {v u : Value} {a : Act} {C : World → Prop} (hap : oi.apart ops oj = true) (hsj : ∀ cs b, oj.op ≠ .select cs b) (hy : YieldsIf P ops C oj v a) : YieldsIf P ops C oj v (a.put oi.dst u) := by
  obtain ⟨h1, _, _⟩ := Oper.apart_spec hap
  exact hy.of_same (execOp_put oj hsj a oi.dst u h1) (wanted_put oj a oi.dst u h1)

/-- an operation, where the slot of a new variable is filled already -/
theorem wpOp_at_put {j : Nat} {oi oj : Oper} {v : Value} (hj : ops[j]? = some oj) (hap : oi.apart ops oj = true) (hsj : ∀ cs b, oj.op ≠ .select cs b)
    (hQ : ∀ c a d v w, Q (.panic c) (Act.put a d v) w ↔ Q (.panic c) a w) {K : Act → World → Prop} {a : Act} {w : World} (h : wpOp P ops Q j K a w) :
    wpOp P ops Q j (fun a' w' => ∃ a0, a' = a0.put oi.dst v ∧ K a0 w') (a.put oi.dst v) w := by
  obtain ⟨h1, h2, h3⟩ := Oper.apart_spec hap
  unfold wpOp at *
  simp only [hj] at *
  rw [wanted_put oj a oi.dst v h1]
  split
  · rename_i hw
    simp only [hw, if_true] at h
    rcases h with h | ⟨hasks, hlets⟩
    case inr => exact .inr ⟨by unfold Oper.asks at *; rw [execOp_put oj hsj a oi.dst v h1]; exact hasks, hlets⟩
    refine .inl ?_
    unfold Oper.wp at *
    rw [execOp_put oj hsj a oi.dst v h1]
    generalize (execOp a.eval oj).run P w = r at *
    cases r with
    | ok n w' =>
      cases n <;> simp only [Oper.upon] at h ⊢
      case value u => exact ⟨_, Act.put_comm a v u h2, h⟩
      case skip => exact ⟨_, Act.put_comm a v undef h2, h⟩
      case defer d => exact ⟨_, by rw [Act.put_defers, Act.put_comm _ v undef h2], h⟩
      case enter f args =>
        refine Calls.mono h fun e w'' he => ?_
        cases e with
        | returned u => exact ⟨_, Act.put_comm a v u h2, he⟩
        | panicked c => exact (hQ _ _ _ _ _).2 he
        | outgrown => exact he
      case row row args => exact Rows.mono h fun u w'' he => ⟨_, Act.put_comm a v u h2, he⟩
    | halt x w' =>
      cases x <;> simp only [Oper.upon] at h ⊢
      case panic u => exact (hQ _ _ _ _ _).2 h
  · rename_i hw
    simp only [hw] at h
    exact ⟨_, Act.put_comm a v undef h2, h⟩

theorem wpOp_at_puts {n j : Nat} {oj : Oper} {A : List Nat} (ok : FloatOk ops n A) (β : Nat → Nat) (hj : ops[j]? = some oj) (hjn : j < n) (hjA : j ∉ A) (hsj : ∀ cs b, oj.op ≠ .select cs b)
    (hQ : ∀ c a d v w, Q (.panic c) (Act.put a d v) w ↔ Q (.panic c) a w) {a : Act} {w : World} : ∀ (D : List Nat), (∀ i ∈ D, i ∈ A) → ∀ {K : Act → World → Prop}, wpOp P ops Q j K a w →
    wpOp P ops Q j (fun a' w' => ∃ a0, a' = puts ops β D a0 ∧ K a0 w') (puts ops β D a) w
  | [], _, K, h => wpOp_mono (fun a' w' h' => ⟨a', rfl, h'⟩) h
  | i :: D, hD, K, h => by
    have ih := wpOp_at_puts ok β hj hjn hjA hsj hQ D (fun k hk => hD k (List.mem_cons_of_mem _ hk)) h
    obtain ⟨_, oi, hoi, _, _, _, hall⟩ := ok.at_ i (hD i (List.mem_cons_self ..))
    obtain ⟨oj', hoj', _, hap, _⟩ := hall j hjn (fun e => hjA (e ▸ hD i (List.mem_cons_self ..)))
    obtain rfl : oj = oj' := Option.some.inj (hj.symm.trans hoj')
    have h1 := wpOp_at_put (v := ptrTo (β i)) hj hap hsj hQ ih
    have hd : dstOf ops i = oi.dst := by simp [dstOf, hoi]
    show wpOp P ops Q j _ ((puts ops β D a).put (dstOf ops i) (ptrTo (β i))) w
    rw [hd]
    refine wpOp_mono (fun a' w' ⟨a1, e1, a0, e0, hk⟩ => ⟨a0, ?_, hk⟩) h1
    rw [e1, e0]; show _ = (puts ops β D a0).put (dstOf ops i) (ptrTo (β i)); rw [hd]

theorem puts_put {n j : Nat} {oj : Oper} {A : List Nat} (ok : FloatOk ops n A) (β : Nat → Nat) (hj : ops[j]? = some oj) (hjn : j < n) (hjA : j ∉ A) (v : Value) (a : Act) : ∀ (D : List Nat), (∀ i ∈ D, i ∈ A) →
    (puts ops β D a).put oj.dst v = puts ops β D (a.put oj.dst v)
  | [], _ => rfl
  | i :: D, hD => by
    obtain ⟨_, oi, hoi, _, _, _, hall⟩ := ok.at_ i (hD i (List.mem_cons_self ..))
    obtain ⟨oj', hoj', _, hap, _⟩ := hall j hjn (fun e => hjA (e ▸ hD i (List.mem_cons_self ..)))
    obtain rfl : oj = oj' := Option.some.inj (hj.symm.trans hoj')
    have hd : dstOf ops i = oi.dst := by simp [dstOf, hoi]
    show ((puts ops β D a).put (dstOf ops i) (ptrTo (β i))).put oj.dst v = (puts ops β D (a.put oj.dst v)).put (dstOf ops i) (ptrTo (β i))
    rw [hd, Act.put_comm _ _ _ (Oper.apart_spec hap).2.1, puts_put ok β hj hjn hjA v a D (fun k hk => hD k (List.mem_cons_of_mem _ hk))]

theorem puts_yields {n j : Nat} {oj : Oper} {A : List Nat} {v : Value} {C : World → Prop} (ok : FloatOk ops n A) (β : Nat → Nat) (hj : ops[j]? = some oj) (hjn : j < n) (hjA : j ∉ A) (hsj : ∀ cs b, oj.op ≠ .select cs b) (a : Act)
    (hy : YieldsIf P ops C oj v a) : ∀ (D : List Nat), (∀ i ∈ D, i ∈ A) → YieldsIf P ops C oj v (puts ops β D a)
  | [], _ => hy
  | i :: D, hD => by
    obtain ⟨_, oi, hoi, _, _, _, hall⟩ := ok.at_ i (hD i (List.mem_cons_self ..))
    obtain ⟨oj', hoj', _, hap, _⟩ := hall j hjn (fun e => hjA (e ▸ hD i (List.mem_cons_self ..)))
    obtain rfl : oj = oj' := Option.some.inj (hj.symm.trans hoj')
    have hd : dstOf ops i = oi.dst := by simp [dstOf, hoi]
    show YieldsIf P ops C oj v ((puts ops β D a).put (dstOf ops i) (ptrTo (β i)))
    rw [hd]
    exact yields_put hap hsj (puts_yields ok β hj hjn hjA hsj a hy D (fun k hk => hD k (List.mem_cons_of_mem _ hk)))

theorem puts_congr {β β' : Nat → Nat} (a : Act) : ∀ (D : List Nat), (∀ i ∈ D, β i = β' i) → puts ops β D a = puts ops β' D a
  | [], _ => rfl
  | i :: D, h => by
    show (puts ops β D a).put _ _ = (puts ops β' D a).put _ _
    rw [h i (List.mem_cons_self ..), puts_congr a D (fun k hk => h k (List.mem_cons_of_mem _ hk))]

theorem puts_perm {n : Nat} {A : List Nat} (ok : FloatOk ops n A) (β : Nat → Nat) (a : Act) {D D' : List Nat} (hD : ∀ i ∈ D, i ∈ A) (p : D.Perm D') : puts ops β D a = puts ops β D' a := by
  unfold puts
  refine p.foldr_eq' (fun i hi j hj z => ?_) a
  by_cases hij : i = j
  · subst hij; rfl
  · obtain ⟨hin, oi, hoi, _, _, _, hall⟩ := ok.at_ i (hD i hi)
    obtain ⟨hjn, _⟩ := ok.at_ j (hD j hj)
    obtain ⟨oj, hoj, _, hap, _⟩ := hall j hjn (Ne.symm hij)
    have e1 : dstOf ops i = oi.dst := by simp [dstOf, hoi]
    have e2 : dstOf ops j = oj.dst := by simp [dstOf, hoj]
    rw [e1, e2]
    exact Act.put_comm _ _ _ (Oper.apart_spec hap).2.1


theorem nodup_sub : ∀ (D A : List Nat), D.Nodup → (∀ i ∈ D, i ∈ A) → ∃ R, A.Perm (D ++ R)
  | [], A, _, _ => ⟨A, List.Perm.refl _⟩
  | i :: D, A, hn, hs => by
    obtain ⟨hi, hn'⟩ := List.nodup_cons.1 hn
    obtain ⟨R, hR⟩ := nodup_sub D (A.erase i) hn' (fun k hk => (List.mem_erase_of_ne (show k ≠ i from fun e => hi (by rw [← e]; exact hk))).2 (hs k (List.mem_cons_of_mem _ hk)))
    exact ⟨R, (List.perm_cons_erase (hs i (List.mem_cons_self ..))).trans (hR.cons i)⟩
theorem nodup_le {D A : List Nat} (hn : D.Nodup) (hs : ∀ i ∈ D, i ∈ A) : D.length ≤ A.length := by
  obtain ⟨R, hR⟩ := nodup_sub D A hn hs
  rw [hR.length_eq, List.length_append]; omega
theorem nodup_perm {D A : List Nat} (hn : D.Nodup) (hs : ∀ i ∈ D, i ∈ A) (hl : A.length ≤ D.length) : D.Perm A := by
  obtain ⟨R, hR⟩ := nodup_sub D A hn hs
  have e := hR.length_eq
  rw [List.length_append] at e
  have : R = [] := List.length_eq_zero_iff.1 (by omega)
  rw [this, List.append_nil] at hR
  exact hR.symm

/-- where the walk stands: ls: what the schedule has listed, all new variables with it; listed: what has come up in truth; D: the new variables that are made -/
structure FlSt (md : Region.Mode) (ops : Array Oper) (n : Nat) (A : List Nat) (W : World) (z : Nat → Obj) (ls listed : Array Bool) (D : List Nat) (β : Nat → Nat) (w : World) : Prop where
  size : listed.size = ops.size
  lsz : ls.size = ops.size
  sub : ∀ j, listed.getD j false = true → ls.getD j false = true
  sup : ∀ j, ls.getD j false = true → j ∉ A → listed.getD j false = true
  flo : ∀ j ∈ A, (listed.getD j false = true ↔ j ∈ D)
  lsA : ∀ i ∈ A, ls.getD i false = true
  inv : HeadInv md ops n listed
  dn : D.Nodup
  da : ∀ i ∈ D, i ∈ A
  cw : Below W.heap.size W w
  good : Good W z β D w

theorem getD_tf {listed : Array Bool} {j : Nat} (hj : j < listed.size) : listed.getD j true = listed.getD j false := by simp [hj]

theorem getD_set {listed : Array Bool} {i j : Nat} (hi : i < listed.size) : (listed.setIfInBounds i true).getD j false = (decide (j = i) || listed.getD j false) := by
  by_cases h : j = i
  · subst h; simp [hi]
  · rw [getD_set_ne false (Ne.symm h)]; simp [h]

/-- who may come up in truth: who may by the schedule, or a new variable that isn't made yet -/
theorem FlSt.ready {n : Nat} {A : List Nat} {z : Nat → Obj} {ls listed : Array Bool} {D : List Nat} {β : Nat → Nat} {w : World} (s : FlSt md ops n A W z ls listed D β w) {j : Nat}
    (hj : j ∈ Region.ready md ops listed) : (j ∈ A ∧ j ∉ D) ∨ (j ∉ A ∧ j ∈ Region.ready md ops ls) := by
  obtain ⟨hun, o, ho, hall⟩ := mem_ready.1 hj
  have hjs : j < ops.size := (Array.getElem?_eq_some_iff.1 ho).1
  rw [getD_tf (by rw [s.size]; exact hjs)] at hun
  by_cases hA : j ∈ A
  · exact .inl ⟨hA, fun hD => by rw [(s.flo j hA).2 hD] at hun; cases hun⟩
  · refine .inr ⟨hA, mem_ready.2 ⟨?_, o, ho, fun e he hb => s.sub _ (hall e he hb)⟩⟩
    rw [getD_tf (by rw [s.lsz]; exact hjs)]
    cases h : ls.getD j false with
    | false => rfl
    | true => rw [s.sup j h hA] at hun; cases hun

theorem FlSt.ready_of {n n1 : Nat} {A : List Nat} {z : Nat → Obj} {ls listed : Array Bool} {D : List Nat} {β : Nat → Nat} {w : World} (ok : FloatOk ops n1 A) (s : FlSt md ops n A W z ls listed D β w) {j : Nat} (hjn : j < n1)
    (hj : j ∈ Region.ready md ops ls) : j ∉ A ∧ j ∈ Region.ready md ops listed := by
  obtain ⟨hun, o, ho, hall⟩ := mem_ready.1 hj
  have hjs : j < ops.size := (Array.getElem?_eq_some_iff.1 ho).1
  rw [getD_tf (by rw [s.lsz]; exact hjs)] at hun
  have hA : j ∉ A := fun hA => by rw [s.lsA j hA] at hun; cases hun
  refine ⟨hA, mem_ready.2 ⟨?_, o, ho, fun e he hb => s.sup _ (hall e he hb) (fun hin => ?_)⟩⟩
  · rw [getD_tf (by rw [s.size]; exact hjs)]
    cases h : listed.getD j false with
    | false => rfl
    | true => rw [s.sub j h] at hun; cases hun
  · obtain ⟨_, oi, _, _, _, _, hall'⟩ := ok.at_ _ hin
    obtain ⟨oj, hoj, hno, _, _⟩ := hall' j hjn (fun e' => hA (e' ▸ hin))
    obtain rfl : o = oj := Option.some.inj (ho.symm.trans hoj)
    exact hno e he rfl

theorem FlSt.pending {n n1 : Nat} {A : List Nat} {z : Nat → Obj} {ls listed : Array Bool} {D : List Nat} {β : Nat → Nat} {w : World} (ok : FloatOk ops n1 A) (s : FlSt md ops n A W z ls listed D β w) {j : Nat} (hA : j ∈ A) (hD : j ∉ D) :
    j ∈ Region.ready md ops listed := by
  obtain ⟨_, oi, hoi, ha, _⟩ := ok.at_ j hA
  have hjs : j < ops.size := (Array.getElem?_eq_some_iff.1 hoi).1
  refine mem_ready.2 ⟨?_, oi, hoi, fun e he => by rw [ha] at he; simp at he⟩
  rw [getD_tf (by rw [s.size]; exact hjs)]
  cases h : listed.getD j false with
  | false => rfl
  | true => exact absurd ((s.flo j hA).1 h) hD

theorem FlSt.step {n : Nat} {A : List Nat} {z : Nat → Obj} {ls listed : Array Bool} {D : List Nat} {β : Nat → Nat} {w w' : World} (s : FlSt md ops n A W z ls listed D β w) {j : Nat} (hjn : j < n) (hA : j ∉ A)
    (hr : j ∈ Region.ready md ops listed) (hb : Below w.heap.size w w') : FlSt md ops n A W z (ls.setIfInBounds j true) (listed.setIfInBounds j true) D β w' := by
  obtain ⟨_, o, ho, _⟩ := mem_ready.1 hr
  have hjs : j < ops.size := (Array.getElem?_eq_some_iff.1 ho).1
  have h1 : ∀ k, (listed.setIfInBounds j true).getD k false = (decide (k = j) || listed.getD k false) := fun k => getD_set (by rw [s.size]; exact hjs)
  have h2 : ∀ k, (ls.setIfInBounds j true).getD k false = (decide (k = j) || ls.getD k false) := fun k => getD_set (by rw [s.lsz]; exact hjs)
  refine ⟨by simp [s.size], by simp [s.lsz], fun k hk => ?_, fun k hk hkA => ?_, fun k hk => ?_, fun k hk => ?_, s.inv.set hr hjn, s.dn, s.da, s.cw.trans (hb.mono s.cw.size), ?_⟩
  · rw [h1, Bool.or_eq_true] at hk; rw [h2, Bool.or_eq_true]; exact hk.imp id (s.sub k)
  · rw [h2, Bool.or_eq_true] at hk; rw [h1, Bool.or_eq_true]; exact hk.imp id (fun h => s.sup k h hkA)
  · rw [h1]
    have : k ≠ j := fun e => hA (e ▸ hk)
    simp only [this, decide_false, Bool.false_or]; exact s.flo k hk
  · rw [h2, Bool.or_eq_true]; exact .inr (s.lsA k hk)
  · refine ⟨fun i hi => ⟨(s.good.1 i hi).1, ?_⟩, s.good.2⟩
    have h3 := (s.good.1 i hi).2
    rw [hb.block _ (Array.getElem?_eq_some_iff.1 h3).1]; exact h3

theorem FlSt.made {n n1 : Nat} {A : List Nat} {z : Nat → Obj} {ls listed : Array Bool} {D : List Nat} {β : Nat → Nat} {w : World} (ok : FloatOk ops n1 A) (hn1 : n1 ≤ n) (s : FlSt md ops n A W z ls listed D β w) {i : Nat} (hA : i ∈ A) (hD : i ∉ D) :
    FlSt md ops n A W z ls (listed.setIfInBounds i true) (i :: D) (fun k => if k = i then w.heap.size else β k) (w.alloc (z i)) := by
  have hr := s.pending ok hA hD
  obtain ⟨hin, oi, hoi, _⟩ := ok.at_ i hA
  have his : i < ops.size := (Array.getElem?_eq_some_iff.1 hoi).1
  have h1 : ∀ k, (listed.setIfInBounds i true).getD k false = (decide (k = i) || listed.getD k false) := fun k => getD_set (by rw [s.size]; exact his)
  have hnew : (w.alloc (z i)).heap[w.heap.size]? = some (z i) := by
    show (w.heap.push _)[w.heap.size]? = _
    rw [Array.getElem?_push, if_pos rfl]
  have hold : ∀ k, k < w.heap.size → (w.alloc (z i)).heap[k]? = w.heap[k]? := fun k hk => Below.heap_alloc _ _ _ hk
  have hlt : ∀ k ∈ D, β k < w.heap.size := fun k hk => (Array.getElem?_eq_some_iff.1 (s.good.1 k hk).2).1
  refine ⟨by simp [s.size], s.lsz, fun k hk => ?_, fun k hk hkA => ?_, fun k hk => ?_, s.lsA, s.inv.set hr (Nat.lt_of_lt_of_le hin hn1), List.nodup_cons.2 ⟨hD, s.dn⟩, fun k hk => ?_, s.cw.alloc s.cw.size _, fun k hk => ?_, fun k hk j hj hkj => ?_⟩
  · rw [h1, Bool.or_eq_true] at hk
    rcases hk with hk | hk
    · have : k = i := by simpa using hk
      rw [this]; exact s.lsA i hA
    · exact s.sub k hk
  · rw [h1, Bool.or_eq_true]; exact .inr (s.sup k hk hkA)
  · rw [h1, Bool.or_eq_true, List.mem_cons, s.flo k hk, decide_eq_true_eq]
  · rcases List.mem_cons.1 hk with rfl | hk
    · exact hA
    · exact s.da k hk
  · rcases List.mem_cons.1 hk with rfl | hk'
    · simp only [if_pos]; exact ⟨s.cw.size, hnew⟩
    · have hki : k ≠ i := fun e => hD (e ▸ hk')
      simp only [if_neg hki]
      exact ⟨(s.good.1 k hk').1, by rw [hold _ (hlt k hk')]; exact (s.good.1 k hk').2⟩
  · rcases List.mem_cons.1 hk with rfl | hk' <;> rcases List.mem_cons.1 hj with rfl | hj'
    · exact absurd rfl hkj
    · have hji : j ≠ k := fun e => hkj e.symm
      simp only [if_pos, if_neg hji]
      have := hlt j hj'; omega
    · have hki : k ≠ j := hkj
      simp only [if_pos, if_neg hki]
      have := hlt k hk'; omega
    · have hki : k ≠ i := fun e => hD (e ▸ hk')
      have hji : j ≠ i := fun e => hD (e ▸ hj')
      simp only [if_neg hki, if_neg hji]
      exact s.good.2 k hk' j hj' hkj

theorem made_step {n : Nat} {A : List Nat} {z : Nat → Obj} (ok : FloatOk ops n A) (hAl : ∀ i ∈ A, ∀ oi, ops[i]? = some oi → ∀ ρ w, (execOp ρ oi).run P w = .ok (.value (ptrTo w.heap.size)) (w.alloc (z i)))
    {D : List Nat} {β : Nat → Nat} {a0 : Act} {w : World} {i : Nat} (hA : i ∈ A) (hD : i ∉ D) {K : Act → World → Prop}
    (h : K (puts ops (fun k => if k = i then w.heap.size else β k) (i :: D) a0) (w.alloc (z i))) : wpOp P ops Q i K (puts ops β D a0) w := by
  obtain ⟨_, oi, hoi, _, hg, _, _⟩ := ok.at_ i hA
  unfold wpOp
  simp only [hoi]
  have hw : Region.wanted oi (yielded ops (puts ops β D a0).tmps) = true := by simp [Region.wanted, hg]
  rw [if_pos hw]
  refine .inl ?_
  unfold Oper.wp
  rw [hAl i hA oi hoi]
  show K ((puts ops β D a0).put oi.dst (ptrTo w.heap.size)) (w.alloc (z i))
  have e : puts ops (fun k => if k = i then w.heap.size else β k) (i :: D) a0 = (puts ops β D a0).put oi.dst (ptrTo w.heap.size) := by
    show (puts ops (fun k => if k = i then w.heap.size else β k) D a0).put (dstOf ops i) (ptrTo (if i = i then w.heap.size else β i)) = _
    rw [if_pos rfl, puts_congr (β' := β) a0 D (fun k hk => by rw [if_neg (fun e => hD (by rw [← e]; exact hk))])]
    simp [dstOf, hoi]
  rw [← e]; exact h

theorem float_main {n : Nat} {A : List Nat} {z : Nat → Obj} {T : Act → World → Prop} (hsel : Region.noSelect ops = true) (hh : headB md ops n = true) (hQ : ∀ c a d v w, Q (.panic c) (Act.put a d v) w ↔ Q (.panic c) a w)
    (ok : FloatOk ops n A) (hAl : ∀ i ∈ A, ∀ oi, ops[i]? = some oi → ∀ ρ w, (execOp ρ oi).run P w = .ok (.value (ptrTo w.heap.size)) (w.alloc (z i))) :
    ∀ (f : Nat) (σ : List (Bool × Nat)) (D : List Nat) (β : Nat → Nat) (a0 : Act) (w0 w : World) (ls listed : Array Bool), σ.length + (A.length - D.length) = f → FlSt md ops n A W z ls listed D β w →
      schedB md ops n σ ls = true → Below w0.heap.size w0 w → wpF P ops W Q (fun a w => ∀ w1, Below w.heap.size w w1 → Below W.heap.size W w1 → ∀ β, Good W z β A w1 → T (puts ops β A a) w1) σ a0 w0 →
      wpAnyHL P md ops Q (fun w' => ∃ u : UpTo W.heap.size W, w' = u.w) n (fun listed' a' w' => Region.seqB md ops (ops.size - n) n listed' = true ∧ T a' w') f listed (puts ops β D a0) w := by
  intro f
  induction f with
  | zero =>
    intro σ D β a0 w0 w ls listed hf s hB hb h
    have hσ : σ = [] := List.length_eq_zero_iff.1 (by omega)
    subst hσ
    have hlen : A.length ≤ D.length := by simp only [List.length_nil] at hf; omega
    have hp : D.Perm A := nodup_perm s.dn s.da hlen
    have e : listed = ls := by
      refine Array.ext (s.size.trans s.lsz.symm) fun i h1 h2 => ?_
      have e1 : listed.getD i false = listed[i] := by simp [h1]
      have e2 : ls.getD i false = ls[i] := by simp [h2]
      rw [← e1, ← e2, Bool.eq_iff_iff]
      refine ⟨s.sub i, fun hi => ?_⟩
      by_cases hA : i ∈ A
      · exact (s.flo i hA).2 (hp.mem_iff.2 hA)
      · exact s.sup i hi hA
    refine ⟨by rw [e]; exact hB, ?_⟩
    rw [puts_perm ok β a0 s.da hp]
    exact h w hb s.cw β ⟨fun i hi => s.good.1 i (hp.mem_iff.2 hi), fun i hi j hj => s.good.2 i (hp.mem_iff.2 hi) j (hp.mem_iff.2 hj)⟩
  | succ f ih =>
    intro σ D β a0 w0 w ls listed hf s hB hb h
    have allocs : ∀ i, i ∈ A → i ∉ D → i < n ∧ wpOp P ops Q i (fun a' w' => (∃ u : UpTo W.heap.size W, w' = u.w) ∧ wpAnyHL P md ops Q (fun w' => ∃ u : UpTo W.heap.size W, w' = u.w) n (fun listed' a' w' => Region.seqB md ops (ops.size - n) n listed' = true ∧ T a' w') f (listed.setIfInBounds i true) a' w') (puts ops β D a0) w := by
      intro i hA hD
      refine ⟨(ok.at_ i hA).1, made_step ok hAl hA hD ?_⟩
      have s' := s.made ok (Nat.le_refl _) hA hD
      refine ⟨up_iff.2 s'.cw, ih σ (i :: D) _ a0 w0 (w.alloc (z i)) ls _ ?_ s' hB (hb.alloc hb.size _) h⟩
      have hle : (i :: D).length ≤ A.length := nodup_le (List.nodup_cons.2 ⟨hD, s.dn⟩) s'.da
      simp only [List.length_cons] at hle ⊢
      omega
    match σ, hf, hB, h with
    | [], hf, hB, h =>
      have hpend : ∃ i, i ∈ A ∧ i ∉ D := by
        refine Classical.byContradiction fun hno => ?_
        have hsub : ∀ i ∈ A, i ∈ D := fun i hi => Classical.byContradiction fun h' => hno ⟨i, hi, h'⟩
        have := nodup_le ok.nodup hsub
        simp only [List.length_nil] at hf; omega
      obtain ⟨i, hA, hD⟩ := hpend
      have hri := s.pending ok hA hD
      refine ⟨fun h0 => (by rw [h0] at hri; cases hri), fun j hj => ?_⟩
      have hjn := headB_lt hh listed s.inv i (ok.at_ i hA).1 (mem_ready.1 hri).1 j hj
      rcases s.ready hj with ⟨h1, h2⟩ | ⟨_, h2⟩
      · exact allocs j h1 h2
      · have := seqB_ready hB j h2; omega
    | (true, i) :: σ, hf, hB, h =>
      simp only [schedB, Bool.and_eq_true, decide_eq_true_eq] at hB
      obtain ⟨⟨⟨hin, hr⟩, hfr⟩, hB'⟩ := hB
      obtain ⟨o, v, ho, hy, hK⟩ := h
      have hr' : i ∈ Region.ready md ops ls := by simpa using hr
      obtain ⟨hiA, hrl⟩ := s.ready_of ok hin hr'
      have hsj := Region.noSelect_spec hsel i o
      refine wpAnyHL_first ho (Region.noSelect_spec hsel) (fun c a d v w => (hQ c a d v w).1) hin (fun l il hu => headB_lt hh l il i hin hu) (fun l a w hL => seqB_ready hL.1) f listed _ w s.inv ?_ hrl
        (puts_yields ok β ho hin hiA (fun cs b => hsj cs b ho) a0 hy D s.da) (up_iff.2 s.cw) ?_
      · intro j oj hj hji hun hno
        by_cases hjA : j ∈ A
        · obtain ⟨_, oj', hoj', _, _, _, hall⟩ := ok.at_ j hjA
          obtain ⟨oi', hoi', _, _, hap⟩ := hall i hin (Ne.symm hji)
          obtain rfl : o = oi' := Option.some.inj (ho.symm.trans hoi')
          obtain rfl : oj = oj' := Option.some.inj (hj.symm.trans hoj')
          exact hap
        · have hjs : j < ops.size := (Array.getElem?_eq_some_iff.1 hj).1
          refine Region.free_spec ho hfr j oj hj hji ?_ hno
          rw [getD_tf (by rw [s.lsz]; exact hjs)]
          rw [getD_tf (by rw [s.size]; exact hjs)] at hun
          cases hl : ls.getD j false with
          | false => rfl
          | true => rw [s.sup j hl hjA] at hun; cases hun
      · rw [puts_put ok β ho hin hiA v a0 D s.da]
        exact ih σ D β _ w0 w _ _ (by simp only [List.length_cons] at hf; omega) (s.step hin hiA hrl (Below.refl _ _)) hB' hb hK
    | (false, i) :: σ, hf, hB, h =>
      simp only [schedB, Bool.and_eq_true, decide_eq_true_eq] at hB
      obtain ⟨⟨hin, hr⟩, hB'⟩ := hB
      obtain ⟨hiA, hrl⟩ := s.ready_of ok hin (by rw [hr]; simp : i ∈ Region.ready md ops ls)
      refine ⟨fun h0 => (by rw [h0] at hrl; cases hrl), fun j hj => ?_⟩
      rcases s.ready hj with ⟨h1, h2⟩ | ⟨_, h2⟩
      · exact allocs j h1 h2
      · have hji : j = i := by rw [hr] at h2; simpa using h2
        subst hji
        obtain ⟨_, o, ho, _⟩ := mem_ready.1 hrl
        have hsj := Region.noSelect_spec hsel j o
        refine ⟨hin, wpOp_mono (fun a' w' h' => ?_) (wpOp_at_puts ok β ho hin hiA (fun cs b => hsj cs b ho) hQ D s.da (h w hb))⟩
        obtain ⟨a1, rfl, hb1, hK⟩ := h'
        have s' := s.step hin hiA hrl hb1
        exact ⟨up_iff.2 s'.cw, ih σ D β a1 w' w' _ _ (by simp only [List.length_cons] at hf; omega) s' hB' (Below.refl _ _) hK⟩

/-- THE LAW: a region that draws its order and makes the new variables A (each of them the object z), walked by a schedule. -/
theorem wp_region_float {id : Nat} {a : Act} {w : World} {l : List Oper} (n : Nat) (A : List Nat) (z : Nat → Obj) (σ : List (Bool × Nat)) (hm : P.follows .mixedOrders = true)
    (hB : (Region.noSelect l.toArray && headB .any l.toArray n && decide (σ.length + A.length = n) && decide (n ≤ l.length) && floatB l.toArray n A &&
      schedB .any l.toArray n σ ((List.range l.length).map (fun i => A.contains i)).toArray) = true)
    (hQ : ∀ c a d v w, Q (.panic c) (Act.put a d v) w ↔ Q (.panic c) a w)
    (hAl : ∀ i ∈ A, ∀ oi, l[i]? = some oi → ∀ ρ w, (execOp ρ oi).run P w = .ok (.value (ptrTo w.heap.size)) (w.alloc (z i)))
    (h : wpF P l.toArray w Q (fun a w' => ∀ w1, Below w'.heap.size w' w1 → Below w.heap.size w w1 → ∀ β, Good w z β A w1 → wpList P l.toArray Q (l.drop n) (puts l.toArray β A a) w1) σ a w.drew) : (Code.region id l.toArray true).wp P Q a w := by
  simp only [Bool.and_eq_true, decide_eq_true_eq] at hB
  obtain ⟨⟨⟨⟨⟨hsel, hh⟩, hlen⟩, hn⟩, hfl⟩, hs⟩ := hB
  have ok := floatB_ok hfl
  have hdl : (l.drop n).length = l.toArray.size - n := by simp
  have hls : ∀ j, ((List.range l.length).map (fun i => A.contains i)).toArray.getD j false = true ↔ j ∈ A ∧ j < l.length := by
    intro j
    by_cases hj : j < l.length
    · simp [hj]
    · simp [hj]
  have s0 : FlSt .any l.toArray n A w z ((List.range l.length).map (fun i => A.contains i)).toArray (Array.replicate l.toArray.size false) [] (fun _ => 0) w.drew := by
    refine ⟨by simp, by simp, fun j hj => (by rw [getD_replicate_false] at hj; cases hj), fun j hj hA => absurd ((hls j).1 hj).1 hA, fun j _ => ?_, fun i hi => ?_, ?_, List.nodup_nil, fun i hi => (by cases hi), (Below.refl _ _).drew, fun i hi => (by cases hi), fun i hi => (by cases hi)⟩
    · rw [getD_replicate_false]; simp
    · obtain ⟨_, oi, hoi, _⟩ := ok.at_ i hi
      have := (Array.getElem?_eq_some_iff.1 hoi).1
      exact (hls i).2 ⟨hi, by simpa using this⟩
    · exact ⟨by simp, fun j oj _ hl => (by rw [getD_replicate_false] at hl; cases hl), fun t _ ht => getD_in (by simpa using ht) (getD_replicate_false _ _)⟩
  have H := float_main (T := fun a' w' => wpList P l.toArray Q (l.drop n) a' w') hsel hh hQ ok (fun i hi oi ho => hAl i hi oi (by simpa using ho)) _ σ [] (fun _ => 0) a w.drew w.drew _ _ rfl s0 hs (Below.refl _ _) h
  refine wp_region_any hm ?_
  have := wpAny_of_headH (g := l.toArray.size - n) (fun listed a' w' hL => by
    have := wpAny_of_seq (md := .any) (Q' := Q) (l.drop n) n listed a' w' (fun j => by simp [List.getElem?_drop]) (by rw [hdl]; exact hL.1) hL.2
    rwa [hdl] at this) _ _ _ _ H
  have e : σ.length + (A.length - ([] : List Nat).length) + (l.toArray.size - n) = l.toArray.size := by simp; omega
  rw [e] at this
  exact this

/-- one step: it only reads or computes -/
theorem wpF_take {l : List Oper} {T : Act → World → Prop} {σ : List (Bool × Nat)} {i : Nat} {o : Oper} {a : Act} {w : World} (ho : l[i]? = some o) (hp : plainOp o.op = true)
    (h : wpQuiet P l.toArray (fun w' => ∃ u : UpTo W.heap.size W, w' = u.w) (fun a' => wpF P l.toArray W Q T σ a' w) [o] a) : wpF P l.toArray W Q T ((true, i) :: σ) a w := by
  have ho' : l.toArray[i]? = some o := by simpa using ho
  unfold wpQuiet at h
  by_cases hw : Region.wanted o (yielded l.toArray a.tmps) = true
  · rw [if_pos hw] at h
    obtain ⟨v, h1, h2⟩ := h
    exact ⟨o, v, ho', .inl ⟨hw, yields_of_quiet hp h1⟩, h2⟩
  · rw [if_neg hw] at h
    exact ⟨o, undef, ho', .inr ⟨by simpa using hw, rfl⟩, h⟩

/-- one step: a call -/
theorem wpF_do {l : List Oper} {T : Act → World → Prop} {σ : List (Bool × Nat)} {i : Nat} {o : Oper} {a : Act} {w : World} (ho : l[i]? = some o)
    (h : ∀ w1, Below w.heap.size w w1 → ∀ K : Act → World → Prop, Hid (∀ a' w', Below w1.heap.size w1 w' → wpF P l.toArray W Q T σ a' w' → K a' w') → wpList P l.toArray (Exit.then K Q) [o] a w1) : wpF P l.toArray W Q T ((false, i) :: σ) a w := by
  intro w1 hb
  have h := h w1 hb (fun a' w' => Below w1.heap.size w1 w' ∧ wpF P l.toArray W Q T σ a' w') (fun a' w' h1 h2 => ⟨h1, h2⟩)
  have ho' : l.toArray[i]? = some o := by simpa using ho
  unfold wpOp
  simp only [ho']
  unfold wpList at h
  by_cases hw : Region.wanted o (yielded l.toArray a.tmps) = true
  · rw [if_pos hw] at h ⊢
    rcases h with h | ⟨h1, h2⟩
    · exact .inl (upon_then h)
    · exact .inr ⟨h1, h2⟩
  · rw [if_neg hw] at h ⊢
    exact h

theorem wpF_nil {T : Act → World → Prop} {a : Act} {w : World} (h : T a w) : wpF P ops W Q T [] a w := h


theorem wpF_mono {T T' : Act → World → Prop} (h : ∀ a w, T a w → T' a w) : ∀ (σ : List (Bool × Nat)) (a : Act) (w : World), wpF P ops W Q T σ a w → wpF P ops W Q T' σ a w
  | [], _, _, hh => h _ _ hh
  | (true, _) :: σ, _, _, ⟨o, v, h1, h2, h3⟩ => ⟨o, v, h1, h2, wpF_mono h σ _ _ h3⟩
  | (false, _) :: σ, _, _, hh => fun w1 hb => wpOp_mono (fun _ _ h' => ⟨h'.1, wpF_mono h σ _ _ h'.2⟩) (hh w1 hb)

/-- what a new variable of type t holds: the cells c -/
def AllocRuns (P : Program) (t : TypeId) (c : Array Value) : Prop := ∀ w, (Instr.alloc t true (.tuple #[])).run P w = .ok (ptrTo w.heap.size) (w.alloc (.cells c t))

theorem alloc_of {t : TypeId} {c : Array Value} (h : AllocRuns P t c) (o : Oper) (ho : o.op = .alloc t) (ρ : Operand → Value) (w : World) :
    (execOp ρ o).run P w = .ok (.value (ptrTo w.heap.size)) (w.alloc (.cells c t)) := by
  unfold execOp
  rw [ho]
  show (do pure (Next.value (← Instr.alloc t true (.tuple #[]))) : Sem Next).run P w = _
  rw [Sem.run_bind, h w]
  rfl

/-- one new variable -/
theorem wp_region_float1 {id : Nat} {a : Act} {w : World} {l : List Oper} (n i : Nat) (σ : List (Bool × Nat)) {o : Oper} {d : Tmp} {t : TypeId} {c : Array Value} (hm : P.follows .mixedOrders = true)
    (hB : (Region.noSelect l.toArray && headB .any l.toArray n && decide (σ.length + [i].length = n) && decide (n ≤ l.length) && floatB l.toArray n [i] &&
      schedB .any l.toArray n σ ((List.range l.length).map (fun k => [i].contains k)).toArray) = true)
    (hQ : ∀ c a d v w, Q (.panic c) (Act.put a d v) w ↔ Q (.panic c) a w) (ho : l[i]? = some o) (hop : o.op = .alloc t) (hd : o.dst = some d) (hr : AllocRuns P t c)
    (h : wpF P l.toArray w Q (fun a w' => ∀ w1, Below w'.heap.size w' w1 → Below w.heap.size w w1 → ∀ b, w.heap.size ≤ b → w1.heap[b]? = some (.cells c t) → wpList P l.toArray Q (l.drop n) (a.put (some d) (ptrTo b)) w1) σ a w.drew) :
    (Code.region id l.toArray true).wp P Q a w := by
  refine wp_region_float n [i] (fun _ => .cells c t) σ hm hB hQ (fun k hk oi hoi ρ w => ?_) (wpF_mono (fun a w' h' w1 hb1 hb2 β hg => ?_) _ _ _ h)
  · obtain rfl : k = i := by simpa using hk
    obtain rfl : o = oi := Option.some.inj (ho.symm.trans hoi)
    exact alloc_of hr o hop ρ w
  · have h1 := hg.1 i (List.mem_singleton.2 rfl)
    have e : puts l.toArray β [i] a = a.put (some d) (ptrTo (β i)) := by
      show a.put (dstOf l.toArray i) _ = _
      simp [dstOf, ho, hd]
    rw [e]
    exact h' w1 hb1 hb2 _ h1.1 h1.2

/-- two new variables -/
theorem wp_region_float2 {id : Nat} {a : Act} {w : World} {l : List Oper} (n i j : Nat) (σ : List (Bool × Nat)) {o o' : Oper} {d d' : Tmp} {t t' : TypeId} {c c' : Array Value} (hm : P.follows .mixedOrders = true)
    (hB : (Region.noSelect l.toArray && headB .any l.toArray n && decide (σ.length + [i, j].length = n) && decide (n ≤ l.length) && floatB l.toArray n [i, j] &&
      schedB .any l.toArray n σ ((List.range l.length).map (fun k => [i, j].contains k)).toArray) = true)
    (hQ : ∀ c a d v w, Q (.panic c) (Act.put a d v) w ↔ Q (.panic c) a w) (ho : l[i]? = some o) (hop : o.op = .alloc t) (hd : o.dst = some d) (hr : AllocRuns P t c)
    (ho' : l[j]? = some o') (hop' : o'.op = .alloc t') (hd' : o'.dst = some d') (hr' : AllocRuns P t' c') (hij : (i == j) = false)
    (h : wpF P l.toArray w Q (fun a w' => ∀ w1, Below w'.heap.size w' w1 → Below w.heap.size w w1 → ∀ b b', b ≠ b' → w.heap.size ≤ b → w1.heap[b]? = some (.cells c t) → w.heap.size ≤ b' → w1.heap[b']? = some (.cells c' t') →
      wpList P l.toArray Q (l.drop n) ((a.put (some d') (ptrTo b')).put (some d) (ptrTo b)) w1) σ a w.drew) :
    (Code.region id l.toArray true).wp P Q a w := by
  have hij : i ≠ j := by simpa using hij
  refine wp_region_float n [i, j] (fun k => if k = i then .cells c t else .cells c' t') σ hm hB hQ (fun k hk oi hoi ρ w => ?_) (wpF_mono (fun a w' h' w1 hb1 hb2 β hg => ?_) _ _ _ h)
  · rcases List.mem_cons.1 hk with rfl | hk
    · obtain rfl : o = oi := Option.some.inj (ho.symm.trans hoi)
      rw [if_pos rfl]; exact alloc_of hr o hop ρ w
    · obtain rfl : k = j := by simpa using hk
      obtain rfl : o' = oi := Option.some.inj (ho'.symm.trans hoi)
      rw [if_neg (Ne.symm hij)]; exact alloc_of hr' o' hop' ρ w
  · have h1 := hg.1 i (by simp)
    have h2 := hg.1 j (by simp)
    simp only [if_pos] at h1
    simp only [if_neg (Ne.symm hij)] at h2
    have e : puts l.toArray β [i, j] a = (a.put (some d') (ptrTo (β j))).put (some d) (ptrTo (β i)) := by
      show (a.put (dstOf l.toArray j) _).put (dstOf l.toArray i) _ = _
      simp [dstOf, ho, hd, ho', hd']
    rw [e]
    exact h' w1 hb1 hb2 _ _ (hg.2 i (by simp) j (by simp) hij) h1.1 h1.2 h2.1 h2.2

end
end Go.Proofs.YtcfiemeknocgjaaDoor
