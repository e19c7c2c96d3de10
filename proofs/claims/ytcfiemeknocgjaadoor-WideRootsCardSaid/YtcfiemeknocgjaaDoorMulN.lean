/- Plain arithmetic: the product of two numbers of four words, word by word. Conditions: none. -/
import Derived.Test.YtcfiemeknocgjaaDoorDig2
import Derived.Test.YtcfiemeknocgjaaDoorNum3
namespace Go.Proofs.YtcfiemeknocgjaaDoor

/-- 2^64 to the power of n -/
def P64 (n : Nat) : Int := 18446744073709551616 ^ n
theorem P64_0 : P64 0 = 1 := rfl
theorem P64_succ (n : Nat) : P64 (n + 1) = 18446744073709551616 * P64 n := by unfold P64; rw [Int.pow_succ, Int.mul_comm]
theorem P64_add (m n : Nat) : P64 (m + n) = P64 m * P64 n := by unfold P64; rw [Int.pow_add]

theorem uval_append (a b : List Int) : uval (a ++ b) = uval a + P64 a.length * uval b := by
  induction a with
  | nil => simp [uval, P64_0]
  | cons d t ih => rw [List.cons_append, uval, uval, ih, List.length_cons, P64_succ, Int.mul_add, Int.mul_assoc]; omega
theorem uval_take_succ (ds : List Int) (k : Nat) : uval (ds.take (k + 1)) = uval (ds.take k) + P64 k * ds.getD k 0 := by
  rcases Nat.lt_or_ge k ds.length with h | h
  · rw [List.take_succ_eq_append_getElem h, uval_append, List.length_take, Nat.min_eq_left (by omega), getD_in' h]
    simp [uval]
  · rw [List.take_of_length_le (by omega), List.take_of_length_le h, getD_out h]; simp
theorem uval_set {ds : List Int} {j : Nat} (hj : j < ds.length) (v : Int) : uval (ds.set j v) = uval ds + P64 j * (v - ds.getD j 0) := by
  induction ds generalizing j with
  | nil => cases hj
  | cons d t ih =>
    cases j with
    | zero => simp [uval, P64_0]; omega
    | succ j =>
      have hj' : j < t.length := by simpa using hj
      rw [List.set_cons_succ, uval, uval, ih hj', P64_succ, List.getD_cons_succ, Int.mul_add, Int.mul_assoc]; omega
theorem WordsOk.set {ds : List Int} (h : WordsOk ds) {v : Int} (hv : Wd v) (j : Nat) : WordsOk (ds.set j v) := fun x hx => by
  rcases List.mem_or_eq_of_mem_set hx with h' | h'
  · exact h x h'
  · rw [h']; exact hv
theorem WordsOk.get {ws : List Int} (h : WordsOk ws) (i : Nat) : Wd (ws.getD i 0) := by
  by_cases hi : i < ws.length
  · rw [getD_in' hi]; exact h _ (List.getElem_mem hi)
  · rw [getD_out (by omega)]; exact ⟨by decide, by decide⟩

/-- one step of the product: what the two sums with carry make of it -/
theorem mul_step {x y o c : Int} (hx : Wd x) (hy : Wd y) (ho : Wd o) (hc : Wd c) :
    Wd (x * y / 18446744073709551616) ∧ Wd (x * y % 18446744073709551616) ∧
    (0 ≤ (x * y % 18446744073709551616 + o) / 18446744073709551616 ∧ (x * y % 18446744073709551616 + o) / 18446744073709551616 ≤ 1) ∧ Wd ((x * y % 18446744073709551616 + o) % 18446744073709551616) ∧
    Wd (x * y / 18446744073709551616 + (x * y % 18446744073709551616 + o) / 18446744073709551616) ∧
    ((x * y % 18446744073709551616 + o) % 18446744073709551616 + c) % 18446744073709551616 = (x * y + o + c) % 18446744073709551616 ∧
    x * y / 18446744073709551616 + (x * y % 18446744073709551616 + o) / 18446744073709551616 + ((x * y % 18446744073709551616 + o) % 18446744073709551616 + c) / 18446744073709551616 = (x * y + o + c) / 18446744073709551616 ∧
    Wd ((x * y + o + c) / 18446744073709551616) ∧ Wd ((x * y + o + c) % 18446744073709551616) := by
  obtain ⟨x0, x1⟩ := hx
  obtain ⟨y0, y1⟩ := hy
  obtain ⟨o0, o1⟩ := ho
  obtain ⟨c0, c1⟩ := hc
  have h1 : 0 ≤ x * y := Int.mul_nonneg x0 y0
  have h2 : x * y ≤ 18446744073709551615 * 18446744073709551615 := Int.mul_le_mul (by omega) (by omega) y0 (by decide)
  generalize x * y = p at *
  have h3 : p ≤ 340282366920938463426481119284349108225 := h2
  refine ⟨⟨?_, ?_⟩, ⟨?_, ?_⟩, ⟨?_, ?_⟩, ⟨?_, ?_⟩, ⟨?_, ?_⟩, ?_, ?_, ⟨?_, ?_⟩, ⟨?_, ?_⟩⟩ <;> omega

/-- the product so far: all of the first i words, and of the next one as many as k of the other number's -/
structure Prw (xs ys : List Int) (n i k : Nat) (out : List Int) (c : Int) : Prop where
  ok : WordsOk out
  len : out.length = n
  sum : uval out + P64 (i + k) * c = uval (xs.take i) * uval ys + P64 i * (xs.getD i 0 * uval (ys.take k))
  far : ∀ j, i + ys.length ≤ j → out.getD j 0 = 0
  cw : Wd c
theorem Prw.start {xs ys : List Int} {n i : Nat} {out : List Int} (h1 : WordsOk out) (h2 : out.length = n) (h3 : uval out = uval (xs.take i) * uval ys) (h4 : ∀ j, i + ys.length ≤ j → out.getD j 0 = 0) : Prw xs ys n i 0 out 0 :=
  ⟨h1, h2, by rw [h3]; simp [uval], h4, by decide, by decide⟩
theorem Prw.step {xs ys : List Int} {n i k : Nat} {out : List Int} {c x y a : Int} (h : Prw xs ys n i k out c) (dx : WordsOk xs) (dy : WordsOk ys) (hk : k < ys.length) (hn : i + ys.length ≤ n)
    (hx : x = xs.getD i 0) (hy : y = ys.getD k 0) (ha : a = out.getD (i + k) 0) :
    Prw xs ys n i (k + 1) (out.set (i + k) ((x * y + a + c) % 18446744073709551616)) ((x * y + a + c) / 18446744073709551616) := by
  have b := mul_step (hx ▸ dx.get i) (hy ▸ dy.get k) (ha ▸ h.ok.get (i + k)) h.cw
  obtain ⟨_, _, _, _, _, _, _, b1, b2⟩ := b
  refine ⟨h.ok.set b2 _, by rw [List.length_set]; exact h.len, ?_, fun j hj => ?_, b1⟩
  · rw [uval_set (by rw [h.len]; omega), ← ha, uval_take_succ, ← hx, ← hy, ← Nat.add_assoc, P64_succ]
    have e1 := h.sum
    rw [← hx] at e1
    have e3 : 18446744073709551616 * P64 (i + k) * ((x * y + a + c) / 18446744073709551616) = P64 (i + k) * (18446744073709551616 * ((x * y + a + c) / 18446744073709551616)) := by rw [Int.mul_comm 18446744073709551616, Int.mul_assoc]
    have e4 : P64 (i + k) * ((x * y + a + c) % 18446744073709551616 - a) + P64 (i + k) * (18446744073709551616 * ((x * y + a + c) / 18446744073709551616)) = P64 (i + k) * (x * y) + P64 (i + k) * c := by
      rw [← Int.mul_add, ← Int.mul_add]
      have e6 : (x * y + a + c) % 18446744073709551616 - a + 18446744073709551616 * ((x * y + a + c) / 18446744073709551616) = x * y + c := by
        generalize x * y = p at *
        omega
      rw [e6]
    have e5 : P64 i * (x * (uval (ys.take k) + P64 k * y)) = P64 i * (x * uval (ys.take k)) + P64 (i + k) * (x * y) := by
      rw [Int.mul_add, Int.mul_add, P64_add, Int.mul_assoc (P64 i), Int.mul_left_comm x]
    rw [e5, e3]; omega
  · rw [getD_set_ne (by omega)]; exact h.far j hj
theorem Prw.row {xs ys : List Int} {n i : Nat} {out : List Int} {c : Int} (h : Prw xs ys n i ys.length out c) (hn : i + ys.length < n) :
    Prw xs ys n (i + 1) 0 (out.set (i + ys.length) c) 0 := by
  have a0 := h.far _ (Nat.le_refl _)
  refine Prw.start (h.ok.set h.cw _) (by rw [List.length_set]; exact h.len) ?_ fun j hj => ?_
  · rw [uval_set (by rw [h.len]; omega), a0, Int.sub_zero, h.sum, List.take_of_length_le (Nat.le_refl _), uval_take_succ, Int.add_mul, Int.mul_assoc]
  · rw [getD_set_ne (by omega)]; exact h.far j (by omega)
theorem uval_repl (n : Nat) : uval (List.replicate n 0) = 0 := by
  induction n with
  | zero => rfl
  | succ n ih => rw [List.replicate_succ, uval, ih]; rfl
theorem Prw.zero (xs ys : List Int) (n : Nat) : Prw xs ys n 0 0 (List.replicate n 0) 0 := by
  refine Prw.start (fun x hx => by rw [(List.mem_replicate.1 hx).2]; exact ⟨by decide, by decide⟩) (List.length_replicate ..) (by rw [uval_repl]; simp [uval]) fun j _ => ?_
  rcases Nat.lt_or_ge j n with h | h
  · rw [getD_in' (by rw [List.length_replicate]; exact h)]; simp
  · exact getD_out (by rw [List.length_replicate]; exact h)
theorem Prw.all {xs ys : List Int} {n : Nat} {out : List Int} {c : Int} (h : Prw xs ys n xs.length 0 out c) (hc : c = 0) : WordsOk out ∧ uval out = uval xs * uval ys := by
  refine ⟨h.ok, ?_⟩
  have := h.sum
  rw [hc, Int.mul_zero, Int.add_zero, List.take_of_length_le (Nat.le_refl _)] at this
  rw [this]; simp [uval]

/-- eight words: the four high ones are 0 just if the number is below 2^256; then the low ones are its words -/
theorem eight {o0 o1 o2 o3 o4 o5 o6 o7 p : Int} (h : WordsOk [o0, o1, o2, o3, o4, o5, o6, o7]) (hp : uval [o0, o1, o2, o3, o4, o5, o6, o7] = p) :
    eq4 o4 o5 o6 o7 0 0 0 0 = decide (p < b256) ∧ (p < b256 → o0 = wd0 p ∧ o1 = wd1 p ∧ o2 = wd2 p ∧ o3 = wd3 p) := by
  have g0 : Wd o0 := h _ (by simp)
  have g1 : Wd o1 := h _ (by simp)
  have g2 : Wd o2 := h _ (by simp)
  have g3 : Wd o3 := h _ (by simp)
  have g4 : Wd o4 := h _ (by simp)
  have g5 : Wd o5 := h _ (by simp)
  have g6 : Wd o6 := h _ (by simp)
  have g7 : Wd o7 := h _ (by simp)
  have e : p = un4 o0 o1 o2 o3 + b256 * un4 o4 o5 o6 o7 := by
    rw [← hp]; simp only [uval, un4, b64, b128, b192, b256]; omega
  have l := un4_bd g0 g1 g2 g3
  have k := un4_bd g4 g5 g6 g7
  have z : eq4 o4 o5 o6 o7 0 0 0 0 = decide (un4 o4 o5 o6 o7 = 0) := by
    obtain ⟨p4, q4⟩ := g4; obtain ⟨p5, q5⟩ := g5; obtain ⟨p6, q6⟩ := g6; obtain ⟨p7, q7⟩ := g7
    rw [Bool.eq_iff_iff, decide_eq_true_iff]
    unfold eq4 un4 b64 b128 b192
    simp only [Bool.and_eq_true, beq_iff_eq]
    constructor
    · rintro ⟨⟨⟨h0, h1⟩, h2⟩, h3⟩; omega
    · intro h; exact ⟨⟨⟨by omega, by omega⟩, by omega⟩, by omega⟩
  have hz : p < b256 ↔ un4 o4 o5 o6 o7 = 0 := by
    constructor
    · intro hlt
      rcases Int.lt_or_eq_of_le k.1 with h | h
      · have : b256 * 1 ≤ b256 * un4 o4 o5 o6 o7 := Int.mul_le_mul_of_nonneg_left (by omega) (by decide)
        omega
      · exact h.symm
    · intro h; rw [h] at e; omega
  refine ⟨by rw [z, Bool.eq_iff_iff, decide_eq_true_iff, decide_eq_true_iff, hz], fun hlt => ?_⟩
  have e2 : p = un4 o0 o1 o2 o3 := by rw [e, hz.1 hlt, Int.mul_zero, Int.add_zero]
  rw [e2]
  exact ⟨(wd0_un4 g0).symm, (wd1_un4 g0 g1).symm, (wd2_un4 g0 g1 g2).symm, (wd3_un4 g0 g1 g2 g3).symm⟩
end Go.Proofs.YtcfiemeknocgjaaDoor
