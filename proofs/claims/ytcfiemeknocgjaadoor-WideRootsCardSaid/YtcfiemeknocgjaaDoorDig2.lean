/- Plain arithmetic: a number's bits, gathered into digits of 15 bits; the product of two numbers, digit by digit. Conditions: none. -/
import Derived.Test.YtcfiemeknocgjaaDoorNum2
import Derived.Test.YtcfiemeknocgjaaDoorDig
namespace Go.Proofs.YtcfiemeknocgjaaDoor

/-- the number of some words -/
def uval : List Int → Int
  | [] => 0
  | d :: t => d + 18446744073709551616 * uval t
def WordsOk (ws : List Int) : Prop := ∀ d ∈ ws, Wd d
theorem uval_bd {ws : List Int} (h : WordsOk ws) : 0 ≤ uval ws ∧ uval ws < 2 ^ (64 * ws.length) := by
  induction ws with
  | nil => simp [uval]
  | cons d t ih =>
    have h1 := ih fun x hx => h x (List.mem_cons_of_mem _ hx)
    obtain ⟨h2, h3⟩ := h d (List.mem_cons_self ..)
    have e : (2 : Int) ^ (64 * (d :: t).length) = 18446744073709551616 * 2 ^ (64 * t.length) := by
      rw [List.length_cons, Nat.mul_add, Int.pow_add, Int.mul_comm]; rfl
    rw [e, uval]; omega
theorem p2_pos (n : Nat) : (0 : Int) < 2 ^ n := Int.pow_pos (by decide)
theorem uval_bit {ws : List Int} (h : WordsOk ws) (i : Nat) : ws.getD (i / 64) 0 / 2 ^ (i % 64) % 2 = uval ws / 2 ^ i % 2 := by
  induction ws generalizing i with
  | nil => simp [uval]
  | cons d t ih =>
    obtain ⟨h2, h3⟩ := h d (List.mem_cons_self ..)
    rcases Nat.lt_or_ge i 64 with hi | hi
    · have e1 : i / 64 = 0 := by omega
      have e2 : i % 64 = i := by omega
      rw [e1, e2, uval]
      have e3 : (18446744073709551616 : Int) * uval t = 2 ^ i * (2 * (2 ^ (63 - i) * uval t)) := by
        have : (18446744073709551616 : Int) = 2 ^ i * 2 ^ 1 * 2 ^ (63 - i) := by
          rw [← Int.pow_add, ← Int.pow_add, show i + 1 + (63 - i) = 64 by omega]; rfl
        rw [this]; simp only [Int.mul_assoc, Int.pow_succ, Int.pow_zero, Int.one_mul]
      rw [e3, Int.add_mul_ediv_left _ _ (Int.ne_of_gt (p2_pos i)), Int.add_mul_emod_self_left]
      rfl
    · obtain ⟨k, rfl⟩ : ∃ k, i = 64 + k := ⟨i - 64, by omega⟩
      have e1 : (64 + k) / 64 = k / 64 + 1 := by omega
      have e2 : (64 + k) % 64 = k % 64 := by omega
      rw [e1, e2, uval]
      have e3 : (d + 18446744073709551616 * uval t) / 2 ^ (64 + k) = uval t / 2 ^ k := by
        rw [← ediv_pow]
        have e4 : (d + 18446744073709551616 * uval t) / 2 ^ 64 = uval t := by
          have : (2 : Int) ^ 64 = 18446744073709551616 := rfl
          rw [this]; omega
        rw [e4]
      rw [e3]
      exact ih (fun x hx => h x (List.mem_cons_of_mem _ hx)) k

theorem P15_two (n : Nat) : P15 n = 2 ^ (15 * n) := by
  induction n with
  | zero => rfl
  | succ n ih => rw [P15_succ, ih, Nat.mul_add, Int.pow_add, Int.mul_comm]; rfl
theorem mod_succ (x : Int) (i : Nat) : x % 2 ^ (i + 1) = x % 2 ^ i + x / 2 ^ i % 2 * 2 ^ i := by
  have h1 := Int.emod_add_mul_ediv x (2 ^ i)
  have h2 := Int.emod_add_mul_ediv (x / 2 ^ i) 2
  have p := p2_pos i
  have r0 := Int.emod_nonneg x (Int.ne_of_gt p)
  have r1 := Int.emod_lt_of_pos x p
  have t0 : 0 ≤ x / 2 ^ i % 2 := Int.emod_nonneg _ (by decide)
  have t1 : x / 2 ^ i % 2 < 2 := Int.emod_lt_of_pos _ (by decide)
  have e : (2 : Int) ^ (i + 1) = 2 ^ i * 2 := Int.pow_succ ..
  have b0 : 0 ≤ x / 2 ^ i % 2 * 2 ^ i := Int.mul_nonneg t0 (Int.le_of_lt p)
  have b1 : x / 2 ^ i % 2 * 2 ^ i ≤ 1 * 2 ^ i := Int.mul_le_mul_of_nonneg_right (by omega) (Int.le_of_lt p)
  refine (div_unique (q := x / 2 ^ i / 2) ?_ (by omega) (by omega)).2
  have e5 : (2 : Int) ^ (i + 1) * (x / 2 ^ i / 2) = 2 ^ i * (2 * (x / 2 ^ i / 2)) := by rw [e, Int.mul_assoc]
  have e6 : 2 ^ i * (x / 2 ^ i) = 2 ^ i * (x / 2 ^ i % 2) + 2 ^ i * (2 * (x / 2 ^ i / 2)) := by rw [← Int.mul_add, h2]
  have e7 : x / 2 ^ i % 2 * 2 ^ i = 2 ^ i * (x / 2 ^ i % 2) := Int.mul_comm ..
  omega

/-- the first i bits of N, as digits and what is gathered for the next one -/
structure Gat (N : Int) (i m : Nat) (ds : List Int) (r : Int) : Prop where
  ok : DigOk ds
  pos : i = 15 * ds.length + m
  sum : dval ds + P15 ds.length * r = N % 2 ^ i
  lo : 0 ≤ r
  hi : r < 2 ^ m
theorem Gat.zero (N : Int) : Gat N 0 0 [] 0 := ⟨DigOk.nil, rfl, by simp [dval], by decide, by decide⟩
theorem Gat.bit {N : Int} {i m : Nat} {ds : List Int} {r b : Int} (h : Gat N i m ds r) (hb : b = N / 2 ^ i % 2) :
    dval ds + P15 ds.length * (r + b * 2 ^ m) = N % 2 ^ (i + 1) ∧ 0 ≤ r + b * 2 ^ m ∧ r + b * 2 ^ m < 2 ^ (m + 1) := by
  have p := p2_pos m
  have t0 : 0 ≤ b := hb ▸ Int.emod_nonneg _ (by decide)
  have t1 : b < 2 := hb ▸ Int.emod_lt_of_pos _ (by decide)
  have b0 : 0 ≤ b * 2 ^ m := Int.mul_nonneg t0 (Int.le_of_lt p)
  have b1 : b * 2 ^ m ≤ 1 * 2 ^ m := Int.mul_le_mul_of_nonneg_right (by omega) (Int.le_of_lt p)
  have e : (2 : Int) ^ (m + 1) = 2 ^ m * 2 := Int.pow_succ ..
  have := h.lo; have := h.hi
  refine ⟨?_, by omega, by omega⟩
  rw [mod_succ, ← hb, ← h.sum, Int.mul_add]
  have e2 : (2 : Int) ^ i = P15 ds.length * 2 ^ m := by rw [P15_two, ← Int.pow_add, ← h.pos]
  rw [e2]
  have e3 : b * (P15 ds.length * 2 ^ m) = P15 ds.length * (b * 2 ^ m) := Int.mul_left_comm ..
  omega
theorem Gat.on {N : Int} {i m : Nat} {ds : List Int} {r b : Int} (h : Gat N i m ds r) (hb : b = N / 2 ^ i % 2) : Gat N (i + 1) (m + 1) ds (r + b * 2 ^ m) := by
  obtain ⟨h1, h2, h3⟩ := h.bit hb
  exact ⟨h.ok, by have := h.pos; omega, h1, h2, h3⟩
theorem Gat.next {N : Int} {i : Nat} {ds : List Int} {r b : Int} (h : Gat N i 14 ds r) (hb : b = N / 2 ^ i % 2) : Gat N (i + 1) 0 (ds ++ [r + b * 2 ^ 14]) 0 := by
  obtain ⟨h1, h2, h3⟩ := h.bit hb
  have h3' : r + b * 2 ^ 14 < 32768 := h3
  refine ⟨h.ok.append (DigOk.one ⟨h2, h3'⟩), ?_, ?_, by decide, by decide⟩
  · have := h.pos; rw [List.length_append, List.length_singleton]; omega
  · rw [Int.mul_zero, Int.add_zero, dval_append, ← h1]; simp [dval]
theorem Gat.done {N : Int} {i m : Nat} {ds : List Int} {r : Int} (h : Gat N i m ds r) (hm : m ≤ 14) (h0 : 0 ≤ N) (h1 : N < 2 ^ i) : DigOk (ds ++ [r]) ∧ dval (ds ++ [r]) = N := by
  have e : (2 : Int) ^ m ≤ 2 ^ 14 := by
    have := p2_pos (14 - m); have p := p2_pos m
    have e : (2 : Int) ^ 14 = 2 ^ m * 2 ^ (14 - m) := by rw [← Int.pow_add, show m + (14 - m) = 14 by omega]
    have : (2 : Int) ^ m * 1 ≤ 2 ^ m * 2 ^ (14 - m) := Int.mul_le_mul_of_nonneg_left (by omega) (by omega)
    omega
  have e14 : (2 : Int) ^ 14 = 16384 := rfl
  have := h.lo; have := h.hi
  refine ⟨h.ok.append (DigOk.one ⟨by omega, by omega⟩), ?_⟩
  have := h.sum
  rw [Int.emod_eq_of_lt h0 h1] at this
  rw [dval_append, ← this]; simp [dval]

theorem dval_set {ds : List Int} {j : Nat} (hj : j < ds.length) (v : Int) : dval (ds.set j v) = dval ds + P15 j * (v - ds.getD j 0) := by
  induction ds generalizing j with
  | nil => cases hj
  | cons d t ih =>
    cases j with
    | zero => simp [dval, P15_0]; omega
    | succ j =>
      have hj' : j < t.length := by simpa using hj
      rw [List.set_cons_succ, dval, dval, ih hj', P15_succ, List.getD_cons_succ, Int.mul_add, Int.mul_assoc]; omega
theorem DigOk.set {ds : List Int} (h : DigOk ds) {v : Int} (hv : 0 ≤ v ∧ v < 32768) (j : Nat) : DigOk (ds.set j v) := fun x hx => by
  rcases List.mem_or_eq_of_mem_set hx with h' | h'
  · exact h x h'
  · rw [h']; exact hv
theorem getD_set_ne {ds : List Int} {i j : Nat} (h : i ≠ j) (v : Int) : (ds.set i v).getD j 0 = ds.getD j 0 := by
  simp [List.getD, List.getElem?_set_ne h]
theorem dval_take_succ' (ds : List Int) (k : Nat) : dval (ds.take (k + 1)) = dval (ds.take k) + P15 k * ds.getD k 0 := by
  rcases Nat.lt_or_ge k ds.length with h | h
  · rw [List.take_succ_eq_append_getElem h, dval_append, List.length_take, Nat.min_eq_left (by omega), getD_in' h]
    simp [dval]
  · rw [List.take_of_length_le (by omega), List.take_of_length_le h, getD_out h]; simp

/-- the product so far: all of the first i digits, and of the next one as many as k of the other number's -/
structure Prd (xs ys : List Int) (n i k : Nat) (out : List Int) (c : Int) : Prop where
  ok : DigOk out
  len : out.length = n
  sum : dval out + P15 (i + k) * c = dval (xs.take i) * dval ys + P15 i * (xs.getD i 0 * dval (ys.take k))
  far : ∀ j, i + ys.length ≤ j → out.getD j 0 = 0
  lo : 0 ≤ c
  hi : c ≤ 32767
theorem Prd.start {xs ys : List Int} {n i : Nat} {out : List Int} (h1 : DigOk out) (h2 : out.length = n) (h3 : dval out = dval (xs.take i) * dval ys) (h4 : ∀ j, i + ys.length ≤ j → out.getD j 0 = 0) : Prd xs ys n i 0 out 0 :=
  ⟨h1, h2, by rw [h3]; simp [dval], h4, by decide, by decide⟩
theorem prd_n {a x y c : Int} (ha : 0 ≤ a ∧ a < 32768) (hx : 0 ≤ x ∧ x < 32768) (hy : 0 ≤ y ∧ y < 32768) (hc : 0 ≤ c ∧ c ≤ 32767) :
    0 ≤ x * y ∧ x * y ≤ 1073676289 ∧ 0 ≤ (a + x * y + c) / 32768 ∧ (a + x * y + c) / 32768 ≤ 32767 := by
  have h1 : 0 ≤ x * y := Int.mul_nonneg hx.1 hy.1
  have h2 : x * y ≤ 32767 * 32767 := Int.mul_le_mul (by omega) (by omega) hy.1 (by decide)
  omega
theorem Prd.step {xs ys : List Int} {n i k : Nat} {out : List Int} {c x y a : Int} (h : Prd xs ys n i k out c) (dx : DigOk xs) (dy : DigOk ys) (hk : k < ys.length) (hn : i + ys.length < n)
    (hx : x = xs.getD i 0) (hy : y = ys.getD k 0) (ha : a = out.getD (i + k) 0) :
    Prd xs ys n i (k + 1) (out.set (i + k) ((a + x * y + c) % 32768)) ((a + x * y + c) / 32768) := by
  have b := prd_n (ha ▸ h.ok.get (i + k)) (hx ▸ dx.get i) (hy ▸ dy.get k) ⟨h.lo, h.hi⟩
  refine ⟨h.ok.set (by omega) _, by rw [List.length_set]; exact h.len, ?_, fun j hj => ?_, b.2.2.1, b.2.2.2⟩
  · rw [dval_set (by rw [h.len]; omega), ← ha, dval_take_succ', ← hx, ← hy, ← Nat.add_assoc, P15_succ]
    have e1 := h.sum
    rw [← hx] at e1
    have e2 := Int.emod_add_mul_ediv (a + x * y + c) 32768
    have e3 : 32768 * P15 (i + k) * ((a + x * y + c) / 32768) = P15 (i + k) * (32768 * ((a + x * y + c) / 32768)) := by rw [Int.mul_comm 32768, Int.mul_assoc]
    have e4 : P15 (i + k) * ((a + x * y + c) % 32768 - a) + P15 (i + k) * (32768 * ((a + x * y + c) / 32768)) = P15 (i + k) * (x * y) + P15 (i + k) * c := by
      rw [← Int.mul_add, ← Int.mul_add]
      have e6 : (a + x * y + c) % 32768 - a + 32768 * ((a + x * y + c) / 32768) = x * y + c := by omega
      rw [e6]
    have e5 : P15 i * (x * (dval (ys.take k) + P15 k * y)) = P15 i * (x * dval (ys.take k)) + P15 (i + k) * (x * y) := by
      rw [Int.mul_add, Int.mul_add, P15_add, Int.mul_assoc (P15 i), Int.mul_left_comm x]
    rw [e5, e3]; omega
  · rw [getD_set_ne (by omega)]; exact h.far j hj
theorem Prd.row {xs ys : List Int} {n i : Nat} {out : List Int} {c a : Int} (h : Prd xs ys n i ys.length out c) (hn : i + ys.length < n) (ha : a = out.getD (i + ys.length) 0) :
    Prd xs ys n (i + 1) 0 (out.set (i + ys.length) (a + c)) 0 := by
  have a0 : a = 0 := ha.trans (h.far _ (Nat.le_refl _))
  subst a0
  rw [Int.zero_add]
  refine Prd.start (h.ok.set ⟨h.lo, by have := h.hi; omega⟩ _) (by rw [List.length_set]; exact h.len) ?_ fun j hj => ?_
  · rw [dval_set (by rw [h.len]; omega), ← ha, Int.sub_zero, h.sum, List.take_of_length_le (Nat.le_refl _), dval_take_succ', Int.add_mul, Int.mul_assoc]
  · rw [getD_set_ne (by omega)]; exact h.far j (by omega)
theorem dval_repl (n : Nat) : dval (List.replicate n 0) = 0 := by
  induction n with
  | zero => rfl
  | succ n ih => rw [List.replicate_succ, dval, ih]; rfl
theorem Prd.zero (xs ys : List Int) (n : Nat) : Prd xs ys n 0 0 (List.replicate n 0) 0 := by
  refine Prd.start (fun x hx => by rw [(List.mem_replicate.1 hx).2]; decide) (List.length_replicate ..) (by rw [dval_repl]; simp [dval]) fun j _ => ?_
  rcases Nat.lt_or_ge j n with h | h
  · rw [getD_in' (by rw [List.length_replicate]; exact h)]; simp
  · exact getD_out (by rw [List.length_replicate]; exact h)
theorem Prd.all {xs ys : List Int} {n : Nat} {out : List Int} {c : Int} (h : Prd xs ys n xs.length 0 out c) (hc : c = 0) : DigOk out ∧ dval out = dval xs * dval ys := by
  refine ⟨h.ok, ?_⟩
  have := h.sum
  rw [hc, Int.mul_zero, Int.add_zero, List.take_of_length_le (Nat.le_refl _)] at this
  rw [this]; simp [dval]
end Go.Proofs.YtcfiemeknocgjaaDoor
