/- Plain arithmetic of digits of the base 2^15, the lowest first. Conditions: none. -/
import Derived.KernelRfl
namespace Go.Proofs.YtcfiemeknocgjaaDoor

/-- the number of a list of digits -/
def dval : List Int → Int
  | [] => 0
  | d :: t => d + 32768 * dval t
/-- digits -/
def DigOk (ds : List Int) : Prop := ∀ d ∈ ds, 0 ≤ d ∧ d < 32768
/-- no noughts at the end -/
def Norm (ds : List Int) : Prop := ds = [] ∨ ds.getD (ds.length - 1) 0 ≠ 0
/-- 32768^n -/
def P15 (n : Nat) : Int := 32768 ^ n
theorem P15_0 : P15 0 = 1 := rfl
theorem P15_succ (n : Nat) : P15 (n + 1) = 32768 * P15 n := by unfold P15; rw [Int.pow_succ, Int.mul_comm]
theorem P15_pos (n : Nat) : 0 < P15 n := Int.pow_pos (by decide)
theorem P15_add (m n : Nat) : P15 (m + n) = P15 m * P15 n := by unfold P15; rw [Int.pow_add]
theorem P15_le {m n : Nat} (h : m ≤ n) : P15 m ≤ P15 n := by
  obtain ⟨k, rfl⟩ : ∃ k, n = m + k := ⟨n - m, by omega⟩
  rw [P15_add]
  have h1 := P15_pos m; have h2 := P15_pos k
  have : P15 m * 1 ≤ P15 m * P15 k := Int.mul_le_mul_of_nonneg_left (by omega) (by omega)
  omega

theorem getD_in' {ds : List Int} {i : Nat} (h : i < ds.length) : ds.getD i 0 = ds[i] := by simp [h]
theorem getD_out {ds : List Int} {i : Nat} (h : ds.length ≤ i) : ds.getD i 0 = 0 := by simp [List.getElem?_eq_none h]

theorem DigOk.tail {d : Int} {t : List Int} (h : DigOk (d :: t)) : DigOk t := fun x hx => h x (List.mem_cons_of_mem _ hx)
theorem DigOk.take {ds : List Int} (h : DigOk ds) (n : Nat) : DigOk (ds.take n) := fun x hx => h x (List.mem_of_mem_take hx)
theorem DigOk.drop {ds : List Int} (h : DigOk ds) (n : Nat) : DigOk (ds.drop n) := fun x hx => h x (List.mem_of_mem_drop hx)
theorem DigOk.append {a b : List Int} (ha : DigOk a) (hb : DigOk b) : DigOk (a ++ b) := fun x hx => (List.mem_append.1 hx).elim (ha x) (hb x)
theorem DigOk.one {d : Int} (h : 0 ≤ d ∧ d < 32768) : DigOk [d] := fun x hx => by rw [List.mem_singleton.1 hx]; exact h
theorem DigOk.nil : DigOk [] := fun x hx => by cases hx
theorem DigOk.get {ds : List Int} (h : DigOk ds) (i : Nat) : 0 ≤ ds.getD i 0 ∧ ds.getD i 0 < 32768 := by
  by_cases hi : i < ds.length
  · rw [getD_in' hi]; exact h _ (List.getElem_mem hi)
  · rw [getD_out (by omega)]; omega

theorem dval_append (a b : List Int) : dval (a ++ b) = dval a + P15 a.length * dval b := by
  induction a with
  | nil => simp [dval, P15_0]
  | cons d t ih => rw [List.cons_append, dval, dval, ih, List.length_cons, P15_succ, Int.mul_add, Int.mul_assoc]; omega
theorem dval_bd {ds : List Int} (h : DigOk ds) : 0 ≤ dval ds ∧ dval ds < P15 ds.length := by
  induction ds with
  | nil => simp [dval, P15_0]
  | cons d t ih =>
    have h1 := ih h.tail
    have h2 := h d (List.mem_cons_self ..)
    rw [dval, List.length_cons, P15_succ]; omega
theorem dval_split (ds : List Int) {i : Nat} (h : i < ds.length) : dval ds = dval (ds.take i) + P15 i * (ds.getD i 0 + 32768 * dval (ds.drop (i + 1))) := by
  have e : ds = ds.take i ++ (ds.getD i 0 :: ds.drop (i + 1)) := by
    rw [getD_in' h, ← List.drop_eq_getElem_cons h, List.take_append_drop]
  conv => lhs; rw [e]
  rw [dval_append, List.length_take, Nat.min_eq_left (by omega)]; rfl
theorem dval_take_zero {ds : List Int} {n : Nat} (hn : n < ds.length) (h0 : ds.getD n 0 = 0) (h : dval (ds.take (n + 1)) = dval ds) : dval (ds.take n) = dval ds := by
  rw [← h, List.take_succ_eq_append_getElem hn, dval_append]
  rw [getD_in' hn] at h0
  rw [h0]; simp [dval]
theorem norm_lo {ds : List Int} (h : DigOk ds) (hn : Norm ds) (hne : ds ≠ []) : P15 (ds.length - 1) ≤ dval ds := by
  have hl : 0 < ds.length := List.length_pos_iff.2 hne
  rcases hn with hn | hn
  · exact absurd hn hne
  · have e := dval_split ds (i := ds.length - 1) (by omega)
    have h1 := h.get (ds.length - 1)
    have h2 := (dval_bd (h.take (ds.length - 1))).1
    have h3 : ds.drop (ds.length - 1 + 1) = [] := List.drop_eq_nil_of_le (by omega)
    rw [h3, dval, Int.mul_zero, Int.add_zero] at e
    have h4 := P15_pos (ds.length - 1)
    have h5 : P15 (ds.length - 1) * 1 ≤ P15 (ds.length - 1) * ds.getD (ds.length - 1) 0 := Int.mul_le_mul_of_nonneg_left (by omega) (by omega)
    omega
theorem norm_zero {ds : List Int} (h : DigOk ds) (hn : Norm ds) (hz : dval ds = 0) : ds = [] := by
  rcases Classical.em (ds = []) with h' | h'
  · exact h'
  · have h1 := norm_lo h hn h'
    have h2 := P15_pos (ds.length - 1)
    omega
/-- more digits, greater -/
theorem len_lt {a b : List Int} (ha : DigOk a) (hb : DigOk b) (nb : Norm b) (h : a.length < b.length) : dval a < dval b := by
  have h1 := (dval_bd ha).2
  have h2 := norm_lo hb nb (by intro e; rw [e] at h; cases h)
  have h3 := P15_le (show a.length ≤ b.length - 1 by omega)
  omega
/-- the first digit that differs decides -/
theorem dig_lt {a b : List Int} {i : Nat} (ha : DigOk a) (hb : DigOk b) (hi : i < a.length) (hl : a.length = b.length) (hd : a.drop (i + 1) = b.drop (i + 1)) (h : a.getD i 0 < b.getD i 0) : dval a < dval b := by
  rw [dval_split a hi, dval_split b (by omega : i < b.length), hd]
  have h1 := (dval_bd (ha.take i)).2
  rw [List.length_take, Nat.min_eq_left (by omega)] at h1
  have h2 := (dval_bd (hb.take i)).1
  have h3 := P15_pos i
  have h4 : P15 i * (a.getD i 0 + 32768 * dval (b.drop (i + 1)) + 1) ≤ P15 i * (b.getD i 0 + 32768 * dval (b.drop (i + 1))) := Int.mul_le_mul_of_nonneg_left (by omega) (by omega)
  rw [Int.mul_add _ _ 1, Int.mul_one] at h4
  omega
theorem drop_eq {a b : List Int} {i : Nat} (hi : i < a.length) (hl : a.length = b.length) (hd : a.drop (i + 1) = b.drop (i + 1)) (h : a.getD i 0 = b.getD i 0) : a.drop i = b.drop i := by
  rw [List.drop_eq_getElem_cons hi, List.drop_eq_getElem_cons (by omega : i < b.length), hd]
  rw [getD_in' hi, getD_in' (by omega : i < b.length)] at h
  rw [h]
/-- a number that is not too great has not too many digits -/
theorem norm_len {ds : List Int} (h : DigOk ds) (hn : Norm ds) {k : Nat} (hk : dval ds < P15 k) : ds.length ≤ k := by
  rcases Nat.lt_or_ge k ds.length with h' | h'
  · have h1 := norm_lo h hn (by intro e; rw [e] at h'; cases h')
    have h2 := P15_le (show k ≤ ds.length - 1 by omega)
    omega
  · exact h'
/-- what Cmp tells -/
def cmpI (x y : Int) : Int := if x < y then -1 else if x = y then 0 else 1
theorem cmpI_lt {x y : Int} (h : x < y) : cmpI x y = -1 := by unfold cmpI; rw [if_pos h]
theorem cmpI_eq (x : Int) : cmpI x x = 0 := by unfold cmpI; rw [if_neg (by omega), if_pos rfl]
theorem cmpI_gt {x y : Int} (h : y < x) : cmpI x y = 1 := by unfold cmpI; rw [if_neg (by omega), if_neg (by omega)]

end Go.Proofs.YtcfiemeknocgjaaDoor
