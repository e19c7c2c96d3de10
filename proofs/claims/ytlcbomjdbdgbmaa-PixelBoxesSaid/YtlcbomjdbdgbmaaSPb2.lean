/- My texts Bs5, Bs6, Bs7, AwB, Cr1, BsR, Px1, Cr2, Px2, AwN, Px3, joined: what the last one needs of them. Conditions: as each lemma says. -/
import Derived.Test.YtlcbomjdbdgbmaaSPb1
import Derived.KernelRfl
import Derived.StillTail
import Derived.OrdersHeld
import Derived.Deep.Quiet
import Derived.Below
import Derived.WalkKit
import Derived.Test.YtlcbomjdbdgbmaaProg
import Derived.WalkSpells
import Derived.StillTactics
import Derived.Laws.Pointers
import Derived.Deep.RegionHeld3
import Derived.RowKit3
import Derived.Deep.QuietTactic
import Derived.BigQuiet
import Derived.BigRegion
import Derived.Lib.Hide
import Derived.WalkSmall
import Derived.Laws.BitsAllLaws
import Derived.IntWalk
import Derived.Deep.OwnRows
import Derived.Deep.LoopGhost
import Derived.Shelf.Bits.Mul64
import Derived.Deep.WholeRow
import Derived.Laws.Rows
import Derived.ProofKit
import Derived.OpenShut
import Derived.ShutString
import Derived.ChangeOld
import Derived.Lib.SmallJoins
import Derived.Laws.IdiomArrays
namespace Go.Proofs.Ytlcbomjdbdgbmaa
open Go.RowKit

theorem below_a1 (w : World) (o1 : Obj) : Below w.heap.size w (w.alloc o1) := (Below.refl _ _).alloc (Nat.le_refl _) _
theorem below_a2 (w : World) (o1 o2 : Obj) : Below w.heap.size w ((w.alloc o1).alloc o2) := (below_a1 w o1).alloc (by simp) _
theorem below_a3 (w : World) (o1 o2 o3 : Obj) : Below w.heap.size w (((w.alloc o1).alloc o2).alloc o3) := (below_a2 w o1 o2).alloc (by simp; omega) _
end Go.Proofs.Ytlcbomjdbdgbmaa
namespace Go.Proofs.Ytlcbomjdbdgbmaa
open Go.RowKit
theorem GivesBig.mono {w : World} {n : Int} {L L' : Nat} (hl : L ≤ L') {e : Ending} {w' : World} (h : GivesBig w n L e w') : GivesBig w n L' e w' := by
  obtain ⟨v, h1, h2, h3⟩ := h
  exact ⟨v, h1, h2.mono hl, h3⟩
end Go.Proofs.Ytlcbomjdbdgbmaa
namespace Go.Proofs.Ytlcbomjdbdgbmaa
open Go.RowKit
end Go.Proofs.Ytlcbomjdbdgbmaa
namespace Go.Proofs.Ytlcbomjdbdgbmaa

/-- the number of some words -/
def uval : List Int → Int
  | [] => 0
  | d :: t => d + 18446744073709551616 * uval t
def WordsOk (ws : List Int) : Prop := ∀ d ∈ ws, Wd d
theorem p2_pos (n : Nat) : (0 : Int) < 2 ^ n := Int.pow_pos (by decide)
theorem P15_two (n : Nat) : P15 n = 2 ^ (15 * n) := by
  induction n with
  | zero => rfl
  | succ n ih => rw [P15_succ, ih, Nat.mul_add, Int.pow_add, Int.mul_comm]; rfl
theorem mod_succ (x : Int) (i : Nat) : x % 2 ^ (i + 1) = x % 2 ^ i + x / 2 ^ i % 2 * 2 ^ i := by
  have h1 := Int.emod_add_mul_ediv x (2 ^ i)
  have h2 := Int.emod_add_mul_ediv (x / 2 ^ i) 2
  have p := p2_pos i
  have r0 := Int.emod_nonneg x (Int.ne_of_gt p)
  have r1 := Int.emod_lt_of_pos x p
  have t0 : 0 ≤ x / 2 ^ i % 2 := Int.emod_nonneg _ (by decide)
  have t1 : x / 2 ^ i % 2 < 2 := Int.emod_lt_of_pos _ (by decide)
  have e : (2 : Int) ^ (i + 1) = 2 ^ i * 2 := Int.pow_succ ..
  have b0 : 0 ≤ x / 2 ^ i % 2 * 2 ^ i := Int.mul_nonneg t0 (Int.le_of_lt p)
  have b1 : x / 2 ^ i % 2 * 2 ^ i ≤ 1 * 2 ^ i := Int.mul_le_mul_of_nonneg_right (by omega) (Int.le_of_lt p)
  refine (div_unique (q := x / 2 ^ i / 2) ?_ (by omega) (by omega)).2
  have e5 : (2 : Int) ^ (i + 1) * (x / 2 ^ i / 2) = 2 ^ i * (2 * (x / 2 ^ i / 2)) := by rw [e, Int.mul_assoc]
  have e6 : 2 ^ i * (x / 2 ^ i) = 2 ^ i * (x / 2 ^ i % 2) + 2 ^ i * (2 * (x / 2 ^ i / 2)) := by rw [← Int.mul_add, h2]
  have e7 : x / 2 ^ i % 2 * 2 ^ i = 2 ^ i * (x / 2 ^ i % 2) := Int.mul_comm ..
  omega

/-- the first i bits of N, as digits and what is gathered for the next one -/
structure Gat (N : Int) (i m : Nat) (ds : List Int) (r : Int) : Prop where
  ok : DigOk ds
  pos : i = 15 * ds.length + m
  sum : dval ds + P15 ds.length * r = N % 2 ^ i
  lo : 0 ≤ r
  hi : r < 2 ^ m
theorem Gat.zero (N : Int) : Gat N 0 0 [] 0 := ⟨DigOk.nil, rfl, by simp [dval], by decide, by decide⟩
theorem Gat.bit {N : Int} {i m : Nat} {ds : List Int} {r b : Int} (h : Gat N i m ds r) (hb : b = N / 2 ^ i % 2) :
    dval ds + P15 ds.length * (r + b * 2 ^ m) = N % 2 ^ (i + 1) ∧ 0 ≤ r + b * 2 ^ m ∧ r + b * 2 ^ m < 2 ^ (m + 1) := by
  have p := p2_pos m
  have t0 : 0 ≤ b := hb ▸ Int.emod_nonneg _ (by decide)
  have t1 : b < 2 := hb ▸ Int.emod_lt_of_pos _ (by decide)
  have b0 : 0 ≤ b * 2 ^ m := Int.mul_nonneg t0 (Int.le_of_lt p)
  have b1 : b * 2 ^ m ≤ 1 * 2 ^ m := Int.mul_le_mul_of_nonneg_right (by omega) (Int.le_of_lt p)
  have e : (2 : Int) ^ (m + 1) = 2 ^ m * 2 := Int.pow_succ ..
  have := h.lo; have := h.hi
  refine ⟨?_, by omega, by omega⟩
  rw [mod_succ, ← hb, ← h.sum, Int.mul_add]
  have e2 : (2 : Int) ^ i = P15 ds.length * 2 ^ m := by rw [P15_two, ← Int.pow_add, ← h.pos]
  rw [e2]
  have e3 : b * (P15 ds.length * 2 ^ m) = P15 ds.length * (b * 2 ^ m) := Int.mul_left_comm ..
  omega
theorem Gat.on {N : Int} {i m : Nat} {ds : List Int} {r b : Int} (h : Gat N i m ds r) (hb : b = N / 2 ^ i % 2) : Gat N (i + 1) (m + 1) ds (r + b * 2 ^ m) := by
  obtain ⟨h1, h2, h3⟩ := h.bit hb
  exact ⟨h.ok, by have := h.pos; omega, h1, h2, h3⟩
theorem Gat.next {N : Int} {i : Nat} {ds : List Int} {r b : Int} (h : Gat N i 14 ds r) (hb : b = N / 2 ^ i % 2) : Gat N (i + 1) 0 (ds ++ [r + b * 2 ^ 14]) 0 := by
  obtain ⟨h1, h2, h3⟩ := h.bit hb
  have h3' : r + b * 2 ^ 14 < 32768 := h3
  refine ⟨h.ok.append (DigOk.one ⟨h2, h3'⟩), ?_, ?_, by decide, by decide⟩
  · have := h.pos; rw [List.length_append, List.length_singleton]; omega
  · rw [Int.mul_zero, Int.add_zero, dval_append, ← h1]; simp [dval]
theorem Gat.done {N : Int} {i m : Nat} {ds : List Int} {r : Int} (h : Gat N i m ds r) (hm : m ≤ 14) (h0 : 0 ≤ N) (h1 : N < 2 ^ i) : DigOk (ds ++ [r]) ∧ dval (ds ++ [r]) = N := by
  have e : (2 : Int) ^ m ≤ 2 ^ 14 := by
    have := p2_pos (14 - m); have p := p2_pos m
    have e : (2 : Int) ^ 14 = 2 ^ m * 2 ^ (14 - m) := by rw [← Int.pow_add, show m + (14 - m) = 14 by omega]
    have : (2 : Int) ^ m * 1 ≤ 2 ^ m * 2 ^ (14 - m) := Int.mul_le_mul_of_nonneg_left (by omega) (by omega)
    omega
  have e14 : (2 : Int) ^ 14 = 16384 := rfl
  have := h.lo; have := h.hi
  refine ⟨h.ok.append (DigOk.one ⟨by omega, by omega⟩), ?_⟩
  have := h.sum
  rw [Int.emod_eq_of_lt h0 h1] at this
  rw [dval_append, ← this]; simp [dval]

theorem dval_set {ds : List Int} {j : Nat} (hj : j < ds.length) (v : Int) : dval (ds.set j v) = dval ds + P15 j * (v - ds.getD j 0) := by
  induction ds generalizing j with
  | nil => cases hj
  | cons d t ih =>
    cases j with
    | zero => simp [dval, P15_0]; omega
    | succ j =>
      have hj' : j < t.length := by simpa using hj
      rw [List.set_cons_succ, dval, dval, ih hj', P15_succ, List.getD_cons_succ, Int.mul_add, Int.mul_assoc]; omega
theorem DigOk.set {ds : List Int} (h : DigOk ds) {v : Int} (hv : 0 ≤ v ∧ v < 32768) (j : Nat) : DigOk (ds.set j v) := fun x hx => by
  rcases List.mem_or_eq_of_mem_set hx with h' | h'
  · exact h x h'
  · rw [h']; exact hv
theorem getD_set_ne {ds : List Int} {i j : Nat} (h : i ≠ j) (v : Int) : (ds.set i v).getD j 0 = ds.getD j 0 := by
  simp [List.getD, List.getElem?_set_ne h]
theorem dval_take_succ' (ds : List Int) (k : Nat) : dval (ds.take (k + 1)) = dval (ds.take k) + P15 k * ds.getD k 0 := by
  rcases Nat.lt_or_ge k ds.length with h | h
  · rw [List.take_succ_eq_append_getElem h, dval_append, List.length_take, Nat.min_eq_left (by omega), getD_in' h]
    simp [dval]
  · rw [List.take_of_length_le (by omega), List.take_of_length_le h, getD_out h]; simp

/-- the product so far: all of the first i digits, and of the next one as many as k of the other number's -/
structure Prd (xs ys : List Int) (n i k : Nat) (out : List Int) (c : Int) : Prop where
  ok : DigOk out
  len : out.length = n
  sum : dval out + P15 (i + k) * c = dval (xs.take i) * dval ys + P15 i * (xs.getD i 0 * dval (ys.take k))
  far : ∀ j, i + ys.length ≤ j → out.getD j 0 = 0
  lo : 0 ≤ c
  hi : c ≤ 32767
theorem Prd.start {xs ys : List Int} {n i : Nat} {out : List Int} (h1 : DigOk out) (h2 : out.length = n) (h3 : dval out = dval (xs.take i) * dval ys) (h4 : ∀ j, i + ys.length ≤ j → out.getD j 0 = 0) : Prd xs ys n i 0 out 0 :=
  ⟨h1, h2, by rw [h3]; simp [dval], h4, by decide, by decide⟩
theorem prd_n {a x y c : Int} (ha : 0 ≤ a ∧ a < 32768) (hx : 0 ≤ x ∧ x < 32768) (hy : 0 ≤ y ∧ y < 32768) (hc : 0 ≤ c ∧ c ≤ 32767) :
    0 ≤ x * y ∧ x * y ≤ 1073676289 ∧ 0 ≤ (a + x * y + c) / 32768 ∧ (a + x * y + c) / 32768 ≤ 32767 := by
  have h1 : 0 ≤ x * y := Int.mul_nonneg hx.1 hy.1
  have h2 : x * y ≤ 32767 * 32767 := Int.mul_le_mul (by omega) (by omega) hy.1 (by decide)
  omega
theorem Prd.step {xs ys : List Int} {n i k : Nat} {out : List Int} {c x y a : Int} (h : Prd xs ys n i k out c) (dx : DigOk xs) (dy : DigOk ys) (hk : k < ys.length) (hn : i + ys.length < n)
    (hx : x = xs.getD i 0) (hy : y = ys.getD k 0) (ha : a = out.getD (i + k) 0) :
    Prd xs ys n i (k + 1) (out.set (i + k) ((a + x * y + c) % 32768)) ((a + x * y + c) / 32768) := by
  have b := prd_n (ha ▸ h.ok.get (i + k)) (hx ▸ dx.get i) (hy ▸ dy.get k) ⟨h.lo, h.hi⟩
  refine ⟨h.ok.set (by omega) _, by rw [List.length_set]; exact h.len, ?_, fun j hj => ?_, b.2.2.1, b.2.2.2⟩
  · rw [dval_set (by rw [h.len]; omega), ← ha, dval_take_succ', ← hx, ← hy, ← Nat.add_assoc, P15_succ]
    have e1 := h.sum
    rw [← hx] at e1
    have e2 := Int.emod_add_mul_ediv (a + x * y + c) 32768
    have e3 : 32768 * P15 (i + k) * ((a + x * y + c) / 32768) = P15 (i + k) * (32768 * ((a + x * y + c) / 32768)) := by rw [Int.mul_comm 32768, Int.mul_assoc]
    have e4 : P15 (i + k) * ((a + x * y + c) % 32768 - a) + P15 (i + k) * (32768 * ((a + x * y + c) / 32768)) = P15 (i + k) * (x * y) + P15 (i + k) * c := by
      rw [← Int.mul_add, ← Int.mul_add]
      have e6 : (a + x * y + c) % 32768 - a + 32768 * ((a + x * y + c) / 32768) = x * y + c := by omega
      rw [e6]
    have e5 : P15 i * (x * (dval (ys.take k) + P15 k * y)) = P15 i * (x * dval (ys.take k)) + P15 (i + k) * (x * y) := by
      rw [Int.mul_add, Int.mul_add, P15_add, Int.mul_assoc (P15 i), Int.mul_left_comm x]
    rw [e5, e3]; omega
  · rw [getD_set_ne (by omega)]; exact h.far j hj
theorem Prd.row {xs ys : List Int} {n i : Nat} {out : List Int} {c a : Int} (h : Prd xs ys n i ys.length out c) (hn : i + ys.length < n) (ha : a = out.getD (i + ys.length) 0) :
    Prd xs ys n (i + 1) 0 (out.set (i + ys.length) (a + c)) 0 := by
  have a0 : a = 0 := ha.trans (h.far _ (Nat.le_refl _))
  subst a0
  rw [Int.zero_add]
  refine Prd.start (h.ok.set ⟨h.lo, by have := h.hi; omega⟩ _) (by rw [List.length_set]; exact h.len) ?_ fun j hj => ?_
  · rw [dval_set (by rw [h.len]; omega), ← ha, Int.sub_zero, h.sum, List.take_of_length_le (Nat.le_refl _), dval_take_succ', Int.add_mul, Int.mul_assoc]
  · rw [getD_set_ne (by omega)]; exact h.far j (by omega)
theorem dval_repl (n : Nat) : dval (List.replicate n 0) = 0 := by
  induction n with
  | zero => rfl
  | succ n ih => rw [List.replicate_succ, dval, ih]; rfl
theorem Prd.zero (xs ys : List Int) (n : Nat) : Prd xs ys n 0 0 (List.replicate n 0) 0 := by
  refine Prd.start (fun x hx => by rw [(List.mem_replicate.1 hx).2]; decide) (List.length_replicate ..) (by rw [dval_repl]; simp [dval]) fun j _ => ?_
  rcases Nat.lt_or_ge j n with h | h
  · rw [getD_in' (by rw [List.length_replicate]; exact h)]; simp
  · exact getD_out (by rw [List.length_replicate]; exact h)
theorem Prd.all {xs ys : List Int} {n : Nat} {out : List Int} {c : Int} (h : Prd xs ys n xs.length 0 out c) (hc : c = 0) : DigOk out ∧ dval out = dval xs * dval ys := by
  refine ⟨h.ok, ?_⟩
  have := h.sum
  rw [hc, Int.mul_zero, Int.add_zero, List.take_of_length_le (Nat.le_refl _)] at this
  rw [this]; simp [dval]
end Go.Proofs.Ytlcbomjdbdgbmaa
namespace Go.Proofs.Ytlcbomjdbdgbmaa

end Go.Proofs.Ytlcbomjdbdgbmaa
namespace Go.Proofs.Ytlcbomjdbdgbmaa
open Go.RowKit

/-- a slice of words that holds these -/
structure Ws (w : World) (b : Nat) (ws : List Int) : Prop where
  cell : ∀ i, i < ws.length → w.cell? ⟨b, i, none⟩ = some (.int .u64 (ws.getD i 0))
  blk : b < w.heap.size
  ok : WordsOk ws
  len : ws.length ≤ 4
theorem Ws.of {w w' : World} {b : Nat} {ws : List Int} (h : Ws w b ws) (hb : Below w.heap.size w w') : Ws w' b ws :=
  ⟨fun i hi => by rw [hb.cell (p := ⟨b, i, none⟩) h.blk]; exact h.cell i hi, Nat.lt_of_lt_of_le h.blk hb.size, h.ok, h.len⟩

end Go.Proofs.Ytlcbomjdbdgbmaa
namespace Go.Proofs.Ytlcbomjdbdgbmaa
open Go.RowKit

end Go.Proofs.Ytlcbomjdbdgbmaa
namespace Go.Proofs.Ytlcbomjdbdgbmaa
open Go.RowKit

end Go.Proofs.Ytlcbomjdbdgbmaa

namespace Go.Proofs.Ytlcbomjdbdgbmaa
open Go.RowKit

theorem dg_get {ds : List Int} {j : Nat} (h : j < ds.length) : (dg ds).toArray[j]? = some (.int .i64 (ds.getD j 0)) := by
  unfold dg; simp [h]
theorem dg_put (ds : List Int) (j : Nat) (v : Int) : (dg ds).toArray.setIfInBounds j (.int .i64 v) = (dg (ds.set j v)).toArray := by
  unfold dg; rw [List.setIfInBounds_toArray, List.map_set]
/-- where the product stands -/
structure MulAt (w : World) (v1 v2 : Array Value) (out : List Int) (n : Nat) (wr : World) : Prop where
  k0 : Blk wr w.heap.size v1 28
  k1 : Blk wr (w.heap.size + 1) v2 28
  k2 : Blk wr (w.heap.size + 1 + 1) #[.bool false, .slice none 0 0] 28
  k3 : Blk wr (w.heap.size + 1 + 1 + 1) (dg out).toArray 3
  len : out.length = n
  below : Below w.heap.size w wr
theorem MulAt.drew {w : World} {v1 v2 : Array Value} {out : List Int} {n : Nat} {wr : World} (h : MulAt w v1 v2 out n wr) : MulAt w v1 v2 out n wr.drew := ⟨h.k0, h.k1, h.k2, h.k3, h.len, h.below.drew⟩
theorem MulAt.put {w : World} {v1 v2 : Array Value} {out : List Int} {n : Nat} {wr : World} (h : MulAt w v1 v2 out n wr) (j : Nat) (v : Int) : MulAt w v1 v2 (out.set j v) n (wr.setCell ⟨w.heap.size + 1 + 1 + 1, j, none⟩ (.int .i64 v)) :=
  ⟨h.k0.set (by omega) _ _ _, h.k1.set (by omega) _ _ _, h.k2.set (by omega) _ _ _, by rw [← dg_put]; exact Blk.put h.k3 _ _, by rw [List.length_set]; exact h.len, h.below.setCell (by show _ ≤ w.heap.size + 1 + 1 + 1; omega) _⟩
theorem MulAt.outc {w : World} {v1 v2 : Array Value} {out : List Int} {n : Nat} {wr : World} (h : MulAt w v1 v2 out n wr) {j : Nat} (hj : j < n) : wr.cell? ⟨w.heap.size + 1 + 1 + 1, j, none⟩ = some (.int .i64 (out.getD j 0)) := by
  rw [h.k3.cell]; exact dg_get (by rw [h.len]; exact hj)

end Go.Proofs.Ytlcbomjdbdgbmaa
namespace Go.Proofs.Ytlcbomjdbdgbmaa
open Go.RowKit

/-- the Go value of a fraction: its eight words -/
abbrev rC (n d : Int) : Array Value := #[.int .u64 (wd0 n), .int .u64 (wd1 n), .int .u64 (wd2 n), .int .u64 (wd3 n), .int .u64 (wd0 d), .int .u64 (wd1 d), .int .u64 (wd2 d), .int .u64 (wd3 d)]
abbrev rI (n d : Int) : Value := .agg (rC n d)
/-- a variable that holds a fraction -/
abbrev RVar (w : World) (b : Nat) (n d : Int) : Prop := Blk w b (rC n d) 52
theorem RVar.c {w : World} {b : Nat} {n d : Int} (h : RVar w b n d) : (w.cell? ⟨b, 0, none⟩ = some (.int .u64 (wd0 n)) ∧ w.cell? ⟨b, 1, none⟩ = some (.int .u64 (wd1 n)) ∧ w.cell? ⟨b, 2, none⟩ = some (.int .u64 (wd2 n)) ∧ w.cell? ⟨b, 3, none⟩ = some (.int .u64 (wd3 n))) ∧
    (w.cell? ⟨b, 4, none⟩ = some (.int .u64 (wd0 d)) ∧ w.cell? ⟨b, 5, none⟩ = some (.int .u64 (wd1 d)) ∧ w.cell? ⟨b, 6, none⟩ = some (.int .u64 (wd2 d)) ∧ w.cell? ⟨b, 7, none⟩ = some (.int .u64 (wd3 d))) :=
  ⟨⟨h.cell 0, h.cell 1, h.cell 2, h.cell 3⟩, h.cell 4, h.cell 5, h.cell 6, h.cell 7⟩
theorem RVar.f {w : World} {b : Nat} {n d : Int} (h : RVar w b n d) : (w.frozen? ⟨b, 0, none⟩ = false ∧ w.frozen? ⟨b, 1, none⟩ = false ∧ w.frozen? ⟨b, 2, none⟩ = false ∧ w.frozen? ⟨b, 3, none⟩ = false) ∧
    (w.frozen? ⟨b, 4, none⟩ = false ∧ w.frozen? ⟨b, 5, none⟩ = false ∧ w.frozen? ⟨b, 6, none⟩ = false ∧ w.frozen? ⟨b, 7, none⟩ = false) :=
  ⟨⟨h.free 0, h.free 1, h.free 2, h.free 3⟩, h.free 4, h.free 5, h.free 6, h.free 7⟩
set_option maxRecDepth 100000 in
theorem Right_any (n d : Int) (w : World) (hd : InI d) :
    Calls Try.prog 36 #[rI n d] w fun e w' => e = .returned (.bool (decide (0 < d))) ∧ Below w.heap.size w w' := by
  go_enter Try.func36, Try.ntmps36
  go_wp2_with fail
  refine (Sign_any d _ hd).mono ?_
  rintro e w2 ⟨rfl, hn⟩
  go_wp2
  go_ret
  exact ⟨rfl, (below_a1 _ _).trans (hn.mono (by simp))⟩
theorem Right_is (n d : Int) (w : World) (hd : InI d) (b : Bool) (hb : decide (0 < d) = b) :
    Calls Try.prog 36 #[rI n d] w fun e w' => e = .returned (.bool b) ∧ Below w.heap.size w w' := hb ▸ Right_any n d w hd

end Go.Proofs.Ytlcbomjdbdgbmaa
namespace Go.Proofs.Ytlcbomjdbdgbmaa
open Go.RowKit

theorem name_q {Q : Exit → Act → World → Prop} {e : Exit} {a : Act} {w : World} (h : ∀ W, W = w → Q e a W) : Q e a w := h w rfl

/-- where the search for the common one stands -/
structure ComAt (w : World) (a b : Int) (wr : World) : Prop where
  va : Var wr w.heap.size a
  vb : Var wr (w.heap.size + 1) b
  v0 : Var wr (w.heap.size + 1 + 1) 0
  below : Below w.heap.size w wr
theorem ComAt.of {w : World} {a b : Int} {wr w' : World} (h : ComAt w a b wr) (hn : Below wr.heap.size wr w') : ComAt w a b w' :=
  ⟨h.va.of hn, h.vb.of hn, h.v0.of hn, h.below.trans (hn.mono h.below.size)⟩

end Go.Proofs.Ytlcbomjdbdgbmaa
namespace Go.Proofs.Ytlcbomjdbdgbmaa
open Go.RowKit

/-- the two variables of New, and what it hands back -/
structure NewAt (w : World) (x y : Int) (wr : World) : Prop where
  kx : Var wr w.heap.size x
  ky : Var wr (w.heap.size + 1) y
  k0 : RVar wr (w.heap.size + 1 + 1) 0 0
  below : Below w.heap.size w wr
theorem NewAt.of {w : World} {x y : Int} {wr w' : World} (h : NewAt w x y wr) (hn : Below wr.heap.size wr w') : NewAt w x y w' :=
  ⟨h.kx.of hn, h.ky.of hn, h.k0.of hn, h.below.trans (hn.mono h.below.size)⟩
end Go.Proofs.Ytlcbomjdbdgbmaa
namespace Go.Proofs.Ytlcbomjdbdgbmaa
open Go.RowKit

end Go.Proofs.Ytlcbomjdbdgbmaa
namespace Go.Proofs.Ytlcbomjdbdgbmaa
open Go.RowKit

/-- a fraction of two Bigs -/
def BRat (w : World) (v : Value) (n d : Int) (L : Nat) : Prop :=
  ∃ (n1 : Bool) (a1 : Option Addr) (l1 c1 : Nat) (n2 : Bool) (a2 : Option Addr) (l2 c2 : Nat), v = .agg #[.bool n1, .slice a1 l1 c1, .bool n2, .slice a2 l2 c2] ∧ Big w (.agg #[.bool n1, .slice a1 l1 c1]) n L ∧ Big w (.agg #[.bool n2, .slice a2 l2 c2]) d L
theorem BRat.of {w w' : World} {v : Value} {n d : Int} {L : Nat} (h : BRat w v n d L) (hb : Below w.heap.size w w') : BRat w' v n d L := by
  obtain ⟨n1, a1, l1, c1, n2, a2, l2, c2, h1, h2, h3⟩ := h
  exact ⟨n1, a1, l1, c1, n2, a2, l2, c2, h1, h2.of hb, h3.of hb⟩
theorem i64_u64 {x : Int} (h0 : 0 ≤ x) (h1 : x < 18446744073709551616) : In64 (IntKind.i64.wrap x) ∧ wd0 (IntKind.i64.wrap x) = x := by
  rw [IntKind.wrap_i64]; unfold In64 wd0 b64; omega
instance (x : Int) : Decidable (In64 x) := by unfold In64; exact inferInstance
theorem small_eq {x : Int} (ix : InI x) (b : Bool) (h : decide (In64 x) = b) :
    In64 (IntKind.i64.wrap (wd0 x)) ∧ (bif b then IntKind.i64.wrap (wd0 x) = x else True) ∧ eq4 (wd0 (IntKind.i64.wrap (wd0 x))) (wd1 (IntKind.i64.wrap (wd0 x))) (wd2 (IntKind.i64.wrap (wd0 x))) (wd3 (IntKind.i64.wrap (wd0 x))) (wd0 x) (wd1 x) (wd2 x) (wd3 x) = b := by
  have hw := wd0_Wd x
  obtain ⟨h1, h2⟩ := i64_u64 hw.lo hw.hi
  obtain ⟨m, hm⟩ : ∃ m, m = IntKind.i64.wrap (wd0 x) := ⟨_, rfl⟩
  rw [← hm] at h1 h2 ⊢
  rw [eq4_wd]
  refine ⟨h1, ?_, ?_⟩
  · cases b
    · trivial
    · have h := of_decide_eq_true h
      show m = x
      unfold In64 wd0 b64 at *; omega
  · rw [← h, Bool.eq_iff_iff, decide_eq_true_iff, decide_eq_true_iff]
    constructor
    · intro e
      have : m = x := by unfold InI In64 b255 b256 at *; omega
      rw [← this]; exact h1
    · intro h
      have : m = x := by unfold In64 wd0 b64 at *; omega
      rw [this]

set_option maxRecDepth 100000 in
set_option maxHeartbeats 1000000 in
theorem Small_any (x : Int) (w : World) (ix : InI x) (b : Bool) (h : decide (In64 x) = b) :
    Calls Try.prog 110 #[wI x] w fun e w' => e = .returned (.tuple #[.int .i64 (bif b then x else 0), .bool b]) ∧ Below w.heap.size w w' := by
  obtain ⟨h1, h2, h3⟩ := small_eq ix b h
  obtain ⟨m, hm⟩ : ∃ m, IntKind.i64.wrap (wd0 x) = m := ⟨_, rfl⟩
  rw [hm] at h1 h2 h3
  have H2 := Lib.hid h2
  clear h2 h ix
  go_enter Try.func110, Try.ntmps110
  go_wp2_with fail
  clear hm
  refine name_world ?_
  intro W hW
  have kx : Var W w.heap.size x := by rw [hW]; exact Blk.new _ _ _
  have hb0 : Below w.heap.size w W := by rw [hW]; exact below_a1 _ _
  clear hW
  have c := Var.c kx
  have l0 := kx.lt
  clear kx
  refine wp_region_up W.heap.size 3 [(true, 0), (true, 2), (false, 1)] (by kernel_rfl) (by kernel_rfl) (fun _ _ d _ _ h => by cases d <;> exact h) ?_
  have hb : Below W.heap.size W W.drew := (Below.refl _ _).drew
  iterate 2
    refine wpS_takeL rfl rfl ?_
    go_big_quiet_step (rfl)
    refine wpQuiet_nil ?_
  refine wpS_doL rfl ?_
  intro K hK
  go_wp2_with ((go_at_call 62; refine (Of_any m _ h1).mono ?_; rintro e w2 ⟨rfl, hn⟩))
  replace hb := hb.trans (hn.mono hb.size)
  refine hK.out _ _ (up_iff.2 hb) ?_
  clear hK K
  clear hn
  refine wpS_nil ?_
  simp only [List.drop_succ_cons, List.drop_zero]
  have hb2 : Below w.heap.size w w2 := hb0.trans (hb.mono hb0.size)
  clear c l0 hb hb0
  cases b
  · go_wp2
    go_ret2
    exact ⟨rfl, hb2⟩
  · have H3 := H2.out
    rw [cond_true] at H3
    subst H3
    go_wp2
    go_ret2
    exact ⟨rfl, hb2⟩
end Go.Proofs.Ytlcbomjdbdgbmaa
namespace Go.Proofs.Ytlcbomjdbdgbmaa
open Go.RowKit

set_option maxRecDepth 100000 in
set_option maxHeartbeats 1000000 in
theorem mul64_nat (x y : Nat) (hx : x < 18446744073709551616) (hy : y < 18446744073709551616) (w : World) :
    Calls Try.prog 145 #[.int .u64 x, .int .u64 y] w fun e w' => e = .returned (.tuple #[.int .u64 ((x * y / 18446744073709551616 : Nat) : Int), .int .u64 ((x * y % 18446744073709551616 : Nat) : Int)]) ∧ w' = w := by
  obtain ⟨bd, bt, bw, hhi⟩ := Go.Lib.mul64_hi x y hx hy
  have ba := Go.Lib.half_mul_le (a := x / 4294967296) (b := y / 4294967296) (by omega) (by omega)
  have bb := Go.Lib.half_mul_le (a := x / 4294967296) (b := y % 4294967296) (by omega) (by omega)
  have bc := Go.Lib.half_mul_le (a := x % 4294967296) (b := y / 4294967296) (by omega) (by omega)
  have ba' : x / 4294967296 * (y / 4294967296) < 18446744073709551616 := by omega
  have bb' : x / 4294967296 * (y % 4294967296) < 18446744073709551616 := by omega
  have bc' : x % 4294967296 * (y / 4294967296) < 18446744073709551616 := by omega
  have bh1 : x / 4294967296 * (y / 4294967296) + (x / 4294967296 * (y % 4294967296) + x % 4294967296 * (y % 4294967296) / 4294967296) / 4294967296 < 18446744073709551616 := by omega
  have bh : x / 4294967296 * (y / 4294967296) + (x / 4294967296 * (y % 4294967296) + x % 4294967296 * (y % 4294967296) / 4294967296) / 4294967296 + ((x / 4294967296 * (y % 4294967296) + x % 4294967296 * (y % 4294967296) / 4294967296) % 4294967296 + x % 4294967296 * (y / 4294967296)) / 4294967296 < 18446744073709551616 := by omega
  go_enter Try.func145, Try.ntmps145
  go_wp2
  simp only [Mul64.maskN x hx, Mul64.maskN y hy, Mul64.divN, Mul64.mulN, Mul64.addN, Mul64.wrapN _ bd, Mul64.wrapN _ bb', Mul64.wrapN _ bt, Mul64.maskN _ bt, Mul64.wrapN _ bc', Mul64.wrapN _ bw, Mul64.wrapN _ ba', Mul64.wrapN _ bh1, Mul64.wrapN _ bh, Mul64.wrapM (x * y)]
  rw [hhi]
  go_ret2
  exact ⟨rfl, rfl⟩

theorem mul64_any (x y : Int) (hx : Wd x) (hy : Wd y) (w : World) :
    Calls Try.prog 145 #[.int .u64 x, .int .u64 y] w fun e w' => e = .returned (.tuple #[.int .u64 (x * y / 18446744073709551616), .int .u64 (x * y % 18446744073709551616)]) ∧ w = w' := by
  obtain ⟨x0, x1⟩ := hx
  obtain ⟨y0, y1⟩ := hy
  obtain ⟨m, rfl⟩ := Int.eq_ofNat_of_zero_le x0
  obtain ⟨n, rfl⟩ := Int.eq_ofNat_of_zero_le y0
  refine (mul64_nat m n (by omega) (by omega) w).mono fun e w' ⟨he, hw⟩ => ⟨?_, hw.symm⟩
  rw [he]
  simp only [Int.natCast_ediv, Int.natCast_emod, Int.natCast_mul]
  rfl
end Go.Proofs.Ytlcbomjdbdgbmaa
namespace Go.Proofs.Ytlcbomjdbdgbmaa

/-- 2^64 to the power of n -/
def P64 (n : Nat) : Int := 18446744073709551616 ^ n
theorem P64_0 : P64 0 = 1 := rfl
theorem P64_succ (n : Nat) : P64 (n + 1) = 18446744073709551616 * P64 n := by unfold P64; rw [Int.pow_succ, Int.mul_comm]
theorem P64_add (m n : Nat) : P64 (m + n) = P64 m * P64 n := by unfold P64; rw [Int.pow_add]

theorem uval_append (a b : List Int) : uval (a ++ b) = uval a + P64 a.length * uval b := by
  induction a with
  | nil => simp [uval, P64_0]
  | cons d t ih => rw [List.cons_append, uval, uval, ih, List.length_cons, P64_succ, Int.mul_add, Int.mul_assoc]; omega
theorem uval_take_succ (ds : List Int) (k : Nat) : uval (ds.take (k + 1)) = uval (ds.take k) + P64 k * ds.getD k 0 := by
  rcases Nat.lt_or_ge k ds.length with h | h
  · rw [List.take_succ_eq_append_getElem h, uval_append, List.length_take, Nat.min_eq_left (by omega), getD_in' h]
    simp [uval]
  · rw [List.take_of_length_le (by omega), List.take_of_length_le h, getD_out h]; simp
theorem uval_set {ds : List Int} {j : Nat} (hj : j < ds.length) (v : Int) : uval (ds.set j v) = uval ds + P64 j * (v - ds.getD j 0) := by
  induction ds generalizing j with
  | nil => cases hj
  | cons d t ih =>
    cases j with
    | zero => simp [uval, P64_0]; omega
    | succ j =>
      have hj' : j < t.length := by simpa using hj
      rw [List.set_cons_succ, uval, uval, ih hj', P64_succ, List.getD_cons_succ, Int.mul_add, Int.mul_assoc]; omega
theorem WordsOk.set {ds : List Int} (h : WordsOk ds) {v : Int} (hv : Wd v) (j : Nat) : WordsOk (ds.set j v) := fun x hx => by
  rcases List.mem_or_eq_of_mem_set hx with h' | h'
  · exact h x h'
  · rw [h']; exact hv
theorem WordsOk.get {ws : List Int} (h : WordsOk ws) (i : Nat) : Wd (ws.getD i 0) := by
  by_cases hi : i < ws.length
  · rw [getD_in' hi]; exact h _ (List.getElem_mem hi)
  · rw [getD_out (by omega)]; exact ⟨by decide, by decide⟩

/-- one step of the product: what the two sums with carry make of it -/
theorem mul_step {x y o c : Int} (hx : Wd x) (hy : Wd y) (ho : Wd o) (hc : Wd c) :
    Wd (x * y / 18446744073709551616) ∧ Wd (x * y % 18446744073709551616) ∧
    (0 ≤ (x * y % 18446744073709551616 + o) / 18446744073709551616 ∧ (x * y % 18446744073709551616 + o) / 18446744073709551616 ≤ 1) ∧ Wd ((x * y % 18446744073709551616 + o) % 18446744073709551616) ∧
    Wd (x * y / 18446744073709551616 + (x * y % 18446744073709551616 + o) / 18446744073709551616) ∧
    ((x * y % 18446744073709551616 + o) % 18446744073709551616 + c) % 18446744073709551616 = (x * y + o + c) % 18446744073709551616 ∧
    x * y / 18446744073709551616 + (x * y % 18446744073709551616 + o) / 18446744073709551616 + ((x * y % 18446744073709551616 + o) % 18446744073709551616 + c) / 18446744073709551616 = (x * y + o + c) / 18446744073709551616 ∧
    Wd ((x * y + o + c) / 18446744073709551616) ∧ Wd ((x * y + o + c) % 18446744073709551616) := by
  obtain ⟨x0, x1⟩ := hx
  obtain ⟨y0, y1⟩ := hy
  obtain ⟨o0, o1⟩ := ho
  obtain ⟨c0, c1⟩ := hc
  have h1 : 0 ≤ x * y := Int.mul_nonneg x0 y0
  have h2 : x * y ≤ 18446744073709551615 * 18446744073709551615 := Int.mul_le_mul (by omega) (by omega) y0 (by decide)
  generalize x * y = p at *
  have h3 : p ≤ 340282366920938463426481119284349108225 := h2
  refine ⟨⟨?_, ?_⟩, ⟨?_, ?_⟩, ⟨?_, ?_⟩, ⟨?_, ?_⟩, ⟨?_, ?_⟩, ?_, ?_, ⟨?_, ?_⟩, ⟨?_, ?_⟩⟩ <;> omega

/-- the product so far: all of the first i words, and of the next one as many as k of the other number's -/
structure Prw (xs ys : List Int) (n i k : Nat) (out : List Int) (c : Int) : Prop where
  ok : WordsOk out
  len : out.length = n
  sum : uval out + P64 (i + k) * c = uval (xs.take i) * uval ys + P64 i * (xs.getD i 0 * uval (ys.take k))
  far : ∀ j, i + ys.length ≤ j → out.getD j 0 = 0
  cw : Wd c
theorem Prw.start {xs ys : List Int} {n i : Nat} {out : List Int} (h1 : WordsOk out) (h2 : out.length = n) (h3 : uval out = uval (xs.take i) * uval ys) (h4 : ∀ j, i + ys.length ≤ j → out.getD j 0 = 0) : Prw xs ys n i 0 out 0 :=
  ⟨h1, h2, by rw [h3]; simp [uval], h4, by decide, by decide⟩
theorem Prw.step {xs ys : List Int} {n i k : Nat} {out : List Int} {c x y a : Int} (h : Prw xs ys n i k out c) (dx : WordsOk xs) (dy : WordsOk ys) (hk : k < ys.length) (hn : i + ys.length ≤ n)
    (hx : x = xs.getD i 0) (hy : y = ys.getD k 0) (ha : a = out.getD (i + k) 0) :
    Prw xs ys n i (k + 1) (out.set (i + k) ((x * y + a + c) % 18446744073709551616)) ((x * y + a + c) / 18446744073709551616) := by
  have b := mul_step (hx ▸ dx.get i) (hy ▸ dy.get k) (ha ▸ h.ok.get (i + k)) h.cw
  obtain ⟨_, _, _, _, _, _, _, b1, b2⟩ := b
  refine ⟨h.ok.set b2 _, by rw [List.length_set]; exact h.len, ?_, fun j hj => ?_, b1⟩
  · rw [uval_set (by rw [h.len]; omega), ← ha, uval_take_succ, ← hx, ← hy, ← Nat.add_assoc, P64_succ]
    have e1 := h.sum
    rw [← hx] at e1
    have e3 : 18446744073709551616 * P64 (i + k) * ((x * y + a + c) / 18446744073709551616) = P64 (i + k) * (18446744073709551616 * ((x * y + a + c) / 18446744073709551616)) := by rw [Int.mul_comm 18446744073709551616, Int.mul_assoc]
    have e4 : P64 (i + k) * ((x * y + a + c) % 18446744073709551616 - a) + P64 (i + k) * (18446744073709551616 * ((x * y + a + c) / 18446744073709551616)) = P64 (i + k) * (x * y) + P64 (i + k) * c := by
      rw [← Int.mul_add, ← Int.mul_add]
      have e6 : (x * y + a + c) % 18446744073709551616 - a + 18446744073709551616 * ((x * y + a + c) / 18446744073709551616) = x * y + c := by
        generalize x * y = p at *
        omega
      rw [e6]
    have e5 : P64 i * (x * (uval (ys.take k) + P64 k * y)) = P64 i * (x * uval (ys.take k)) + P64 (i + k) * (x * y) := by
      rw [Int.mul_add, Int.mul_add, P64_add, Int.mul_assoc (P64 i), Int.mul_left_comm x]
    rw [e5, e3]; omega
  · rw [getD_set_ne (by omega)]; exact h.far j hj
theorem Prw.row {xs ys : List Int} {n i : Nat} {out : List Int} {c : Int} (h : Prw xs ys n i ys.length out c) (hn : i + ys.length < n) :
    Prw xs ys n (i + 1) 0 (out.set (i + ys.length) c) 0 := by
  have a0 := h.far _ (Nat.le_refl _)
  refine Prw.start (h.ok.set h.cw _) (by rw [List.length_set]; exact h.len) ?_ fun j hj => ?_
  · rw [uval_set (by rw [h.len]; omega), a0, Int.sub_zero, h.sum, List.take_of_length_le (Nat.le_refl _), uval_take_succ, Int.add_mul, Int.mul_assoc]
  · rw [getD_set_ne (by omega)]; exact h.far j (by omega)
theorem uval_repl (n : Nat) : uval (List.replicate n 0) = 0 := by
  induction n with
  | zero => rfl
  | succ n ih => rw [List.replicate_succ, uval, ih]; rfl
theorem Prw.zero (xs ys : List Int) (n : Nat) : Prw xs ys n 0 0 (List.replicate n 0) 0 := by
  refine Prw.start (fun x hx => by rw [(List.mem_replicate.1 hx).2]; exact ⟨by decide, by decide⟩) (List.length_replicate ..) (by rw [uval_repl]; simp [uval]) fun j _ => ?_
  rcases Nat.lt_or_ge j n with h | h
  · rw [getD_in' (by rw [List.length_replicate]; exact h)]; simp
  · exact getD_out (by rw [List.length_replicate]; exact h)
theorem Prw.all {xs ys : List Int} {n : Nat} {out : List Int} {c : Int} (h : Prw xs ys n xs.length 0 out c) (hc : c = 0) : WordsOk out ∧ uval out = uval xs * uval ys := by
  refine ⟨h.ok, ?_⟩
  have := h.sum
  rw [hc, Int.mul_zero, Int.add_zero, List.take_of_length_le (Nat.le_refl _)] at this
  rw [this]; simp [uval]

/-- eight words: the four high ones are 0 just if the number is below 2^256; then the low ones are its words -/
theorem eight {o0 o1 o2 o3 o4 o5 o6 o7 p : Int} (h : WordsOk [o0, o1, o2, o3, o4, o5, o6, o7]) (hp : uval [o0, o1, o2, o3, o4, o5, o6, o7] = p) :
    eq4 o4 o5 o6 o7 0 0 0 0 = decide (p < b256) ∧ (p < b256 → o0 = wd0 p ∧ o1 = wd1 p ∧ o2 = wd2 p ∧ o3 = wd3 p) := by
  have g0 : Wd o0 := h _ (by simp)
  have g1 : Wd o1 := h _ (by simp)
  have g2 : Wd o2 := h _ (by simp)
  have g3 : Wd o3 := h _ (by simp)
  have g4 : Wd o4 := h _ (by simp)
  have g5 : Wd o5 := h _ (by simp)
  have g6 : Wd o6 := h _ (by simp)
  have g7 : Wd o7 := h _ (by simp)
  have e : p = un4 o0 o1 o2 o3 + b256 * un4 o4 o5 o6 o7 := by
    rw [← hp]; simp only [uval, un4, b64, b128, b192, b256]; omega
  have l := un4_bd g0 g1 g2 g3
  have k := un4_bd g4 g5 g6 g7
  have z : eq4 o4 o5 o6 o7 0 0 0 0 = decide (un4 o4 o5 o6 o7 = 0) := by
    obtain ⟨p4, q4⟩ := g4; obtain ⟨p5, q5⟩ := g5; obtain ⟨p6, q6⟩ := g6; obtain ⟨p7, q7⟩ := g7
    rw [Bool.eq_iff_iff, decide_eq_true_iff]
    unfold eq4 un4 b64 b128 b192
    simp only [Bool.and_eq_true, beq_iff_eq]
    constructor
    · rintro ⟨⟨⟨h0, h1⟩, h2⟩, h3⟩; omega
    · intro h; exact ⟨⟨⟨by omega, by omega⟩, by omega⟩, by omega⟩
  have hz : p < b256 ↔ un4 o4 o5 o6 o7 = 0 := by
    constructor
    · intro hlt
      rcases Int.lt_or_eq_of_le k.1 with h | h
      · have : b256 * 1 ≤ b256 * un4 o4 o5 o6 o7 := Int.mul_le_mul_of_nonneg_left (by omega) (by decide)
        omega
      · exact h.symm
    · intro h; rw [h] at e; omega
  refine ⟨by rw [z, Bool.eq_iff_iff, decide_eq_true_iff, decide_eq_true_iff, hz], fun hlt => ?_⟩
  have e2 : p = un4 o0 o1 o2 o3 := by rw [e, hz.1 hlt, Int.mul_zero, Int.add_zero]
  rw [e2]
  exact ⟨(wd0_un4 g0).symm, (wd1_un4 g0 g1).symm, (wd2_un4 g0 g1 g2).symm, (wd3_un4 g0 g1 g2 g3).symm⟩
end Go.Proofs.Ytlcbomjdbdgbmaa
namespace Go.Proofs.Ytlcbomjdbdgbmaa
open Go.RowKit

def dw (ds : List Int) : List Value := ds.map (Value.int .u64)
theorem dw_get {ds : List Int} {j : Nat} (h : j < ds.length) : (dw ds).toArray[j]? = some (.int .u64 (ds.getD j 0)) := by
  unfold dw; simp [h]
theorem dw_put (ds : List Int) (j : Nat) (v : Int) : (dw ds).toArray.setIfInBounds j (.int .u64 v) = (dw (ds.set j v)).toArray := by
  unfold dw; rw [List.setIfInBounds_toArray, List.map_set]
/-- the four words of a number -/
def ws4 (x : Int) : List Int := [wd0 x, wd1 x, wd2 x, wd3 x]
theorem ws4_ok (x : Int) : WordsOk (ws4 x) := by
  intro d hd
  simp only [ws4, List.mem_cons, List.not_mem_nil, or_false] at hd
  rcases hd with rfl | rfl | rfl | rfl
  · exact wd0_Wd x
  · exact wd1_Wd x
  · exact wd2_Wd x
  · exact wd3_Wd x
theorem uval_ws4 (x : Int) : uval (ws4 x) = x % b256 := by
  rw [← un4_wd]
  simp only [ws4, uval, un4, b64, b128, b192]; omega
theorem Var.at {w : World} {b : Nat} {x : Int} (h : Var w b x) {i : Nat} (hi : i < 4) : w.cell? ⟨b, i, none⟩ = some (.int .u64 ((ws4 x).getD i 0)) := by
  rw [Blk.cell h]
  match i, hi with
  | 0, _ => rfl
  | 1, _ => rfl
  | 2, _ => rfl
  | 3, _ => rfl

/-- where the product stands -/
structure MulW (w : World) (a b : Int) (b1 b2 b3 : Nat) (out : List Int) (wr : World) : Prop where
  ka : Var wr w.heap.size a
  kb : Var wr (w.heap.size + 1) b
  k0 : Var wr (w.heap.size + 1 + 1) 0
  kx : Var wr b1 (sz a)
  ky : Var wr b2 (sz b)
  ko : Blk wr b3 (dw out).toArray 173
  len : out.length = 8
  l1 : b1 < b3
  l2 : b2 < b3
  l3 : w.heap.size + 1 + 1 < b3
  below : Below w.heap.size w wr
theorem MulW.of {w : World} {a b : Int} {b1 b2 b3 : Nat} {out : List Int} {wr w' : World} (h : MulW w a b b1 b2 b3 out wr) (hn : Below wr.heap.size wr w') : MulW w a b b1 b2 b3 out w' :=
  ⟨h.ka.of hn, h.kb.of hn, h.k0.of hn, h.kx.of hn, h.ky.of hn, h.ko.of hn, h.len, h.l1, h.l2, h.l3, h.below.trans (hn.mono h.below.size)⟩
theorem MulW.put {w : World} {a b : Int} {b1 b2 b3 : Nat} {out : List Int} {wr : World} (h : MulW w a b b1 b2 b3 out wr) (j : Nat) (v : Int) : MulW w a b b1 b2 b3 (out.set j v) (wr.setCell ⟨b3, j, none⟩ (.int .u64 v)) := by
  have h1 := h.l1; have h2 := h.l2; have h3 := h.l3
  exact ⟨h.ka.set (by omega) _ _ _, h.kb.set (by omega) _ _ _, h.k0.set (by omega) _ _ _, h.kx.set (by omega) _ _ _, h.ky.set (by omega) _ _ _, by rw [← dw_put]; exact Blk.put h.ko _ _, by rw [List.length_set]; exact h.len, h1, h2, h3, h.below.setCell (by show _ ≤ b3; omega) _⟩
theorem MulW.outc {w : World} {a b : Int} {b1 b2 b3 : Nat} {out : List Int} {wr : World} (h : MulW w a b b1 b2 b3 out wr) {j : Nat} (hj : j < 8) : wr.cell? ⟨b3, j, none⟩ = some (.int .u64 (out.getD j 0)) := by
  rw [h.ko.cell]; exact dw_get (by rw [h.len]; exact hj)

@[go_sem] theorem run_eq23 (a0 a1 a2 a3 b0 b1 b2 b3 : Int) (w : World) :
    (Op.equalIn 10000 34 (.agg #[.int .u64 a0, .int .u64 a1, .int .u64 a2, .int .u64 a3]) (.agg #[.int .u64 b0, .int .u64 b1, .int .u64 b2, .int .u64 b3])).run Try.prog w = .ok (eq4 a0 a1 a2 a3 b0 b1 b2 b3) w := by
  have hu : Try.prog.underlying 34 = some (.array 4 33) := by kernel_rfl
  have hs : ∀ w, (sizeOf 33).run Try.prog w = .ok 1 w := fun w => by kernel_rfl
  have he : ∀ (a b : Int) w, (Op.equalIn 9999 33 (.int .u64 a) (.int .u64 b)).run Try.prog w = .ok (a == b) w := fun a b w => run_equalIn_int w 9998 _ .u64 .u64 a b (by kernel_rfl)
  have hp : ∀ (c : Array Value) (i : Nat) (v : Value) w, c[i]? = some v → (part 33 c i).run Try.prog w = .ok v w := by
    intro c i v w h
    have ha : (isAgg 33).run Try.prog w = .ok false w := by kernel_rfl
    unfold part
    simp [Sem.run_bind, ha, h]
  show (Op.equalIn (9999 + 1) _ _ _).run _ _ = _
  unfold Op.equalIn
  simp only [Sem.run_bind, run_underlying hu, Result.andThen_ok, hs]
  simp [List.range', he, hp, Sem.run_bind]
  unfold eq4
  by_cases h0 : a0 = b0 <;> by_cases h1 : a1 = b1 <;> by_cases h2 : a2 = b2 <;> by_cases h3 : a3 = b3 <;> simp [h0, h1, h2, h3]
@[go_sem] theorem run_arrayAt4 (a : Option Addr) (c : Nat) (w : World) : (Instr.arrayAt 34 (.slice a 4 c)).run Try.prog w = .ok (.pointer a) w := by
  have hu : Try.prog.underlying 34 = some (.array 4 33) := by kernel_rfl
  unfold Instr.arrayAt
  simp only [Sem.run_bind, run_underlying hu, Result.andThen_ok]
  rfl
@[go_sem] theorem run_arrayAtI (a : Option Addr) (c : Nat) (w : World) : (Instr.arrayAt 35 (.slice a 4 c)).run Try.prog w = .ok (.pointer a) w := by
  have hu : Try.prog.underlying 35 = some (.array 4 33) := by kernel_rfl
  unfold Instr.arrayAt
  simp only [Sem.run_bind, run_underlying hu, Result.andThen_ok]
  rfl
theorem signedk_is (x : Int) (b k : Bool) (hk : sgB x b = k) (w : World) :
    Calls Try.prog 139 #[wI x, .bool b] w fun e w' => e = .returned (.tuple #[wI (bif k then sgV x b else 0), .bool k]) ∧ Below w.heap.size w w' := hk ▸ signed_any x b w
theorem below_of_eq {w w' : World} (h : w = w') : Below w.heap.size w w' := h ▸ Below.refl _ _
theorem add64_0 {l o l1 m1 : Int} (hl : Wd l) (ho : Wd o) (h1 : l1 = (l + o) % 18446744073709551616) (h2 : m1 = (l + o) / 18446744073709551616) (w : World) : (callFunc 146 #[.int .u64 l, .int .u64 o, .int .u64 0]).run Try.prog w = .ok (.value (.tuple #[.int .u64 l1, .int .u64 m1])) w := by
  rw [add64 l o 0 hl ho (by decide) (by decide), Int.add_zero, ← h1, ← h2]

set_option maxRecDepth 100000 in
set_option maxHeartbeats 4000000 in
theorem Mul_go (a b : Int) (w : World) (u : Bool) (hu : (ng a == ng b) = !u) (P : Int) (hP : sz a % b256 * (sz b % b256) = P) (z : Bool) (hz : decide (P < b256) = z) (s : Bool) (hs : sgB P u = s) :
    Calls Try.prog 124 #[wI a, wI b] w fun e w' => e = .returned (.tuple #[wI (bif z && s then sgV P u else 0), .bool (z && s)]) ∧ Below w.heap.size w w' := by
  have HU := Lib.hid hu
  have HP := Lib.hid hP
  have HZ := Lib.hid hz
  have HS := Lib.hid hs
  clear hu hP hz hs
  go_enter Try.func124, Try.ntmps124
  go_wp2_with fail
  refine name_world ?_
  intro W hW
  have ka : Var W w.heap.size a := by rw [hW]; exact ((Blk.new _ _ _).alloc _).alloc _
  have kb : Var W (w.heap.size + 1) b := by rw [hW]; exact (Blk.new1 _ _ _ _).alloc _
  have k0 : Var W (w.heap.size + 1 + 1) 0 := by rw [hW]; exact Blk.new2 _ _ _ _ _
  have hb0 : Below w.heap.size w W := by rw [hW]; exact (((Below.refl _ _).alloc (Nat.le_refl _) _).alloc (by simp) _).alloc (by simp; omega) _
  clear hW
  have ca := Var.c ka
  have cb := Var.c kb
  have la := ka.lt
  have lb := kb.lt
  have KA := Lib.hid ka
  have KB := Lib.hid kb
  have K0 := Lib.hid k0
  clear ka kb k0
  refine wp_region_FG2 6 4 5 [(0, 0), (0, 2), (1, 1), (1, 3)] [(3, 6), (3, 7)] (by kernel_rfl) (by kernel_rfl) (fun _ _ d _ _ => by cases d <;> exact Iff.rfl) rfl rfl rfl allocI rfl rfl rfl allocI rfl ?_
  have hb : Below W.heap.size W W.drew := (Below.refl _ _).drew
  iterate 2
    refine wpFG_take0 rfl rfl ?_
    go_big_quiet_step (rfl)
    refine wpQuiet_nil ?_
  refine wpFG_do rfl ?_
  intro w1 hg K hK
  replace hb := hb.trans (hg.mono hb.size)
  clear hg
  go_wp2_with ((go_at_call 136; refine (size_any _ _).mono ?_; rintro e w2 ⟨rfl, hn⟩))
  refine hK.out _ _ hn ?_
  replace hb := hb.trans (hn.mono hb.size)
  clear hK K
  clear hn
  refine wpFG_do rfl ?_
  intro w1 hg K hK
  replace hb := hb.trans (hg.mono hb.size)
  clear hg
  go_wp2_with ((go_at_call 136; refine (size_any _ _).mono ?_; rintro e w2 ⟨rfl, hn⟩))
  refine hK.out _ _ hn ?_
  replace hb := hb.trans (hn.mono hb.size)
  clear hK K
  clear hn
  refine wpFG_nil ?_
  clear hb
  intro w1 hg hb b1 b2 hne lb1 nb1 lb2 nb2
  clear hg
  simp only [Act.put, ptrTo, List.setIfInBounds_toArray, List.set_cons_succ, List.set_cons_zero]
  have c1 := Var.c (show Var w1 b1 0 from nb1)
  have f1 := Var.f (show Var w1 b1 0 from nb1)
  have c2 := Var.c (show Var w1 b2 0 from nb2)
  have f2 := Var.f (show Var w1 b2 0 from nb2)
  clear ca cb la lb
  refine wpG_do3 rfl ?_
  intro K hK
  go_wp2_with (fail)
  refine hK.out _ _ ?_
  clear hK K
  refine wpG_do3 rfl ?_
  intro K hK
  go_wp2_with (fail)
  refine hK.out _ _ ?_
  clear hK K
  refine wpG_nil ?_
  refine list_world ?_
  intro V hV
  have g1 : Var w1 b1 0 := nb1
  have g2 : Var w1 b2 0 := nb2
  have h12 : b1 ≠ b2 := hne
  have na : w.heap.size ≠ b1 ∧ w.heap.size ≠ b2 := by have := KA.out.lt; omega
  have nb : w.heap.size + 1 ≠ b1 ∧ w.heap.size + 1 ≠ b2 := by have := KB.out.lt; omega
  have n0 : w.heap.size + 1 + 1 ≠ b1 ∧ w.heap.size + 1 + 1 ≠ b2 := by have := K0.out.lt; omega
  have hge1 : w.heap.size ≤ b1 := Nat.le_trans hb0.size lb1
  have hge2 : w.heap.size ≤ b2 := Nat.le_trans hb0.size lb2
  have kx : Var V b1 (sz a) := by rw [hV]; exact Blk.set4 (Var.put4 g1 _) h12 _ _ _ _
  have ky : Var V b2 (sz b) := by rw [hV]; exact Var.put4 (Blk.set4 g2 h12.symm _ _ _ _) _
  have ka : Var V w.heap.size a := by rw [hV]; exact Blk.set4 (Blk.set4 (KA.out.of hb) na.1 _ _ _ _) na.2 _ _ _ _
  have kb : Var V (w.heap.size + 1) b := by rw [hV]; exact Blk.set4 (Blk.set4 (KB.out.of hb) nb.1 _ _ _ _) nb.2 _ _ _ _
  have k0 : Var V (w.heap.size + 1 + 1) 0 := by rw [hV]; exact Blk.set4 (Blk.set4 (K0.out.of hb) n0.1 _ _ _ _) n0.2 _ _ _ _
  have hbV : Below w.heap.size w V := by rw [hV]; exact below_set4 (below_set4 (hb0.trans (hb.mono hb0.size)) hge1 _ _ _ _) hge2 _ _ _ _
  clear hV g1 g2 nb1 nb2 c1 f1 c2 f2 lb1 lb2 hb KA KB K0 hb0 na nb n0 hge1 hge2 h12 hne
  go_wp2_with fail
  refine name_world ?_
  intro W hW
  have hd0 : MulW w a b b1 b2 V.heap.size (List.replicate 8 0) W := by
    rw [hW]
    exact ⟨ka.alloc _, kb.alloc _, k0.alloc _, kx.alloc _, ky.alloc _, Blk.new _ _ _, rfl, kx.lt, ky.lt, k0.lt, hbV.alloc hbV.size _⟩
  clear hW ka kb k0 kx ky hbV
  obtain ⟨b3, hb3⟩ : ∃ b3, b3 = V.heap.size := ⟨_, rfl⟩
  rw [← hb3] at hd0 ⊢
  clear hb3 V
  go_loopw [19] (fun i wr => ∃ (k : Nat) (out : List Int), k ≤ 4 ∧ i = .int .i64 k ∧ Hid (Prw (ws4 (sz a)) (ws4 (sz b)) 8 k 0 out 0) ∧ MulW w a b b1 b2 b3 out wr) (fun i _ => 4 - (intOf i).toNat)
  case atStart => exact ⟨0, _, Nat.zero_le _, rfl, Prw.zero _ _ _, hd0⟩
  case round =>
    clear hd0 W
    rename World => wr
    obtain ⟨i, out, hi, rfl, hp, hd⟩ := hrel
    by_cases h1 : i < 4
    · have ha4 : (i : Int) < 4 := by omega
      have HD := Lib.hid hd
      clear hd
      go_wp2_with fail
      obtain ⟨wo, rfl⟩ : ∃ wo : World, wo = wr := ⟨_, rfl⟩
      have hd := HD.out
      clear HD
      go_loopw [10, 22] (fun c k wr => ∃ (j : Nat) (cv : Int) (out : List Int), j ≤ 4 ∧ k = .int .i64 j ∧ c = .int .u64 cv ∧ Hid (Prw (ws4 (sz a)) (ws4 (sz b)) 8 i j out cv) ∧ MulW w a b b1 b2 b3 out wr) (fun _ k _ => 4 - (intOf k).toNat)
      case atStart => exact ⟨0, 0, out, Nat.zero_le _, rfl, rfl, hp, hd⟩
      case round =>
        clear hd hp
        rename World => wi
        obtain ⟨j, cv, out, hj, rfl, rfl, hp, hd⟩ := hrel
        by_cases h2 : j < 4
        · obtain ⟨x, hx⟩ : ∃ x, x = (ws4 (sz a)).getD i 0 := ⟨_, rfl⟩
          obtain ⟨y, hy⟩ : ∃ y, y = (ws4 (sz b)).getD j 0 := ⟨_, rfl⟩
          obtain ⟨o, ho⟩ : ∃ o, o = out.getD (i + j) 0 := ⟨_, rfl⟩
          have hst := hp.out.step (ws4_ok _) (ws4_ok _) (show j < 4 from h2) (show i + 4 ≤ 8 by omega) hx hy ho
          have wx : Wd x := hx ▸ (ws4_ok _).get i
          have wy : Wd y := hy ▸ (ws4_ok _).get j
          have wo' : Wd o := ho ▸ hp.out.ok.get _
          have wc := hp.out.cw
          obtain ⟨m0, m1, m2, m3, m4, m5, m6, m7, m8⟩ := mul_step wx wy wo' wc
          have c1 := hd.kx.at h1
          have c2 := hd.ky.at h2
          have c3 := hd.outc (j := i + j) (by omega)
          rw [← hx] at c1
          rw [← hy] at c2
          rw [← ho] at c3
          obtain ⟨hi', hhi⟩ : ∃ h, h = x * y / 18446744073709551616 := ⟨_, rfl⟩
          obtain ⟨l, hl⟩ : ∃ h, h = x * y % 18446744073709551616 := ⟨_, rfl⟩
          rw [← hl] at m1 m2 m3 m4 m5 m6
          rw [← hhi] at m0 m4 m6
          obtain ⟨l1, hl1⟩ : ∃ h, h = (l + o) % 18446744073709551616 := ⟨_, rfl⟩
          obtain ⟨mo, hmo⟩ : ∃ h, h = (l + o) / 18446744073709551616 := ⟨_, rfl⟩
          have A1 := fun w => add64_0 m1 wo' hl1 hmo w
          rw [← hl1] at m3 m5 m6
          rw [← hmo] at m2 m4 m6
          obtain ⟨l2, hl2⟩ : ∃ h, h = (l1 + cv) % 18446744073709551616 := ⟨_, rfl⟩
          obtain ⟨mp, hmp⟩ : ∃ h, h = (l1 + cv) / 18446744073709551616 := ⟨_, rfl⟩
          have A2 := fun w => add64_0 m3 wc hl2 hmp w
          rw [← hl2] at m5
          rw [← hmp] at m6
          obtain ⟨h1', hh1⟩ : ∃ h, h = hi' + mo := ⟨_, rfl⟩
          obtain ⟨h2', hh2⟩ : ∃ h, h = h1' + mp := ⟨_, rfl⟩
          rw [← hh1] at m4 m6
          rw [← hh2] at m6
          rw [← m6, ← m5] at hst
          rw [← m6] at m7
          have W1 : IntKind.u64.wrap (hi' + mo) = h1' := by rw [← hh1]; exact IntWalk.u64_in _ (by have := m4.lo; have := m4.hi; omega)
          have W2 : IntKind.u64.wrap (h1' + mp) = h2' := by rw [← hh2]; exact IntWalk.u64_in _ (by have := m7.lo; have := m7.hi; omega)
          have TM := fun w => mul64_any x y wx wy w
          rw [← hhi, ← hl] at TM
          have HM := Lib.hid TM
          have OE := Lib.hid ho.symm
          have ST := Lib.hid hst
          have lx := hd.kx.lt
          have ly := hd.ky.lt
          have HD := Lib.hid hd
          clear hst hx hy ho wx wy wo' wc m0 m1 m2 m3 m4 m5 m6 m7 m8 hhi hl hl1 hmo hl2 hmp hh1 hh2 TM hd hp
          go_wp2_with fail
          have hb4 : (j : Int) < 4 := by omega
          refine wp_region_up wi.heap.size 11 [(true, 0), (true, 1), (true, 2), (true, 3), (true, 4), (true, 5), (false, 6), (true, 7), (true, 8), (true, 9), (true, 10)] (by kernel_rfl) (by kernel_rfl) (fun _ _ d _ _ h => by cases d <;> exact h) ?_
          have hb : Below wi.heap.size wi wi.drew := (Below.refl _ _).drew
          iterate 6
            refine wpS_takeL rfl rfl ?_
            go_big_quiet_step (rfl)
            refine wpQuiet_nil ?_
          refine wpS_doL rfl ?_
          intro K hK
          go_wp2_with ((go_at_call 145; refine (HM.out _).mono ?_; rintro e w2 ⟨rfl, hw⟩; have hn := below_of_eq hw))
          replace hb := hb.trans (hn.mono hb.size)
          refine hK.out _ _ (up_iff.2 hb) ?_
          clear hK K
          clear hn
          iterate 4
            refine wpS_takeL rfl rfl ?_
            go_big_quiet_step (rfl)
            refine wpQuiet_nil ?_
          refine wpS_nil ?_
          simp only [List.drop_succ_cons, List.drop_zero]
          have hd := HD.out.of hb
          clear c1 c2 c3 HM hb HD lx ly
          have c3 := hd.outc (j := i + j) (by omega)
          rw [OE.out] at c3
          have f3 := hd.ko.free (i + j)
          have HD := Lib.hid hd
          clear hd
          go_wp2
          go_roundw
          case rel => exact ⟨j + 1, h2', _, by omega, by go_num, rfl, ST.out, HD.out.put _ _⟩
          case measure => simp [intOf]; omega
        · have hj4 : j = 4 := by omega
          subst hj4
          have hst := hp.out.row (show i + 4 < 8 by omega)
          have c3 := hd.outc (j := i + 4) (by omega)
          have f3 := hd.ko.free (i + 4)
          have ST := Lib.hid hst
          have HD := Lib.hid hd
          clear hst hp hd
          go_wp2
          go_roundw
          case rel => exact ⟨i + 1, _, by omega, by go_num, ST.out, HD.out.put _ _⟩
          case measure => simp [intOf]; omega
    · have hi4 : i = 4 := by omega
      subst hi4
      obtain ⟨p1, p2⟩ := hp.out.all rfl
      rw [uval_ws4, uval_ws4, HP.out] at p2
      have hlen := hd.len
      match out, hlen with
      | [o0, o1, o2, o3, o4, o5, o6, o7], _ =>
        obtain ⟨e1, e2⟩ := eight p1 p2
        rw [HZ.out] at e1
        have kc := hd.ko
        have co : (wr.cell? ⟨b3, 0, none⟩ = some (.int .u64 o0) ∧ wr.cell? ⟨b3, 1, none⟩ = some (.int .u64 o1) ∧ wr.cell? ⟨b3, 2, none⟩ = some (.int .u64 o2) ∧ wr.cell? ⟨b3, 3, none⟩ = some (.int .u64 o3)) ∧ (wr.cell? ⟨b3, 4, none⟩ = some (.int .u64 o4) ∧ wr.cell? ⟨b3, 5, none⟩ = some (.int .u64 o5) ∧ wr.cell? ⟨b3, 6, none⟩ = some (.int .u64 o6) ∧ wr.cell? ⟨b3, 7, none⟩ = some (.int .u64 o7)) := ⟨⟨kc.cell 0, kc.cell 1, kc.cell 2, kc.cell 3⟩, kc.cell 4, kc.cell 5, kc.cell 6, kc.cell 7⟩
        have E2 := Lib.hid e2
        have HD := Lib.hid hd
        clear p1 p2 hp kc e2 hd
        cases z
        · have k0 := HD.out.k0
          have c0 := Var.c k0
          have f0 := Var.f k0
          go_wp2
          refine post_world ?_
          intro Wf hWf
          have kf : Var Wf (w.heap.size + 1 + 1) 0 := by rw [hWf]; exact Var.put4 k0 0
          have hbf : Below w.heap.size w Wf := by rw [hWf]; exact below_set4 HD.out.below (by omega) _ _ _ _
          have c := Var.c kf
          clear hWf c0 f0 co
          simp [bodyPost, results, Try.results124, go_sem, c]
          exact hbf
        · have hP : P < b256 := of_decide_eq_true HZ.out
          obtain ⟨q0, q1, q2, q3⟩ := E2.out hP
          subst q0
          subst q1
          subst q2
          subst q3
          clear hP E2
          go_wp2_with fail
          have ca := Var.c HD.out.ka
          have cb := Var.c HD.out.kb
          have la := HD.out.ka.lt
          have lb := HD.out.kb.lt
          have lo := HD.out.ko.lt
          have hu := HU.out
          have co1 := co.1
          clear co
          refine wp_region_up wr.heap.size 11 [(true, 0), (true, 1), (true, 2), (true, 3), (true, 5), (false, 4), (false, 6), (true, 7), (false, 8), (true, 9), (true, 10)] (by kernel_rfl) (by kernel_rfl) (fun _ _ d _ _ h => by cases d <;> exact h) ?_
          have hb : Below wr.heap.size wr wr.drew := (Below.refl _ _).drew
          iterate 5
            refine wpS_takeL rfl rfl ?_
            go_big_quiet_step (rfl)
            refine wpQuiet_nil ?_
          refine wpS_doL rfl ?_
          intro K hK
          go_wp2_with ((first | (go_at_call 88; refine (negative_any _ _).mono ?_; rintro e w2 ⟨rfl, hn⟩) | (go_at_call 139; refine (signedk_is P u s HS.out _).mono ?_; rintro e w3 ⟨rfl, hn⟩)))
          replace hb := hb.trans (hn.mono hb.size)
          refine hK.out _ _ (up_iff.2 hb) ?_
          clear hK K
          clear hn
          refine wpS_doL rfl ?_
          intro K hK
          go_wp2_with ((first | (go_at_call 88; refine (negative_any _ _).mono ?_; rintro e w2 ⟨rfl, hn⟩) | (go_at_call 139; refine (signedk_is P u s HS.out _).mono ?_; rintro e w3 ⟨rfl, hn⟩)))
          replace hb := hb.trans (hn.mono hb.size)
          refine hK.out _ _ (up_iff.2 hb) ?_
          clear hK K
          clear hn
          refine wpS_takeL rfl rfl ?_
          go_big_quiet_step (rfl)
          refine wpQuiet_nil ?_
          refine wpS_doL rfl ?_
          intro K hK
          go_wp2_with ((first | (go_at_call 88; refine (negative_any _ _).mono ?_; rintro e w2 ⟨rfl, hn⟩) | (go_at_call 139; refine (signedk_is P u s HS.out _).mono ?_; rintro e w3 ⟨rfl, hn⟩)))
          replace hb := hb.trans (hn.mono hb.size)
          refine hK.out _ _ (up_iff.2 hb) ?_
          clear hK K
          clear hn
          iterate 2
            refine wpS_takeL rfl rfl ?_
            go_big_quiet_step (rfl)
            refine wpQuiet_nil ?_
          refine wpS_nil ?_
          simp only [List.drop_succ_cons, List.drop_zero]
          have k0 : Var w3 (w.heap.size + 1 + 1) 0 := HD.out.k0.of hb
          have hbb := HD.out.below.trans (hb.mono HD.out.below.size)
          clear ca cb la lb lo hu co1 hb HD
          have c0 := Var.c k0
          have f0 := Var.f k0
          have K0 := Lib.hid k0
          clear k0
          go_wp2
          refine post_world ?_
          intro Wf hWf
          have kf : Var Wf (w.heap.size + 1 + 1) (bif s then sgV P u else 0) := by rw [hWf]; exact Var.put4 K0.out _
          have hbf : Below w.heap.size w Wf := by rw [hWf]; exact below_set4 hbb (by omega) _ _ _ _
          have c := Var.c kf
          clear hWf c0 f0
          simp [bodyPost, results, Try.results124, go_sem, c]
          exact hbf

theorem mul_spec {a b : Int} (ia : InI a) (ib : InI b) (u : Bool) (hu : (ng a != ng b) = u) (P : Int) (hP : sz a * sz b = P) :
    (decide (P < b256) && sgB P u) = okI (a * b) ∧ (bif u then -P else P) = a * b ∧ 0 ≤ P := by
  have ha := sz_in ia
  have hb := sz_in ib
  have na := ng_in ia
  have nb := ng_in ib
  have hp0 : 0 ≤ P := by rw [← hP, ha, hb]; exact Int.mul_nonneg (by omega) (by omega)
  have hv : (bif u then -P else P) = a * b := by
    rw [← hu, ← hP, ha, hb, na, nb]
    rcases Int.lt_or_le a 0 with h1 | h1 <;> rcases Int.lt_or_le b 0 with h2 | h2
    · rw [Int.ofNat_natAbs_of_nonpos (by omega), Int.ofNat_natAbs_of_nonpos (by omega)]; simp [h1, h2, Int.neg_mul_neg]
    · rw [Int.ofNat_natAbs_of_nonpos (by omega), Int.natAbs_of_nonneg h2]; simp [h1, Int.not_lt.2 h2, Int.neg_mul]
    · rw [Int.natAbs_of_nonneg h1, Int.ofNat_natAbs_of_nonpos (by omega)]; simp [h2, Int.not_lt.2 h1, Int.mul_neg]
    · rw [Int.natAbs_of_nonneg h1, Int.natAbs_of_nonneg h2]; simp [Int.not_lt.2 h1, Int.not_lt.2 h2]
  refine ⟨?_, hv, hp0⟩
  rw [← hv]
  rw [Bool.eq_iff_iff]
  unfold okI
  rw [Bool.and_eq_true, decide_eq_true_iff, decide_eq_true_iff]
  unfold sgB InI
  cases u
  · rw [cond_false, cond_false, Bool.not_eq_true', ← Bool.not_eq_true, ng_iff]
    unfold b255 b256 at *; omega
  · rw [cond_true, cond_true, Bool.or_eq_true, ng_iff, eq4_0, decide_eq_true_iff]
    unfold b255 b256 at *; omega

theorem Mul_ok (x y : Int) (w : World) (ix : InI x) (iy : InI y) : Calls Try.prog 124 #[wI x, wI y] w fun e w' => e = .returned (.tuple #[wI (bif okI (x * y) then x * y else 0), .bool (okI (x * y))]) ∧ Below w.heap.size w w' := by
  obtain ⟨u, hu⟩ : ∃ u, (ng x != ng y) = u := ⟨_, rfl⟩
  obtain ⟨P, hP⟩ : ∃ P, sz x * sz y = P := ⟨_, rfl⟩
  obtain ⟨h1, h2, h3⟩ := mul_spec ix iy u hu P hP
  have b1 := sz_bd ix
  have b2 := sz_bd iy
  have e1 : sz x % b256 = sz x := Int.emod_eq_of_lt b1.1 (by unfold b255 b256 at *; omega)
  have e2 : sz y % b256 = sz y := Int.emod_eq_of_lt b2.1 (by unfold b255 b256 at *; omega)
  have T := Mul_go x y w u (by rw [← hu]; cases ng x <;> cases ng y <;> rfl) P (by rw [e1, e2]; exact hP) _ rfl _ rfl
  rw [h1] at T
  unfold sgV at T
  rw [h2] at T
  exact T
theorem Mul_is (x y : Int) (o : Bool) (ho : okI (x * y) = o) (p : Int) (hp : (bif o then x * y else 0) = p) (w : World) (ix : InI x) (iy : InI y) :
    Calls Try.prog 124 #[wI x, wI y] w fun e w' => e = .returned (.tuple #[wI p, .bool o]) ∧ Below w.heap.size w w' := by
  subst ho; subst hp; exact Mul_ok x y w ix iy
theorem Add_is (x y : Int) (o : Bool) (ho : okI (x + y) = o) (p : Int) (hp : (bif o then x + y else 0) = p) (w : World) (ix : InI x) (iy : InI y) :
    Calls Try.prog 122 #[wI x, wI y] w fun e w' => e = .returned (.tuple #[wI p, .bool o]) ∧ Below w.heap.size w w' := by
  subst ho; subst hp; exact Add_ok x y w ix iy
theorem Sub_is (x y : Int) (o : Bool) (ho : okI (x - y) = o) (p : Int) (hp : (bif o then x - y else 0) = p) (w : World) (ix : InI x) (iy : InI y) :
    Calls Try.prog 123 #[wI x, wI y] w fun e w' => e = .returned (.tuple #[wI p, .bool o]) ∧ Below w.heap.size w w' := by
  subst ho; subst hp; exact Sub_ok x y w ix iy
end Go.Proofs.Ytlcbomjdbdgbmaa
namespace Go.Proofs.Ytlcbomjdbdgbmaa
open Go.RowKit

/-- the Go value of a point -/
abbrev pC (x y : Int) : Array Value := #[.int .i64 x, .int .i64 y]
abbrev pI (x y : Int) : Value := .agg (pC x y)
/-- may a number be a coordinate? -/
def inC (x : Int) : Bool := decide (-2199023255552 ≤ x) && decide (x ≤ 2199023255552)

theorem within_any (x : Int) (w : World) : Calls Try.prog 79 #[.int .i64 x] w fun e w' => e = .returned (.bool (inC x)) ∧ Below w.heap.size w w' := by
  unfold inC
  by_cases h : -2199023255552 ≤ x <;> by_cases h2 : x ≤ 2199023255552
  all_goals
    go_enter Try.func79, Try.ntmps79
    go_wp2
    go_ret
    exact ⟨by simp [h, h2], Below.refl _ _⟩

set_option maxRecDepth 100000 in
set_option maxHeartbeats 1000000 in
theorem PtRight_any (x y : Int) (w : World) : Calls Try.prog 17 #[pI x y] w fun e w' => e = .returned (.bool (inC x && inC y)) ∧ Below w.heap.size w w' := by
  obtain ⟨bx, hbx⟩ : ∃ b, inC x = b := ⟨_, rfl⟩
  obtain ⟨by', hby⟩ : ∃ b, inC y = b := ⟨_, rfl⟩
  rw [hbx, hby]
  have HX := Lib.hid hbx
  have HY := Lib.hid hby
  clear hbx hby
  go_enter Try.func17, Try.ntmps17
  go_wp2_with fail
  refine (within_any x _).mono ?_
  rintro e w2 ⟨rfl, hn⟩
  rw [HX.out]
  have kp : Blk w2 w.heap.size (pC x y) 24 := (Blk.new w _ _).of hn
  have hb0 := (below_a1 w _).trans (hn.mono (by simp))
  have c0 := kp.cell 0
  have c1 := kp.cell 1
  have l0 := kp.lt
  clear kp
  cases bx
  · go_wp2
    go_ret
    exact ⟨rfl, hb0⟩
  · go_wp2_with fail
    refine (within_any y _).mono ?_
    rintro e w3 ⟨rfl, hn3⟩
    rw [HY.out]
    go_wp2
    go_ret
    exact ⟨by simp, hb0.trans (hn3.mono hb0.size)⟩
end Go.Proofs.Ytlcbomjdbdgbmaa

namespace Go.Proofs.Ytlcbomjdbdgbmaa
open Go.RowKit

/-- a variable that holds a point -/
abbrev PVar (w : World) (b : Nat) (x y : Int) : Prop := Blk w b (pC x y) 24
theorem PVar.c {w : World} {b : Nat} {x y : Int} (h : PVar w b x y) : w.cell? ⟨b, 0, none⟩ = some (.int .i64 x) ∧ w.cell? ⟨b, 1, none⟩ = some (.int .i64 y) := ⟨h.cell 0, h.cell 1⟩

end Go.Proofs.Ytlcbomjdbdgbmaa
namespace Go.Proofs.Ytlcbomjdbdgbmaa
open Go.RowKit

/-- a slice of points -/
structure Pts (w : World) (ao : Option Addr) (n cap : Nat) (X Y : Nat → Int) : Prop where
  ptr : 0 < n → ∃ a, ao = some a ∧ a.block < w.heap.size ∧ ∀ i, i < n → w.cell? (a.add (i * 2)) = some (.int .i64 (X i)) ∧ w.cell? ((a.add (i * 2)).add 1) = some (.int .i64 (Y i))
  capl : n ≤ cap
  capb : cap ≤ 9223372036854775807
theorem Pts.of {w w' : World} {ao : Option Addr} {n cap : Nat} {X Y : Nat → Int} (h : Pts w ao n cap X Y) (hb : Below w.heap.size w w') : Pts w' ao n cap X Y := by
  refine ⟨fun h0 => ?_, h.capl, h.capb⟩
  obtain ⟨a, h1, h2, h3⟩ := h.ptr h0
  refine ⟨a, h1, Nat.lt_of_lt_of_le h2 hb.size, fun i hi => ?_⟩
  have e1 : ∀ k, (a.add k).block = a.block := fun k => by unfold Addr.add; split <;> rfl
  have e2 : ∀ k l, ((a.add k).add l).block = a.block := fun k l => by unfold Addr.add; split <;> split <;> rfl
  rw [hb.cell (by rw [e1]; exact h2), hb.cell (by rw [e2]; exact h2)]
  exact h3 i hi
/-- three, four values by their number -/
def f3 (a b c : Int) : Nat → Int | 0 => a | 1 => b | _ => c
def f4 (a b c d : Int) : Nat → Int | 0 => a | 1 => b | 2 => c | _ => d
/-- may it be a point? -/
def rp (x y : Int) : Bool := inC x && inC y
end Go.Proofs.Ytlcbomjdbdgbmaa
namespace Go.Proofs.Ytlcbomjdbdgbmaa
open Go.RowKit

end Go.Proofs.Ytlcbomjdbdgbmaa
namespace Go.Proofs.Ytlcbomjdbdgbmaa
open Go.RowKit

end Go.Proofs.Ytlcbomjdbdgbmaa
namespace Go.Proofs.Ytlcbomjdbdgbmaa
open Go.RowKit

end Go.Proofs.Ytlcbomjdbdgbmaa
namespace Go.Proofs.Ytlcbomjdbdgbmaa
open Go.RowKit

end Go.Proofs.Ytlcbomjdbdgbmaa
namespace Go.Proofs.Ytlcbomjdbdgbmaa
open Go.RowKit

set_option maxRecDepth 100000 in
set_option maxHeartbeats 1000000 in
theorem rRight_any (x y : Int) (w : World) : Calls Try.prog 26 #[pI x y] w fun e w' => e = .returned (.bool (rp x y)) ∧ Below w.heap.size w w' := by
  obtain ⟨t, ht⟩ : ∃ t, rp x y = t := ⟨_, rfl⟩
  rw [ht]
  have HT := Lib.hid ht
  clear ht
  by_cases h1 : -2199023255552 ≤ x <;> by_cases h2 : x ≤ 2199023255552 <;> by_cases h3 : -2199023255552 ≤ y <;> by_cases h4 : y ≤ 2199023255552
  all_goals first | (exfalso; omega) | skip
  all_goals
    go_enter Try.func26, Try.ntmps26
    go_wp2
    go_ret
    refine ⟨congrArg (fun t => Ending.returned (.bool t)) ?_, below_a1 _ _⟩
    rw [← HT.out]; unfold rp inC; rw [Bool.eq_iff_iff]; simp; omega

end Go.Proofs.Ytlcbomjdbdgbmaa
namespace Go.Proofs.Ytlcbomjdbdgbmaa
open Go.RowKit

end Go.Proofs.Ytlcbomjdbdgbmaa

namespace Go.Proofs.Ytlcbomjdbdgbmaa
open Go.RowKit

/-- a row of stores -/
@[reducible] def setL : World → Nat → Nat → List Value → World
  | w, _, _, [] => w
  | w, b, o, v :: l => setL (w.setCell ⟨b, o, none⟩ v) b (o + 1) l
def putA : Array Value → Nat → List Value → Array Value
  | c, _, [] => c
  | c, o, v :: l => putA (c.setIfInBounds o v) (o + 1) l
theorem blk_setL {w : World} {b b' : Nat} {c : Array Value} {t : TypeId} (h : Blk w b c t) (hne : b ≠ b') (o : Nat) (l : List Value) : Blk (setL w b' o l) b c t := by
  induction l generalizing w o with
  | nil => exact h
  | cons v l ih => unfold setL; exact ih (h.set hne _ _ _) _
theorem blk_putL {w : World} {b : Nat} {c : Array Value} {t : TypeId} (h : Blk w b c t) (o : Nat) (l : List Value) : Blk (setL w b o l) b (putA c o l) t := by
  induction l generalizing w o c with
  | nil => exact h
  | cons v l ih => unfold setL putA; exact ih (h.put _ _) _
theorem putA_full (p q l : List Value) (h : q.length = l.length) : putA (p ++ q).toArray p.length l = (p ++ l).toArray := by
  induction l generalizing p q with
  | nil => cases q with
    | nil => rfl
    | cons x q => cases h
  | cons v l ih => cases q with
    | nil => cases h
    | cons x q =>
      unfold putA
      have e : ((p ++ x :: q).toArray.setIfInBounds p.length v) = ((p ++ [v]) ++ q).toArray := by simp
      rw [e, show p.length + 1 = (p ++ [v]).length by simp, ih (p ++ [v]) q (by simpa using h)]
      simp
theorem blk_full {w : World} {b : Nat} {t : TypeId} (q l : List Value) (h : Blk w b q.toArray t) (hl : q.length = l.length) : Blk (setL w b 0 l) b l.toArray t := by
  have := blk_putL h 0 l
  rw [show putA q.toArray 0 l = l.toArray from putA_full [] q l hl] at this
  exact this
theorem blw_setL {B : Nat} {W w : World} {b : Nat} (h : Below B W w) (hB : B ≤ b) (o : Nat) (l : List Value) : Below B W (setL w b o l) := by
  induction l generalizing w o with
  | nil => exact h
  | cons v l ih => unfold setL; exact ih (h.setCell hB _) _
theorem blw_al {W w : World} (h : Below W.heap.size W w) (o : Obj) : Below W.heap.size W (w.alloc o) := h.alloc h.size o
theorem args_eq {f : FuncId} {a a' : Array Value} {w : World} {R : Ending → World → Prop} (h : Calls Try.prog f a w R) (ha : a = a') : Calls Try.prog f a' w R := ha ▸ h
theorem wrap64_in (x : Int) : In64 (wrap64 x) := by unfold wrap64 In64; omega
theorem wrap64_id {x : Int} (h : In64 x) : wrap64 x = x := by unfold wrap64; unfold In64 at h; omega
theorem cond_in {e : Bool} {a b : Int} (ha : InI a) (hb : InI b) : InI (bif e then a else b) := by cases e; exact hb; exact ha
theorem in_0 : InI 0 := by unfold InI b255; omega
theorem in64_I' {x : Int} (h : In64 x) : InI x := by unfold In64 at h; unfold InI b255; omega
/-- the product, if it fits; else 0 -/
def mulv (x y : Int) : Int := bif okI (x * y) then x * y else 0
def addv (x y : Int) : Int := bif okI (x + y) then x + y else 0
def subv (x y : Int) : Int := bif okI (x - y) then x - y else 0
theorem ok_in {z : Int} : InI (bif okI z then z else 0) := by
  cases h : okI z
  · exact in_0
  · exact of_decide_eq_true h
theorem mulv_in (x y : Int) : InI (mulv x y) := ok_in
theorem addv_in (x y : Int) : InI (addv x y) := ok_in
theorem subv_in (x y : Int) : InI (subv x y) := ok_in
theorem mulv_id {x y : Int} (h : InI (x * y)) : mulv x y = x * y := by unfold mulv; rw [show okI (x * y) = true from decide_eq_true h]; rfl
theorem subv_id {x y : Int} (h : InI (x - y)) : subv x y = x - y := by unfold subv; rw [show okI (x - y) = true from decide_eq_true h]; rfl
theorem Mul_v (x y p : Int) (o : Bool) (hp : mulv x y = p) (ho : okI (x * y) = o) (ix : InI x) (iy : InI y) (w : World) :
    Calls Try.prog 124 #[wI x, wI y] w fun e w' => e = .returned (.tuple #[wI p, .bool o]) ∧ Below w.heap.size w w' := by
  refine Mul_is x y o ho p ?_ w ix iy
  rw [← ho]; exact hp
theorem Add_v (x y p : Int) (o : Bool) (hp : addv x y = p) (ho : okI (x + y) = o) (ix : InI x) (iy : InI y) (w : World) :
    Calls Try.prog 122 #[wI x, wI y] w fun e w' => e = .returned (.tuple #[wI p, .bool o]) ∧ Below w.heap.size w w' := by
  refine Add_is x y o ho p ?_ w ix iy
  rw [← ho]; exact hp
theorem Sub_v (x y p : Int) (o : Bool) (hp : subv x y = p) (ho : okI (x - y) = o) (ix : InI x) (iy : InI y) (w : World) :
    Calls Try.prog 123 #[wI x, wI y] w fun e w' => e = .returned (.tuple #[wI p, .bool o]) ∧ Below w.heap.size w w' := by
  refine Sub_is x y o ho p ?_ w ix iy
  rw [← ho]; exact hp
def dvq (x y : Int) : Int := bif dvOk x y then fq x y else 0
def dvr (x y : Int) : Int := bif dvOk x y then fr x y else 0
theorem Div_v (x y q r : Int) (o : Bool) (hq : dvq x y = q) (hr : dvr x y = r) (ho : dvOk x y = o) (ix : InI x) (iy : InI y) (w : World) :
    Calls Try.prog 109 #[wI x, wI y] w fun e w' => e = .returned (.tuple #[wI q, wI r, .bool o]) ∧ Below w.heap.size w w' := by
  have T := Div_any x y w ix iy
  unfold dvq at hq; unfold dvr at hr
  rw [ho] at T hq hr
  subst hq; subst hr
  cases o <;> exact T
theorem dv_in {x y : Int} (ix : InI x) (iy : InI y) (h : dvOk x y = true) : InI (fq x y) ∧ InI (fr x y) := by
  unfold dvOk at h
  simp only [Bool.and_eq_true, decide_eq_true_eq] at h
  obtain ⟨s1, _, n0, n1, _, _⟩ := dv_spec ix iy h.1
  refine ⟨⟨?_, h.2⟩, ?_⟩
  · rw [← s1]
    clear s1
    generalize (ng x != ng y) = u at n0 n1 ⊢
    cases u
    · rw [cond_false]; unfold b255 at *; omega
    · rw [cond_true]; unfold b255 at *; omega
  · obtain ⟨j1, j2⟩ := iy
    rcases Int.lt_or_gt_of_ne h.1 with hn | hp
    · have := fr_neg (x := x) hn; unfold b255 at *; exact ⟨by unfold b255; omega, by unfold b255; omega⟩
    · have := fr_pos (x := x) hp; unfold b255 at *; exact ⟨by unfold b255; omega, by unfold b255; omega⟩
theorem dvq_in {x y : Int} (ix : InI x) (iy : InI y) : InI (dvq x y) := by
  unfold dvq
  cases h : dvOk x y
  · exact in_0
  · exact (dv_in ix iy h).1
theorem Cmp_v (x y c : Int) (h : cmpI x y = c) (ix : InI x) (iy : InI y) (w : World) :
    Calls Try.prog 107 #[wI x, wI y] w fun e w' => e = .returned (.int .i64 c) ∧ Below w.heap.size w w' := h ▸ Cmp_any x y w ix iy
theorem Sign_v (x c : Int) (h : x.sign = c) (ix : InI x) (w : World) :
    Calls Try.prog 22 #[wI x] w fun e w' => e = .returned (.int .i64 c) ∧ Below w.heap.size w w' := h ▸ Sign_any x w ix
theorem Of_v (n d : Int) (h : n = d) (g : In64 n) (w : World) :
    Calls Try.prog 62 #[.int .i64 n] w fun e w' => e = .returned (wI d) ∧ Below w.heap.size w w' := h ▸ Of_any n w g
theorem PtRight_v (ax ay : Int) (c : Bool) (h : rp ax ay = c) (w : World) :
    Calls Try.prog 17 #[pI ax ay] w fun e w' => e = .returned (.bool c) ∧ Below w.heap.size w w' := h ▸ PtRight_any ax ay w
def smk (x : Int) : Int := bif decide (In64 x) then x else 0
theorem Small_v (x c : Int) (o : Bool) (hc : smk x = c) (ho : decide (In64 x) = o) (ix : InI x) (w : World) :
    Calls Try.prog 110 #[wI x] w fun e w' => e = .returned (.tuple #[.int .i64 c, .bool o]) ∧ Below w.heap.size w w' := by
  have T := Small_any x w ix o ho
  unfold smk at hc; rw [ho] at hc; rw [hc] at T; exact T
@[go_sem] theorem eq4_self (a b c d : Int) : eq4 a b c d a b c d = true := by unfold eq4; simp
@[go_sem] theorem eq4_00 : eq4 (wd0 0) (wd1 0) (wd2 0) (wd3 0) 0 0 0 0 = true := by decide
/-- two points alike? -/
def eqP (ax ay bx b_y : Int) : Bool := ax == bx && ay == b_y
theorem run_eqP0 (a b c d : Int) (w : World) :
    (Op.equalIn 10000 24 (.agg #[.int .i64 a, .int .i64 b]) (.agg #[.int .i64 c, .int .i64 d])).run Try.prog w = .ok (eqP a b c d) w := by
  unfold eqP
  by_cases h0 : a = c <;> by_cases h1 : b = d
  all_goals go_simp
@[go_sem] theorem run_eqlP (a b c d : Int) (w : World) :
    (binOp .eql 24 (.agg #[.int .i64 a, .int .i64 b]) (.agg #[.int .i64 c, .int .i64 d])).run Try.prog w = .ok (.bool (eqP a b c d)) w := by
  rw [run_eql_struct, run_eqP0]; rfl
@[go_sem] theorem run_neqP (a b c d : Int) (w : World) :
    (binOp .neq 24 (.agg #[.int .i64 a, .int .i64 b]) (.agg #[.int .i64 c, .int .i64 d])).run Try.prog w = .ok (.bool (!eqP a b c d)) w := by
  rw [run_neq_struct, run_eqP0]; rfl
end Go.Proofs.Ytlcbomjdbdgbmaa

namespace Go.Proofs.Ytlcbomjdbdgbmaa
open Go.RowKit

set_option maxRecDepth 100000 in
set_option maxHeartbeats 4000000 in

theorem crtimes_is (x : Int) (y : Int)  (R0 : Int) (hR0 : mulv x y = R0) (_ix : InI x) (_iy : InI y)  (w : World)  :
    Calls Try.prog 106 #[.agg #[.int .u64 (wd0 x), .int .u64 (wd1 x), .int .u64 (wd2 x), .int .u64 (wd3 x)], .agg #[.int .u64 (wd0 y), .int .u64 (wd1 y), .int .u64 (wd2 y), .int .u64 (wd3 y)]] w fun e w' => e = .returned (.agg #[.int .u64 (wd0 R0), .int .u64 (wd1 R0), .int .u64 (wd2 R0), .int .u64 (wd3 R0)]) ∧ Below w.heap.size w w' := by

  have HR0 := Lib.hid hR0
  clear hR0
  go_enter Try.func106, Try.ntmps106
  go_wp2_with fail
  first | refine calls_w ?_ | refine name_world ?_ | refine list_world ?_ | refine post_world ?_
  intro V1 hV1
  have hn : Below w.heap.size w V1 := by rw [hV1]; exact below_a3 _ _ _ _
  have nhb0 := hn
  have k1 : Blk V1 w.heap.size #[.int .u64 (wd0 x), .int .u64 (wd1 x), .int .u64 (wd2 x), .int .u64 (wd3 x)] 35 := by rw [hV1]; exact (((Blk.new _ _ _).alloc _).alloc _)
  have k2 : Blk V1 (w.heap.size + 1) #[.int .u64 (wd0 y), .int .u64 (wd1 y), .int .u64 (wd2 y), .int .u64 (wd3 y)] 35 := by rw [hV1]; exact ((Blk.new1 _ _ _ _).alloc _)
  have k3 : Blk V1 (w.heap.size + 1 + 1) #[.int .u64 0, .int .u64 0, .int .u64 0, .int .u64 0] 35 := by rw [hV1]; exact (Blk.new2 _ _ _ _ _)
  clear hV1
  have hb0 := nhb0
  clear nhb0
  obtain ⟨r1, hr1⟩ : ∃ o_o : Int, mulv x y = o_o := ⟨_, rfl⟩
  have Hr1 := Lib.hid hr1
  clear hr1
  obtain ⟨z2, hz2⟩ : ∃ o_o : Bool, okI (x * y) = o_o := ⟨_, rfl⟩
  have Hz2 := Lib.hid hz2
  clear hz2
  refine (Mul_v x y r1 z2 Hr1.out Hz2.out _ix _iy _).mono ?_
  rintro e U2 ⟨rfl, hn⟩
  clear k1 k2
  replace k3 := k3.of hn
  replace hb0 := hb0.trans (hn.mono hb0.size)
  clear hn
  have c3_0 : U2.cell? ⟨(w.heap.size + 1 + 1), 0, none⟩ = some (.int .u64 0) := k3.cell 0
  have c3_1 : U2.cell? ⟨(w.heap.size + 1 + 1), 1, none⟩ = some (.int .u64 0) := k3.cell 1
  have c3_2 : U2.cell? ⟨(w.heap.size + 1 + 1), 2, none⟩ = some (.int .u64 0) := k3.cell 2
  have c3_3 : U2.cell? ⟨(w.heap.size + 1 + 1), 3, none⟩ = some (.int .u64 0) := k3.cell 3
  have f3_0 := k3.free 0
  have f3_1 := k3.free 1
  have f3_2 := k3.free 2
  have f3_3 := k3.free 3
  have l3 := k3.lt
  have l3_0 : w.heap.size < U2.heap.size := by have := k3.lt; omega
  have l3_1 : w.heap.size + 1 < U2.heap.size := by have := k3.lt; omega
  have e0 : r1 = R0 := by rw [← HR0.out]; (try rw [Hr1.out]); (try rw [Hz2.out]); all_goals first | rfl | simp
  subst e0
  go_wp2
  clear c3_0 c3_1 c3_2 c3_3 f3_0 f3_1 f3_2 f3_3 l3 l3_0 l3_1
  first | refine post_world ?_
  intro V3 hV3
  have D1 := Lib.hid k3.lt
  have D2 := Lib.hid hb0.size
  have nk3 : Blk V3 (w.heap.size + 1 + 1) #[.int .u64 (wd0 r1), .int .u64 (wd1 r1), .int .u64 (wd2 r1), .int .u64 (wd3 r1)] 35 := by rw [hV3]; exact ((blk_full _ [.int .u64 (wd0 r1), .int .u64 (wd1 r1), .int .u64 (wd2 r1), .int .u64 (wd3 r1)] k3 rfl).alloc _)
  have nhb0 : Below w.heap.size w V3 := by rw [hV3]; exact (blw_al (blw_setL hb0 (by omega) 0 [.int .u64 (wd0 r1), .int .u64 (wd1 r1), .int .u64 (wd2 r1), .int .u64 (wd3 r1)]) _)
  clear k3
  clear hb0
  clear hV3
  have k3 := nk3
  clear nk3
  have hb0 := nhb0
  clear nhb0
  have g3_0 : V3.cell? ⟨(w.heap.size + 1 + 1), 0, none⟩ = some (.int .u64 (wd0 r1)) := k3.cell 0
  have g3_1 : V3.cell? ⟨(w.heap.size + 1 + 1), 1, none⟩ = some (.int .u64 (wd1 r1)) := k3.cell 1
  have g3_2 : V3.cell? ⟨(w.heap.size + 1 + 1), 2, none⟩ = some (.int .u64 (wd2 r1)) := k3.cell 2
  have g3_3 : V3.cell? ⟨(w.heap.size + 1 + 1), 3, none⟩ = some (.int .u64 (wd3 r1)) := k3.cell 3
  clear k3
  simp [bodyPost, results, Try.results106, go_sem, g3_0, g3_1, g3_2, g3_3]
  first | exact hb0 | exact ⟨rfl, hb0⟩

set_option maxRecDepth 100000 in
set_option maxHeartbeats 4000000 in

theorem crless_is (x : Int) (y : Int)  (R0 : Int) (hR0 : subv x y = R0) (_ix : InI x) (_iy : InI y)  (w : World)  :
    Calls Try.prog 108 #[.agg #[.int .u64 (wd0 x), .int .u64 (wd1 x), .int .u64 (wd2 x), .int .u64 (wd3 x)], .agg #[.int .u64 (wd0 y), .int .u64 (wd1 y), .int .u64 (wd2 y), .int .u64 (wd3 y)]] w fun e w' => e = .returned (.agg #[.int .u64 (wd0 R0), .int .u64 (wd1 R0), .int .u64 (wd2 R0), .int .u64 (wd3 R0)]) ∧ Below w.heap.size w w' := by

  have HR0 := Lib.hid hR0
  clear hR0
  go_enter Try.func108, Try.ntmps108
  go_wp2_with fail
  first | refine calls_w ?_ | refine name_world ?_ | refine list_world ?_ | refine post_world ?_
  intro V1 hV1
  have hn : Below w.heap.size w V1 := by rw [hV1]; exact below_a3 _ _ _ _
  have nhb0 := hn
  have k1 : Blk V1 w.heap.size #[.int .u64 (wd0 x), .int .u64 (wd1 x), .int .u64 (wd2 x), .int .u64 (wd3 x)] 35 := by rw [hV1]; exact (((Blk.new _ _ _).alloc _).alloc _)
  have k2 : Blk V1 (w.heap.size + 1) #[.int .u64 (wd0 y), .int .u64 (wd1 y), .int .u64 (wd2 y), .int .u64 (wd3 y)] 35 := by rw [hV1]; exact ((Blk.new1 _ _ _ _).alloc _)
  have k3 : Blk V1 (w.heap.size + 1 + 1) #[.int .u64 0, .int .u64 0, .int .u64 0, .int .u64 0] 35 := by rw [hV1]; exact (Blk.new2 _ _ _ _ _)
  clear hV1
  have hb0 := nhb0
  clear nhb0
  obtain ⟨r1, hr1⟩ : ∃ o_o : Int, subv x y = o_o := ⟨_, rfl⟩
  have Hr1 := Lib.hid hr1
  clear hr1
  obtain ⟨z2, hz2⟩ : ∃ o_o : Bool, okI (x - y) = o_o := ⟨_, rfl⟩
  have Hz2 := Lib.hid hz2
  clear hz2
  refine (Sub_v x y r1 z2 Hr1.out Hz2.out _ix _iy _).mono ?_
  rintro e U2 ⟨rfl, hn⟩
  clear k1 k2
  replace k3 := k3.of hn
  replace hb0 := hb0.trans (hn.mono hb0.size)
  clear hn
  have c3_0 : U2.cell? ⟨(w.heap.size + 1 + 1), 0, none⟩ = some (.int .u64 0) := k3.cell 0
  have c3_1 : U2.cell? ⟨(w.heap.size + 1 + 1), 1, none⟩ = some (.int .u64 0) := k3.cell 1
  have c3_2 : U2.cell? ⟨(w.heap.size + 1 + 1), 2, none⟩ = some (.int .u64 0) := k3.cell 2
  have c3_3 : U2.cell? ⟨(w.heap.size + 1 + 1), 3, none⟩ = some (.int .u64 0) := k3.cell 3
  have f3_0 := k3.free 0
  have f3_1 := k3.free 1
  have f3_2 := k3.free 2
  have f3_3 := k3.free 3
  have l3 := k3.lt
  have l3_0 : w.heap.size < U2.heap.size := by have := k3.lt; omega
  have l3_1 : w.heap.size + 1 < U2.heap.size := by have := k3.lt; omega
  have e0 : r1 = R0 := by rw [← HR0.out]; (try rw [Hr1.out]); (try rw [Hz2.out]); all_goals first | rfl | simp
  subst e0
  go_wp2
  clear c3_0 c3_1 c3_2 c3_3 f3_0 f3_1 f3_2 f3_3 l3 l3_0 l3_1
  first | refine post_world ?_
  intro V3 hV3
  have D1 := Lib.hid k3.lt
  have D2 := Lib.hid hb0.size
  have nk3 : Blk V3 (w.heap.size + 1 + 1) #[.int .u64 (wd0 r1), .int .u64 (wd1 r1), .int .u64 (wd2 r1), .int .u64 (wd3 r1)] 35 := by rw [hV3]; exact ((blk_full _ [.int .u64 (wd0 r1), .int .u64 (wd1 r1), .int .u64 (wd2 r1), .int .u64 (wd3 r1)] k3 rfl).alloc _)
  have nhb0 : Below w.heap.size w V3 := by rw [hV3]; exact (blw_al (blw_setL hb0 (by omega) 0 [.int .u64 (wd0 r1), .int .u64 (wd1 r1), .int .u64 (wd2 r1), .int .u64 (wd3 r1)]) _)
  clear k3
  clear hb0
  clear hV3
  have k3 := nk3
  clear nk3
  have hb0 := nhb0
  clear nhb0
  have g3_0 : V3.cell? ⟨(w.heap.size + 1 + 1), 0, none⟩ = some (.int .u64 (wd0 r1)) := k3.cell 0
  have g3_1 : V3.cell? ⟨(w.heap.size + 1 + 1), 1, none⟩ = some (.int .u64 (wd1 r1)) := k3.cell 1
  have g3_2 : V3.cell? ⟨(w.heap.size + 1 + 1), 2, none⟩ = some (.int .u64 (wd2 r1)) := k3.cell 2
  have g3_3 : V3.cell? ⟨(w.heap.size + 1 + 1), 3, none⟩ = some (.int .u64 (wd3 r1)) := k3.cell 3
  clear k3
  simp [bodyPost, results, Try.results108, go_sem, g3_0, g3_1, g3_2, g3_3]
  first | exact hb0 | exact ⟨rfl, hb0⟩

def sgR (ax : Int) (ay : Int) (bx : Int) (b_y : Int) : Bool := (bif (rp ax ay) then (rp bx b_y) else false)

set_option maxRecDepth 100000 in
set_option maxHeartbeats 4000000 in

theorem SegRight_is (ax : Int) (ay : Int) (bx : Int) (b_y : Int)  (R0 : Bool) (hR0 : sgR ax ay bx b_y = R0) (_iax : In64 ax) (_iay : In64 ay) (_ibx : In64 bx) (_ib_y : In64 b_y)  (w : World)  :
    Calls Try.prog 53 #[.agg #[.int .i64 ax, .int .i64 ay, .int .i64 bx, .int .i64 b_y]] w fun e w' => e = .returned (.bool R0) ∧ Below w.heap.size w w' := by

  have HR0 := Lib.hid hR0
  clear hR0
  go_enter Try.func53, Try.ntmps53
  go_wp2_with fail
  first | refine calls_w ?_ | refine name_world ?_ | refine list_world ?_ | refine post_world ?_
  intro V1 hV1
  have hn : Below w.heap.size w V1 := by rw [hV1]; exact below_a1 _ _
  have nhb0 := hn
  have k1 : Blk V1 w.heap.size #[.int .i64 ax, .int .i64 ay, .int .i64 bx, .int .i64 b_y] 50 := by rw [hV1]; exact (Blk.new _ _ _)
  clear hV1
  have hb0 := nhb0
  clear nhb0
  obtain ⟨z1, hz1⟩ : ∃ o_o : Bool, rp ax ay = o_o := ⟨_, rfl⟩
  have Hz1 := Lib.hid hz1
  clear hz1
  refine (PtRight_v ax ay z1 Hz1.out _).mono ?_
  rintro e U2 ⟨rfl, hn⟩
  replace k1 := k1.of hn
  replace hb0 := hb0.trans (hn.mono hb0.size)
  clear hn
  cases z1
  · have e0 : false = R0 := by rw [← HR0.out]; unfold sgR; (try rw [Hz1.out]); all_goals first | rfl | simp
    subst e0
    go_wp2
    first | go_ret | go_ret2
    exact ⟨by first | rfl | simp, hb0⟩
  · have c1_2 : U2.cell? ⟨w.heap.size, 2, none⟩ = some (.int .i64 bx) := k1.cell 2
    have c1_3 : U2.cell? ⟨w.heap.size, 3, none⟩ = some (.int .i64 b_y) := k1.cell 3
    have l1 := k1.lt
    go_wp2_with fail
    clear c1_2 c1_3 l1
    obtain ⟨z2, hz2⟩ : ∃ o_o : Bool, rp bx b_y = o_o := ⟨_, rfl⟩
    have Hz2 := Lib.hid hz2
    clear hz2
    refine (PtRight_v bx b_y z2 Hz2.out _).mono ?_
    rintro e U3 ⟨rfl, hn⟩
    clear k1
    replace hb0 := hb0.trans (hn.mono hb0.size)
    clear hn
    have e0 : z2 = R0 := by rw [← HR0.out]; unfold sgR; (try rw [Hz1.out]); (try rw [Hz2.out]); all_goals first | rfl | simp
    subst e0
    go_wp2
    first | go_ret | go_ret2
    exact ⟨by first | rfl | simp, hb0⟩

end Go.Proofs.Ytlcbomjdbdgbmaa

namespace Go.Proofs.Ytlcbomjdbdgbmaa
open Go.RowKit

end Go.Proofs.Ytlcbomjdbdgbmaa
namespace Go.Proofs.Ytlcbomjdbdgbmaa
open Go.RowKit

/-- where crossed stands -/
structure CrAt (w : World) (n d m e p q : Int) (wr : World) : Prop where
  kr : RVar wr w.heap.size n d
  ks : RVar wr (w.heap.size + 1) m e
  kp : Var wr (w.heap.size + 1 + 1) p
  kq : Var wr (w.heap.size + 1 + 1 + 1) q
  below : Below w.heap.size w wr
theorem CrAt.of {w : World} {n d m e p q : Int} {wr w' : World} (h : CrAt w n d m e p q wr) (hn : Below wr.heap.size wr w') : CrAt w n d m e p q w' :=
  ⟨h.kr.of hn, h.ks.of hn, h.kp.of hn, h.kq.of hn, h.below.trans (hn.mono h.below.size)⟩
theorem CrAt.setp {w : World} {n d m e p q : Int} {wr : World} (h : CrAt w n d m e p q wr) (y : Int) : CrAt w n d m e y q
    ((((wr.setCell ⟨w.heap.size + 1 + 1, 0, none⟩ (.int .u64 (wd0 y))).setCell ⟨w.heap.size + 1 + 1, 1, none⟩ (.int .u64 (wd1 y))).setCell ⟨w.heap.size + 1 + 1, 2, none⟩ (.int .u64 (wd2 y))).setCell ⟨w.heap.size + 1 + 1, 3, none⟩ (.int .u64 (wd3 y))) :=
  ⟨Blk.set4 h.kr (by omega) _ _ _ _, Blk.set4 h.ks (by omega) _ _ _ _, Var.put4 h.kp y, Blk.set4 h.kq (by omega) _ _ _ _, below_set4 h.below (by omega) _ _ _ _⟩
theorem CrAt.setq {w : World} {n d m e p q : Int} {wr : World} (h : CrAt w n d m e p q wr) (y : Int) : CrAt w n d m e p y
    ((((wr.setCell ⟨w.heap.size + 1 + 1 + 1, 0, none⟩ (.int .u64 (wd0 y))).setCell ⟨w.heap.size + 1 + 1 + 1, 1, none⟩ (.int .u64 (wd1 y))).setCell ⟨w.heap.size + 1 + 1 + 1, 2, none⟩ (.int .u64 (wd2 y))).setCell ⟨w.heap.size + 1 + 1 + 1, 3, none⟩ (.int .u64 (wd3 y))) :=
  ⟨Blk.set4 h.kr (by omega) _ _ _ _, Blk.set4 h.ks (by omega) _ _ _ _, Blk.set4 h.kp (by omega) _ _ _ _, Var.put4 h.kq y, below_set4 h.below (by omega) _ _ _ _⟩

theorem setCell_same {w : World} {b o : Nat} {v : Value} (h : w.cell? ⟨b, o, none⟩ = some v) : w.setCell ⟨b, o, none⟩ v = w := by
  have hh : (w.setCell ⟨b, o, none⟩ v).heap = w.heap := by
    apply Array.ext_getElem?
    intro k
    by_cases hk : k = b
    · subst hk
      show (w.heap.modify k _)[k]? = _
      rw [Array.getElem?_modify, if_pos rfl]
      unfold World.cell? at h
      cases hb : w.heap[k]? with
      | none => rfl
      | some o' =>
        rw [hb] at h
        cases o' with
        | cells c t f =>
          simp at h
          simp
          apply Array.ext_getElem?
          intro j
          rw [Array.getElem?_setIfInBounds]
          by_cases hj : o = j
          · subst hj
            rw [if_pos rfl]
            have := (Array.getElem?_eq_some_iff.1 h).1
            rw [if_pos this, h]
          · rw [if_neg hj]
        | _ => simp at h
    · exact Below.heap_setCell _ _ _ _ hk
  have e : w.setCell ⟨b, o, none⟩ v = { w with heap := (w.setCell ⟨b, o, none⟩ v).heap } := rfl
  rw [e, hh]
theorem set4_same {w : World} {b : Nat} {x : Int} (h : Var w b x) :
    ((((w.setCell ⟨b, 0, none⟩ (.int .u64 (wd0 x))).setCell ⟨b, 1, none⟩ (.int .u64 (wd1 x))).setCell ⟨b, 2, none⟩ (.int .u64 (wd2 x))).setCell ⟨b, 3, none⟩ (.int .u64 (wd3 x))) = w := by
  obtain ⟨c0, c1, c2, c3⟩ := Var.c h
  rw [setCell_same c0, setCell_same c1, setCell_same c2, setCell_same c3]
theorem same_K {K : Act → World → Prop} {a : Act} {w w' : World} (e : w' = w) (h : Below w.heap.size w w → K a w) : K a w' := e ▸ h (Below.refl _ _)

set_option maxRecDepth 100000 in
set_option maxHeartbeats 4000000 in
theorem crossed_go (n d m e : Int) (w : World) (i1 : InI n) (i2 : InI d) (i3 : InI m) (i4 : InI e) (o1 o2 r1 r2 : Bool) (ho1 : okI (n * e) = o1) (ho2 : okI (m * d) = o2) (hr1 : decide (0 < d) = r1) (hr2 : decide (0 < e) = r2)
    (p q : Int) (hp : (bif o1 then n * e else 0) = p) (hq : (bif o2 then m * d else 0) = q) :
    Calls Try.prog 132 #[rI n d, rI m e] w fun e' w' => e' = .returned (.tuple #[wI p, wI q, .bool (o1 && o2 && r1 && r2)]) ∧ Below w.heap.size w w' := by
  have O1 := Lib.hid ho1
  have O2 := Lib.hid ho2
  have R1 := Lib.hid hr1
  have R2 := Lib.hid hr2
  have HP := Lib.hid hp
  have HQ := Lib.hid hq
  clear ho1 ho2 hr1 hr2 hp hq
  go_enter Try.func132, Try.ntmps132
  go_wp2_with fail
  refine calls_w ?_
  intro W hW
  have hd : CrAt w n d m e 0 0 W := by
    rw [hW]
    exact ⟨((Blk.new _ _ _).alloc _).alloc _ |>.alloc _, ((Blk.new1 _ _ _ _).alloc _).alloc _, (Blk.new2 _ _ _ _ _).alloc _, Blk.new3 _ _ _ _ _ _, (((Below.refl _ _).alloc (Nat.le_refl _) _).alloc (by simp) _).alloc (by simp; omega) _ |>.alloc (by simp; omega) _⟩
  clear hW
  refine (Mul_is n e o1 O1.out p HP.out _ i1 i4).mono ?_
  rintro e' u1 ⟨rfl, hn⟩
  replace hd := hd.of hn
  clear hn
  have cp := Var.c hd.kp
  have fp := Var.f hd.kp
  have cr := RVar.c hd.kr
  have cs := RVar.c hd.ks
  have HD := Lib.hid hd
  clear hd
  go_wp2_with fail
  refine calls_w ?_
  intro V hV
  have hd : CrAt w n d m e p 0 V := by rw [hV]; exact HD.out.setp _
  clear hV cp fp cr cs HD
  refine (Mul_is m d o2 O2.out q HQ.out _ i3 i2).mono ?_
  rintro e' u2 ⟨rfl, hn⟩
  replace hd := hd.of hn
  clear hn
  have cq := Var.c hd.kq
  have fq := Var.f hd.kq
  have HD := Lib.hid hd
  clear hd
  go_wp2_with fail
  refine name_world ?_
  intro V hV
  have hd : CrAt w n d m e p q V := by rw [hV]; exact HD.out.setq _
  clear hV cq fq HD
  have cr := RVar.c hd.kr
  have cs := RVar.c hd.ks
  have cp := Var.c hd.kp
  have cq := Var.c hd.kq
  have fpv := Var.f hd.kp
  have fqv := Var.f hd.kq
  have lr := hd.kr.lt
  have ls := hd.ks.lt
  have lp := hd.kp.lt
  have lq := hd.kq.lt
  have HD := Lib.hid hd
  clear hd
  have hcase : o1 = false ∨ (o1 = true ∧ o2 = false) ∨ (o1 = true ∧ o2 = true ∧ r1 = false) ∨ (o1 = true ∧ o2 = true ∧ r1 = true) := by
    cases o1 <;> cases o2 <;> cases r1 <;> simp
  rcases hcase with rfl | ⟨rfl, rfl⟩ | ⟨rfl, rfl, rfl⟩ | ⟨rfl, rfl, rfl⟩
  all_goals
    refine wp_region_up V.heap.size 16 [(true, 0), (true, 1), (true, 2), (true, 3), (true, 4), (true, 5), (true, 6), (true, 7), (false, 8), (true, 9), (true, 10), (true, 11), (false, 12), (true, 13), (false, 14), (false, 15)] (by kernel_rfl) (by kernel_rfl) (fun _ _ d _ _ h => by cases d <;> exact h) ?_
    have hb : Below V.heap.size V V.drew := (Below.refl _ _).drew
    iterate 8
      refine wpS_takeL rfl rfl ?_
      go_big_quiet_step (rfl)
      refine wpQuiet_nil ?_
    refine wpS_doL rfl ?_
    intro K hK
    have hdw := HD.out.of hb; have gp := Var.c hdw.kp; have gpf := Var.f hdw.kp; have gq := Var.c hdw.kq; have gqf := Var.f hdw.kq; have SP := Lib.hid hdw.kp; have SQ := Lib.hid hdw.kq; clear hdw
    go_wp2_with ((first | (go_at_call 36; (with_reducible refine (Right_is n d _ i2 _ R1.out).mono ?_); rintro e w2 ⟨rfl, hn⟩) | (go_at_call 36; (with_reducible refine (Right_is m e _ i4 _ R2.out).mono ?_); rintro e w2 ⟨rfl, hn⟩)))
    try (first | (refine same_K (set4_same SP.out) ?_; intro hn) | (refine same_K (set4_same SQ.out) ?_; intro hn))
    try replace hb := hb.trans (hn.mono hb.size)
    refine hK.out _ _ (up_iff.2 hb) ?_
    clear hK K
    try clear hn
    try clear gp gpf gq gqf SP SQ
    iterate 3
      refine wpS_takeL rfl rfl ?_
      go_big_quiet_step (rfl)
      refine wpQuiet_nil ?_
    refine wpS_doL rfl ?_
    intro K hK
    have hdw := HD.out.of hb; have gp := Var.c hdw.kp; have gpf := Var.f hdw.kp; have gq := Var.c hdw.kq; have gqf := Var.f hdw.kq; have SP := Lib.hid hdw.kp; have SQ := Lib.hid hdw.kq; clear hdw
    go_wp2_with ((first | (go_at_call 36; (with_reducible refine (Right_is n d _ i2 _ R1.out).mono ?_); rintro e w2 ⟨rfl, hn⟩) | (go_at_call 36; (with_reducible refine (Right_is m e _ i4 _ R2.out).mono ?_); rintro e w2 ⟨rfl, hn⟩)))
    try (first | (refine same_K (set4_same SP.out) ?_; intro hn) | (refine same_K (set4_same SQ.out) ?_; intro hn))
    try replace hb := hb.trans (hn.mono hb.size)
    refine hK.out _ _ (up_iff.2 hb) ?_
    clear hK K
    try clear hn
    try clear gp gpf gq gqf SP SQ
    refine wpS_takeL rfl rfl ?_
    go_big_quiet_step (rfl)
    refine wpQuiet_nil ?_
    refine wpS_doL rfl ?_
    intro K hK
    have hdw := HD.out.of hb; have gp := Var.c hdw.kp; have gpf := Var.f hdw.kp; have gq := Var.c hdw.kq; have gqf := Var.f hdw.kq; have SP := Lib.hid hdw.kp; have SQ := Lib.hid hdw.kq; clear hdw
    go_wp2_with ((first | (go_at_call 36; (with_reducible refine (Right_is n d _ i2 _ R1.out).mono ?_); rintro e w2 ⟨rfl, hn⟩) | (go_at_call 36; (with_reducible refine (Right_is m e _ i4 _ R2.out).mono ?_); rintro e w2 ⟨rfl, hn⟩)))
    try (first | (refine same_K (set4_same SP.out) ?_; intro hn) | (refine same_K (set4_same SQ.out) ?_; intro hn))
    replace hb := hb.trans (hn.mono hb.size)
    refine hK.out _ _ (up_iff.2 hb) ?_
    clear hK K
    clear hn
    try clear gp gpf gq gqf SP SQ
    refine wpS_doL rfl ?_
    intro K hK
    have hdw := HD.out.of hb; have gp := Var.c hdw.kp; have gpf := Var.f hdw.kp; have gq := Var.c hdw.kq; have gqf := Var.f hdw.kq; have SP := Lib.hid hdw.kp; have SQ := Lib.hid hdw.kq; clear hdw
    go_wp2_with ((first | (go_at_call 36; (with_reducible refine (Right_is n d _ i2 _ R1.out).mono ?_); rintro e w2 ⟨rfl, hn⟩) | (go_at_call 36; (with_reducible refine (Right_is m e _ i4 _ R2.out).mono ?_); rintro e w2 ⟨rfl, hn⟩)))
    try (first | (refine same_K (set4_same SP.out) ?_; intro hn) | (refine same_K (set4_same SQ.out) ?_; intro hn))
    replace hb := hb.trans (hn.mono hb.size)
    refine hK.out _ _ (up_iff.2 hb) ?_
    clear hK K
    clear hn
    try clear gp gpf gq gqf SP SQ
    refine wpS_nil ?_
    simp only [List.drop_succ_cons, List.drop_zero]
    have hd := HD.out.of hb
    have hbf := hd.below
    clear cr cs cp cq fpv fqv lr ls lp lq hb HD
    have cp := Var.c hd.kp
    have cq := Var.c hd.kq
    clear hd
    go_wp2
    simp [bodyPost, results, Try.results132, go_sem, cp, cq]
    exact hbf
end Go.Proofs.Ytlcbomjdbdgbmaa
namespace Go.Proofs.Ytlcbomjdbdgbmaa
open Go.RowKit

set_option maxRecDepth 100000 in
set_option maxHeartbeats 2000000 in
theorem RatCmp_go (n d m e : Int) (w : World) (o : Bool) (p q : Int) (ip : o = true → InI p) (iq : o = true → InI q)
    (hT : ∀ w, Calls Try.prog 132 #[rI n d, rI m e] w fun e' w' => e' = .returned (.tuple #[wI p, wI q, .bool o]) ∧ Below w.heap.size w w') :
    Calls Try.prog 100 #[rI n d, rI m e] w fun e' w' => e' = .returned (.tuple #[.int .i64 (bif o then cmpI p q else 0), .bool o]) ∧ Below w.heap.size w w' := by
  have HT := Lib.hid hT
  have IP := Lib.hid ip
  have IQ := Lib.hid iq
  clear hT ip iq
  go_enter Try.func100, Try.ntmps100
  go_wp2_with fail
  refine calls_w ?_
  intro W hW
  have hb0 : Below w.heap.size w W := by rw [hW]; exact below_a2 _ _ _
  clear hW
  refine (HT.out _).mono ?_
  rintro e' u1 ⟨rfl, hn⟩
  replace hb0 := hb0.trans (hn.mono hb0.size)
  clear hn
  have hb1 : ∀ o1 o2, Below w.heap.size w ((u1.alloc o1).alloc o2) := fun o1 o2 => (hb0.alloc hb0.size _).alloc (by simp; have := hb0.size; omega) _
  have HB := Lib.hid hb1
  clear hb1 hb0
  cases o
  · go_wp2
    go_ret2
    exact ⟨rfl, HB.out _ _⟩
  · go_wp2_with fail
    refine (Cmp_any p q _ (IP.out trivial) (IQ.out trivial)).mono ?_
    rintro e' u2 ⟨rfl, hn⟩
    go_wp2
    go_ret2
    exact ⟨rfl, (HB.out _ _).trans (hn.mono (HB.out _ _).size)⟩

end Go.Proofs.Ytlcbomjdbdgbmaa

namespace Go.Proofs.Ytlcbomjdbdgbmaa
open Go.RowKit

def rtOn (n : Int) : Int := n

def rtOd (_n : Int) : Int := 1

set_option maxRecDepth 100000 in
set_option maxHeartbeats 4000000 in

theorem rtOf_is (n : Int)  (R0 : Int) (R1 : Int) (hR0 : rtOn n = R0) (hR1 : rtOd n = R1) (_in : In64 n)  (w : World)  :
    Calls Try.prog 92 #[.int .i64 n] w fun e w' => e = .returned (.agg #[.int .u64 (wd0 R0), .int .u64 (wd1 R0), .int .u64 (wd2 R0), .int .u64 (wd3 R0), .int .u64 (wd0 R1), .int .u64 (wd1 R1), .int .u64 (wd2 R1), .int .u64 (wd3 R1)]) ∧ Below w.heap.size w w' := by

  have HR0 := Lib.hid hR0
  clear hR0
  have HR1 := Lib.hid hR1
  clear hR1
  go_enter Try.func92, Try.ntmps92
  go_wp2_with fail
  first | refine calls_w ?_ | refine name_world ?_ | refine list_world ?_ | refine post_world ?_
  intro V1 hV1
  have hn : Below w.heap.size w V1 := by rw [hV1]; exact below_a1 _ _
  have nhb0 := hn
  have k1 : Blk V1 w.heap.size #[.int .u64 0, .int .u64 0, .int .u64 0, .int .u64 0, .int .u64 0, .int .u64 0, .int .u64 0, .int .u64 0] 52 := by rw [hV1]; exact (Blk.new _ _ _)
  clear hV1
  have hb0 := nhb0
  clear nhb0
  refine (Of_v n n rfl _in _).mono ?_
  rintro e U2 ⟨rfl, hn⟩
  replace k1 := k1.of hn
  replace hb0 := hb0.trans (hn.mono hb0.size)
  clear hn
  go_wp2_with fail
  refine (Of_v 1 1 rfl (by unfold In64; omega) _).mono ?_
  rintro e U3 ⟨rfl, hn⟩
  replace k1 := k1.of hn
  replace hb0 := hb0.trans (hn.mono hb0.size)
  clear hn
  have c1_0 : U3.cell? ⟨w.heap.size, 0, none⟩ = some (.int .u64 0) := k1.cell 0
  have c1_1 : U3.cell? ⟨w.heap.size, 1, none⟩ = some (.int .u64 0) := k1.cell 1
  have c1_2 : U3.cell? ⟨w.heap.size, 2, none⟩ = some (.int .u64 0) := k1.cell 2
  have c1_3 : U3.cell? ⟨w.heap.size, 3, none⟩ = some (.int .u64 0) := k1.cell 3
  have c1_4 : U3.cell? ⟨w.heap.size, 4, none⟩ = some (.int .u64 0) := k1.cell 4
  have c1_5 : U3.cell? ⟨w.heap.size, 5, none⟩ = some (.int .u64 0) := k1.cell 5
  have c1_6 : U3.cell? ⟨w.heap.size, 6, none⟩ = some (.int .u64 0) := k1.cell 6
  have c1_7 : U3.cell? ⟨w.heap.size, 7, none⟩ = some (.int .u64 0) := k1.cell 7
  have f1_0 := k1.free 0
  have f1_1 := k1.free 1
  have f1_2 := k1.free 2
  have f1_3 := k1.free 3
  have f1_4 := k1.free 4
  have f1_5 := k1.free 5
  have f1_6 := k1.free 6
  have f1_7 := k1.free 7
  have l1 := k1.lt
  have e0 : n = R0 := by rw [← HR0.out]; unfold rtOn; all_goals first | rfl | simp
  have e1 : 1 = R1 := by rw [← HR1.out]; unfold rtOd; all_goals first | rfl | simp
  subst e0
  subst e1
  go_wp2
  clear c1_0 c1_1 c1_2 c1_3 c1_4 c1_5 c1_6 c1_7 f1_0 f1_1 f1_2 f1_3 f1_4 f1_5 f1_6 f1_7 l1
  first | refine post_world ?_
  intro V4 hV4
  have D1 := Lib.hid k1.lt
  have D2 := Lib.hid hb0.size
  have nk1 : Blk V4 w.heap.size #[.int .u64 (wd0 n), .int .u64 (wd1 n), .int .u64 (wd2 n), .int .u64 (wd3 n), .int .u64 (wd0 1), .int .u64 (wd1 1), .int .u64 (wd2 1), .int .u64 (wd3 1)] 52 := by rw [hV4]; exact (blk_full _ [.int .u64 (wd0 n), .int .u64 (wd1 n), .int .u64 (wd2 n), .int .u64 (wd3 n), .int .u64 (wd0 1), .int .u64 (wd1 1), .int .u64 (wd2 1), .int .u64 (wd3 1)] k1 rfl)
  have nhb0 : Below w.heap.size w V4 := by rw [hV4]; exact (blw_setL hb0 (by omega) 0 [.int .u64 (wd0 n), .int .u64 (wd1 n), .int .u64 (wd2 n), .int .u64 (wd3 n), .int .u64 (wd0 1), .int .u64 (wd1 1), .int .u64 (wd2 1), .int .u64 (wd3 1)])
  clear k1
  clear hb0
  clear hV4
  have k1 := nk1
  clear nk1
  have hb0 := nhb0
  clear nhb0
  have g1_0 : V4.cell? ⟨w.heap.size, 0, none⟩ = some (.int .u64 (wd0 n)) := k1.cell 0
  have g1_1 : V4.cell? ⟨w.heap.size, 1, none⟩ = some (.int .u64 (wd1 n)) := k1.cell 1
  have g1_2 : V4.cell? ⟨w.heap.size, 2, none⟩ = some (.int .u64 (wd2 n)) := k1.cell 2
  have g1_3 : V4.cell? ⟨w.heap.size, 3, none⟩ = some (.int .u64 (wd3 n)) := k1.cell 3
  have g1_4 : V4.cell? ⟨w.heap.size, 4, none⟩ = some (.int .u64 (wd0 1)) := k1.cell 4
  have g1_5 : V4.cell? ⟨w.heap.size, 5, none⟩ = some (.int .u64 (wd1 1)) := k1.cell 5
  have g1_6 : V4.cell? ⟨w.heap.size, 6, none⟩ = some (.int .u64 (wd2 1)) := k1.cell 6
  have g1_7 : V4.cell? ⟨w.heap.size, 7, none⟩ = some (.int .u64 (wd3 1)) := k1.cell 7
  clear k1
  simp [bodyPost, results, Try.results92, go_sem, g1_0, g1_1, g1_2, g1_3, g1_4, g1_5, g1_6, g1_7]
  first | exact hb0 | exact ⟨rfl, hb0⟩

/-- two fractions held against one another -/
def rtCk (x y x2 y2 : Int) : Bool := okI (x * y2) && okI (x2 * y) && decide (0 < y) && decide (0 < y2)
def rtC (x y x2 y2 : Int) : Int := bif rtCk x y x2 y2 then cmpI (x * y2) (x2 * y) else 0
theorem rtC_v (x y x2 y2 c : Int) (k : Bool) (hc : rtC x y x2 y2 = c) (hk : rtCk x y x2 y2 = k) (ix : InI x) (iy : InI y) (ix2 : InI x2) (iy2 : InI y2) (w : World) :
    Calls Try.prog 100 #[rI x y, rI x2 y2] w fun e w' => e = .returned (.tuple #[.int .i64 c, .bool k]) ∧ Below w.heap.size w w' := by
  have key := RatCmp_go x y x2 y2 w (okI (x * y2) && okI (x2 * y) && decide (0 < y) && decide (0 < y2)) (bif okI (x * y2) then x * y2 else 0) (bif okI (x2 * y) then x2 * y else 0)
    (fun _ => ok_in) (fun _ => ok_in) (fun w => crossed_go x y x2 y2 w ix iy ix2 iy2 _ _ _ _ rfl rfl rfl rfl _ _ rfl rfl)
  have e : (bif (okI (x * y2) && okI (x2 * y) && decide (0 < y) && decide (0 < y2)) then cmpI (bif okI (x * y2) then x * y2 else 0) (bif okI (x2 * y) then x2 * y else 0) else 0) = c := by
    rw [← hc]; unfold rtC rtCk
    cases h1 : okI (x * y2) <;> cases h2 : okI (x2 * y) <;> rfl
  rw [e, show (okI (x * y2) && okI (x2 * y) && decide (0 < y) && decide (0 < y2)) = k from hk] at key
  exact key
end Go.Proofs.Ytlcbomjdbdgbmaa

namespace Go.Proofs.Ytlcbomjdbdgbmaa
open Go.RowKit

def atx (x : Int) (y : Int) : Int := (bif (rp x y) then x else 0)

def aty (x : Int) (y : Int) : Int := (bif (rp x y) then y else 0)

def atw (x : Int) (y : Int) : Int := (bif (rp x y) then 1 else 0)

theorem atx_in (x : Int) (y : Int) (_ix : In64 x) (_iy : In64 y) : InI (atx x y) := by
  unfold atx
  exact (cond_in (in64_I' _ix) in_0)

theorem aty_in (x : Int) (y : Int) (_ix : In64 x) (_iy : In64 y) : InI (aty x y) := by
  unfold aty
  exact (cond_in (in64_I' _iy) in_0)

theorem atw_in (x : Int) (y : Int) (_ix : In64 x) (_iy : In64 y) : InI (atw x y) := by
  unfold atw
  exact (cond_in (by unfold InI b255; omega) in_0)

set_option maxRecDepth 100000 in
set_option maxHeartbeats 4000000 in

theorem crAt_is (x : Int) (y : Int)  (R0 : Int) (R1 : Int) (R2 : Int) (hR0 : atx x y = R0) (hR1 : aty x y = R1) (hR2 : atw x y = R2) (_ix : In64 x) (_iy : In64 y)  (w : World)  :
    Calls Try.prog 47 #[.agg #[.int .i64 x, .int .i64 y]] w fun e w' => e = .returned (.agg #[.int .u64 (wd0 R0), .int .u64 (wd1 R0), .int .u64 (wd2 R0), .int .u64 (wd3 R0), .int .u64 (wd0 R1), .int .u64 (wd1 R1), .int .u64 (wd2 R1), .int .u64 (wd3 R1), .int .u64 (wd0 R2), .int .u64 (wd1 R2), .int .u64 (wd2 R2), .int .u64 (wd3 R2)]) ∧ Below w.heap.size w w' := by

  have HR0 := Lib.hid hR0
  clear hR0
  have HR1 := Lib.hid hR1
  clear hR1
  have HR2 := Lib.hid hR2
  clear hR2
  go_enter Try.func47, Try.ntmps47
  go_wp2_with fail
  first | refine calls_w ?_ | refine name_world ?_ | refine list_world ?_ | refine post_world ?_
  intro V1 hV1
  have hn : Below w.heap.size w V1 := by rw [hV1]; exact below_a2 _ _ _
  have nhb0 := hn
  have k1 : Blk V1 w.heap.size #[.int .i64 x, .int .i64 y] 24 := by rw [hV1]; exact ((Blk.new _ _ _).alloc _)
  have k2 : Blk V1 (w.heap.size + 1) #[.int .u64 0, .int .u64 0, .int .u64 0, .int .u64 0, .int .u64 0, .int .u64 0, .int .u64 0, .int .u64 0, .int .u64 0, .int .u64 0, .int .u64 0, .int .u64 0] 67 := by rw [hV1]; exact (Blk.new1 _ _ _ _)
  clear hV1
  have hb0 := nhb0
  clear nhb0
  obtain ⟨z1, hz1⟩ : ∃ o_o : Bool, rp x y = o_o := ⟨_, rfl⟩
  have Hz1 := Lib.hid hz1
  clear hz1
  refine (PtRight_v x y z1 Hz1.out _).mono ?_
  rintro e U2 ⟨rfl, hn⟩
  replace k1 := k1.of hn
  replace k2 := k2.of hn
  replace hb0 := hb0.trans (hn.mono hb0.size)
  clear hn
  cases z1
  · have c2_0 : U2.cell? ⟨(w.heap.size + 1), 0, none⟩ = some (.int .u64 0) := k2.cell 0
    have c2_1 : U2.cell? ⟨(w.heap.size + 1), 1, none⟩ = some (.int .u64 0) := k2.cell 1
    have c2_2 : U2.cell? ⟨(w.heap.size + 1), 2, none⟩ = some (.int .u64 0) := k2.cell 2
    have c2_3 : U2.cell? ⟨(w.heap.size + 1), 3, none⟩ = some (.int .u64 0) := k2.cell 3
    have c2_4 : U2.cell? ⟨(w.heap.size + 1), 4, none⟩ = some (.int .u64 0) := k2.cell 4
    have c2_5 : U2.cell? ⟨(w.heap.size + 1), 5, none⟩ = some (.int .u64 0) := k2.cell 5
    have c2_6 : U2.cell? ⟨(w.heap.size + 1), 6, none⟩ = some (.int .u64 0) := k2.cell 6
    have c2_7 : U2.cell? ⟨(w.heap.size + 1), 7, none⟩ = some (.int .u64 0) := k2.cell 7
    have c2_8 : U2.cell? ⟨(w.heap.size + 1), 8, none⟩ = some (.int .u64 0) := k2.cell 8
    have c2_9 : U2.cell? ⟨(w.heap.size + 1), 9, none⟩ = some (.int .u64 0) := k2.cell 9
    have c2_10 : U2.cell? ⟨(w.heap.size + 1), 10, none⟩ = some (.int .u64 0) := k2.cell 10
    have c2_11 : U2.cell? ⟨(w.heap.size + 1), 11, none⟩ = some (.int .u64 0) := k2.cell 11
    have f2_0 := k2.free 0
    have f2_1 := k2.free 1
    have f2_2 := k2.free 2
    have f2_3 := k2.free 3
    have f2_4 := k2.free 4
    have f2_5 := k2.free 5
    have f2_6 := k2.free 6
    have f2_7 := k2.free 7
    have f2_8 := k2.free 8
    have f2_9 := k2.free 9
    have f2_10 := k2.free 10
    have f2_11 := k2.free 11
    have l2 := k2.lt
    have e0 : 0 = R0 := by rw [← HR0.out]; unfold atx; (try rw [Hz1.out]); all_goals first | rfl | simp
    have e1 : 0 = R1 := by rw [← HR1.out]; unfold aty; (try rw [Hz1.out]); all_goals first | rfl | simp
    have e2 : 0 = R2 := by rw [← HR2.out]; unfold atw; (try rw [Hz1.out]); all_goals first | rfl | simp
    subst e0
    subst e1
    subst e2
    go_wp2
    clear c2_0 c2_1 c2_2 c2_3 c2_4 c2_5 c2_6 c2_7 c2_8 c2_9 c2_10 c2_11 f2_0 f2_1 f2_2 f2_3 f2_4 f2_5 f2_6 f2_7 f2_8 f2_9 f2_10 f2_11 l2
    first | refine post_world ?_
    intro V3 hV3
    have D1 := Lib.hid k1.lt
    have D2 := Lib.hid k2.lt
    have D3 := Lib.hid hb0.size
    clear k1
    have nk2 : Blk V3 (w.heap.size + 1) #[.int .u64 0, .int .u64 0, .int .u64 0, .int .u64 0, .int .u64 0, .int .u64 0, .int .u64 0, .int .u64 0, .int .u64 0, .int .u64 0, .int .u64 0, .int .u64 0] 67 := by rw [hV3]; exact (blk_full _ [.int .u64 0, .int .u64 0, .int .u64 0, .int .u64 0, .int .u64 0, .int .u64 0, .int .u64 0, .int .u64 0, .int .u64 0, .int .u64 0, .int .u64 0, .int .u64 0] k2 rfl)
    have nhb0 : Below w.heap.size w V3 := by rw [hV3]; exact (blw_setL hb0 (by omega) 0 [.int .u64 0, .int .u64 0, .int .u64 0, .int .u64 0, .int .u64 0, .int .u64 0, .int .u64 0, .int .u64 0, .int .u64 0, .int .u64 0, .int .u64 0, .int .u64 0])
    clear k2
    clear hb0
    clear hV3
    have k2 := nk2
    clear nk2
    have hb0 := nhb0
    clear nhb0
    have g2_0 : V3.cell? ⟨(w.heap.size + 1), 0, none⟩ = some (.int .u64 0) := k2.cell 0
    have g2_1 : V3.cell? ⟨(w.heap.size + 1), 1, none⟩ = some (.int .u64 0) := k2.cell 1
    have g2_2 : V3.cell? ⟨(w.heap.size + 1), 2, none⟩ = some (.int .u64 0) := k2.cell 2
    have g2_3 : V3.cell? ⟨(w.heap.size + 1), 3, none⟩ = some (.int .u64 0) := k2.cell 3
    have g2_4 : V3.cell? ⟨(w.heap.size + 1), 4, none⟩ = some (.int .u64 0) := k2.cell 4
    have g2_5 : V3.cell? ⟨(w.heap.size + 1), 5, none⟩ = some (.int .u64 0) := k2.cell 5
    have g2_6 : V3.cell? ⟨(w.heap.size + 1), 6, none⟩ = some (.int .u64 0) := k2.cell 6
    have g2_7 : V3.cell? ⟨(w.heap.size + 1), 7, none⟩ = some (.int .u64 0) := k2.cell 7
    have g2_8 : V3.cell? ⟨(w.heap.size + 1), 8, none⟩ = some (.int .u64 0) := k2.cell 8
    have g2_9 : V3.cell? ⟨(w.heap.size + 1), 9, none⟩ = some (.int .u64 0) := k2.cell 9
    have g2_10 : V3.cell? ⟨(w.heap.size + 1), 10, none⟩ = some (.int .u64 0) := k2.cell 10
    have g2_11 : V3.cell? ⟨(w.heap.size + 1), 11, none⟩ = some (.int .u64 0) := k2.cell 11
    clear k2
    simp [bodyPost, results, Try.results47, go_sem, g2_0, g2_1, g2_2, g2_3, g2_4, g2_5, g2_6, g2_7, g2_8, g2_9, g2_10, g2_11, wd0_0, wd1_0, wd2_0, wd3_0]
    first | exact hb0 | exact ⟨rfl, hb0⟩
  · go_wp2_with fail
    have c1_0 : U2.cell? ⟨w.heap.size, 0, none⟩ = some (.int .i64 x) := k1.cell 0
    have c1_1 : U2.cell? ⟨w.heap.size, 1, none⟩ = some (.int .i64 y) := k1.cell 1
    have l1 := k1.lt
    have Kk1 := Lib.hid k1
    clear k1
    have Kk2 := Lib.hid k2
    clear k2
    refine wp_region_up U2.heap.size 5 [(true, 0), (true, 1), (true, 3), (true, 4), (false, 2)] (by kernel_rfl) (by kernel_rfl) (fun _ _ d _ _ h => by cases d <;> exact h) ?_
    have hb : Below U2.heap.size U2 U2.drew := (Below.refl _ _).drew
    iterate 4
      refine wpS_takeL rfl rfl ?_
      go_big_quiet_step (rfl)
      refine wpQuiet_nil ?_
    refine wpS_doL rfl ?_
    intro K hK
    go_wp2_with ((go_at_call 62; (with_reducible refine (Of_v x x rfl _ix _).mono ?_); rintro e w2 ⟨rfl, hn⟩))
    replace hb := hb.trans (hn.mono hb.size)
    refine hK.out _ _ (up_iff.2 hb) ?_
    clear hK K
    clear hn
    refine wpS_nil ?_
    simp only [List.drop_succ_cons, List.drop_zero]
    first | refine calls_w ?_ | refine name_world ?_ | refine list_world ?_ | refine post_world ?_
    intro U4 hU4
    first | subst hU4 | (rw [← hU4] at hb; clear hU4)
    clear c1_0 c1_1 l1
    have k1 := Kk1.out.of hb
    clear Kk1
    have k2 := Kk2.out.of hb
    clear Kk2
    replace hb0 := hb0.trans (hb.mono hb0.size)
    clear hb
    go_wp2_with fail
    refine (Of_v y y rfl _iy _).mono ?_
    rintro e U5 ⟨rfl, hn⟩
    clear k1
    replace k2 := k2.of hn
    replace hb0 := hb0.trans (hn.mono hb0.size)
    clear hn
    go_wp2_with fail
    refine (Of_v 1 1 rfl (by unfold In64; omega) _).mono ?_
    rintro e U6 ⟨rfl, hn⟩
    replace k2 := k2.of hn
    replace hb0 := hb0.trans (hn.mono hb0.size)
    clear hn
    have c2_0 : U6.cell? ⟨(w.heap.size + 1), 0, none⟩ = some (.int .u64 0) := k2.cell 0
    have c2_1 : U6.cell? ⟨(w.heap.size + 1), 1, none⟩ = some (.int .u64 0) := k2.cell 1
    have c2_2 : U6.cell? ⟨(w.heap.size + 1), 2, none⟩ = some (.int .u64 0) := k2.cell 2
    have c2_3 : U6.cell? ⟨(w.heap.size + 1), 3, none⟩ = some (.int .u64 0) := k2.cell 3
    have c2_4 : U6.cell? ⟨(w.heap.size + 1), 4, none⟩ = some (.int .u64 0) := k2.cell 4
    have c2_5 : U6.cell? ⟨(w.heap.size + 1), 5, none⟩ = some (.int .u64 0) := k2.cell 5
    have c2_6 : U6.cell? ⟨(w.heap.size + 1), 6, none⟩ = some (.int .u64 0) := k2.cell 6
    have c2_7 : U6.cell? ⟨(w.heap.size + 1), 7, none⟩ = some (.int .u64 0) := k2.cell 7
    have c2_8 : U6.cell? ⟨(w.heap.size + 1), 8, none⟩ = some (.int .u64 0) := k2.cell 8
    have c2_9 : U6.cell? ⟨(w.heap.size + 1), 9, none⟩ = some (.int .u64 0) := k2.cell 9
    have c2_10 : U6.cell? ⟨(w.heap.size + 1), 10, none⟩ = some (.int .u64 0) := k2.cell 10
    have c2_11 : U6.cell? ⟨(w.heap.size + 1), 11, none⟩ = some (.int .u64 0) := k2.cell 11
    have f2_0 := k2.free 0
    have f2_1 := k2.free 1
    have f2_2 := k2.free 2
    have f2_3 := k2.free 3
    have f2_4 := k2.free 4
    have f2_5 := k2.free 5
    have f2_6 := k2.free 6
    have f2_7 := k2.free 7
    have f2_8 := k2.free 8
    have f2_9 := k2.free 9
    have f2_10 := k2.free 10
    have f2_11 := k2.free 11
    have l2 := k2.lt
    have e0 : x = R0 := by rw [← HR0.out]; unfold atx; (try rw [Hz1.out]); all_goals first | rfl | simp
    have e1 : y = R1 := by rw [← HR1.out]; unfold aty; (try rw [Hz1.out]); all_goals first | rfl | simp
    have e2 : 1 = R2 := by rw [← HR2.out]; unfold atw; (try rw [Hz1.out]); all_goals first | rfl | simp
    subst e0
    subst e1
    subst e2
    go_wp2
    clear c2_0 c2_1 c2_2 c2_3 c2_4 c2_5 c2_6 c2_7 c2_8 c2_9 c2_10 c2_11 f2_0 f2_1 f2_2 f2_3 f2_4 f2_5 f2_6 f2_7 f2_8 f2_9 f2_10 f2_11 l2
    first | refine post_world ?_
    intro V7 hV7
    have D4 := Lib.hid k2.lt
    have D5 := Lib.hid hb0.size
    have nk2 : Blk V7 (w.heap.size + 1) #[.int .u64 (wd0 x), .int .u64 (wd1 x), .int .u64 (wd2 x), .int .u64 (wd3 x), .int .u64 (wd0 y), .int .u64 (wd1 y), .int .u64 (wd2 y), .int .u64 (wd3 y), .int .u64 (wd0 1), .int .u64 (wd1 1), .int .u64 (wd2 1), .int .u64 (wd3 1)] 67 := by rw [hV7]; exact (blk_full _ [.int .u64 (wd0 x), .int .u64 (wd1 x), .int .u64 (wd2 x), .int .u64 (wd3 x), .int .u64 (wd0 y), .int .u64 (wd1 y), .int .u64 (wd2 y), .int .u64 (wd3 y), .int .u64 (wd0 1), .int .u64 (wd1 1), .int .u64 (wd2 1), .int .u64 (wd3 1)] k2 rfl)
    have nhb0 : Below w.heap.size w V7 := by rw [hV7]; exact (blw_setL hb0 (by omega) 0 [.int .u64 (wd0 x), .int .u64 (wd1 x), .int .u64 (wd2 x), .int .u64 (wd3 x), .int .u64 (wd0 y), .int .u64 (wd1 y), .int .u64 (wd2 y), .int .u64 (wd3 y), .int .u64 (wd0 1), .int .u64 (wd1 1), .int .u64 (wd2 1), .int .u64 (wd3 1)])
    clear k2
    clear hb0
    clear hV7
    have k2 := nk2
    clear nk2
    have hb0 := nhb0
    clear nhb0
    have g2_0 : V7.cell? ⟨(w.heap.size + 1), 0, none⟩ = some (.int .u64 (wd0 x)) := k2.cell 0
    have g2_1 : V7.cell? ⟨(w.heap.size + 1), 1, none⟩ = some (.int .u64 (wd1 x)) := k2.cell 1
    have g2_2 : V7.cell? ⟨(w.heap.size + 1), 2, none⟩ = some (.int .u64 (wd2 x)) := k2.cell 2
    have g2_3 : V7.cell? ⟨(w.heap.size + 1), 3, none⟩ = some (.int .u64 (wd3 x)) := k2.cell 3
    have g2_4 : V7.cell? ⟨(w.heap.size + 1), 4, none⟩ = some (.int .u64 (wd0 y)) := k2.cell 4
    have g2_5 : V7.cell? ⟨(w.heap.size + 1), 5, none⟩ = some (.int .u64 (wd1 y)) := k2.cell 5
    have g2_6 : V7.cell? ⟨(w.heap.size + 1), 6, none⟩ = some (.int .u64 (wd2 y)) := k2.cell 6
    have g2_7 : V7.cell? ⟨(w.heap.size + 1), 7, none⟩ = some (.int .u64 (wd3 y)) := k2.cell 7
    have g2_8 : V7.cell? ⟨(w.heap.size + 1), 8, none⟩ = some (.int .u64 (wd0 1)) := k2.cell 8
    have g2_9 : V7.cell? ⟨(w.heap.size + 1), 9, none⟩ = some (.int .u64 (wd1 1)) := k2.cell 9
    have g2_10 : V7.cell? ⟨(w.heap.size + 1), 10, none⟩ = some (.int .u64 (wd2 1)) := k2.cell 10
    have g2_11 : V7.cell? ⟨(w.heap.size + 1), 11, none⟩ = some (.int .u64 (wd3 1)) := k2.cell 11
    clear k2
    simp [bodyPost, results, Try.results47, go_sem, g2_0, g2_1, g2_2, g2_3, g2_4, g2_5, g2_6, g2_7, g2_8, g2_9, g2_10, g2_11]
    first | exact hb0 | exact ⟨rfl, hb0⟩

theorem alCr1_0 : AllocRuns Try.prog 35 #[.int .u64 0, .int .u64 0, .int .u64 0, .int .u64 0] := fun w => by kernel_rfl

def spR (x : Int) (y : Int) (v : Int) : Bool := (bif decide ((v.sign) ≤ 0) then false else (bif decide (0 < (cmpI v (mulv 35184372088832 35184372088832))) then false else (bif decide (0 ≤ (cmpI x (subv 0 (mulv v 2199023255552)))) then (bif decide ((cmpI x (mulv v 2199023255552)) ≤ 0) then (bif decide (0 ≤ (cmpI y (subv 0 (mulv v 2199023255552)))) then decide ((cmpI y (mulv v 2199023255552)) ≤ 0) else false) else false) else false)))

set_option maxRecDepth 100000 in
set_option maxHeartbeats 4000000 in

theorem SpRight_is (x : Int) (y : Int) (v : Int)  (R0 : Bool) (hR0 : spR x y v = R0) (_ix : InI x) (_iy : InI y) (_iv : InI v)  (w : World)  :
    Calls Try.prog 59 #[.agg #[.int .u64 (wd0 x), .int .u64 (wd1 x), .int .u64 (wd2 x), .int .u64 (wd3 x), .int .u64 (wd0 y), .int .u64 (wd1 y), .int .u64 (wd2 y), .int .u64 (wd3 y), .int .u64 (wd0 v), .int .u64 (wd1 v), .int .u64 (wd2 v), .int .u64 (wd3 v)]] w fun e w' => e = .returned (.bool R0) ∧ Below w.heap.size w w' := by

  have HR0 := Lib.hid hR0
  clear hR0
  go_enter Try.func59, Try.ntmps59
  go_wp2_with fail
  first | refine calls_w ?_ | refine name_world ?_ | refine list_world ?_ | refine post_world ?_
  intro V1 hV1
  have hn : Below w.heap.size w V1 := by rw [hV1]; exact below_a1 _ _
  have nhb0 := hn
  have k1 : Blk V1 w.heap.size #[.int .u64 (wd0 x), .int .u64 (wd1 x), .int .u64 (wd2 x), .int .u64 (wd3 x), .int .u64 (wd0 y), .int .u64 (wd1 y), .int .u64 (wd2 y), .int .u64 (wd3 y), .int .u64 (wd0 v), .int .u64 (wd1 v), .int .u64 (wd2 v), .int .u64 (wd3 v)] 67 := by rw [hV1]; exact (Blk.new _ _ _)
  clear hV1
  have hb0 := nhb0
  clear nhb0
  obtain ⟨r1, hr1⟩ : ∃ o_o : Int, v.sign = o_o := ⟨_, rfl⟩
  have Hr1 := Lib.hid hr1
  clear hr1
  obtain ⟨z2, hz2⟩ : ∃ o_o : Bool, decide (r1 ≤ 0) = o_o := ⟨_, rfl⟩
  cases z2
  · obtain ⟨r3, hr3⟩ : ∃ o_o : Int, mulv 35184372088832 35184372088832 = o_o := ⟨_, rfl⟩
    have Hr3 := Lib.hid hr3
    clear hr3
    have c1_8 : V1.cell? ⟨w.heap.size, 8, none⟩ = some (.int .u64 (wd0 v)) := k1.cell 8
    have c1_9 : V1.cell? ⟨w.heap.size, 9, none⟩ = some (.int .u64 (wd1 v)) := k1.cell 9
    have c1_10 : V1.cell? ⟨w.heap.size, 10, none⟩ = some (.int .u64 (wd2 v)) := k1.cell 10
    have c1_11 : V1.cell? ⟨w.heap.size, 11, none⟩ = some (.int .u64 (wd3 v)) := k1.cell 11
    have l1 := k1.lt
    have Kk1 := Lib.hid k1
    clear k1
    refine wp_region_up V1.heap.size 10 [(true, 0), (true, 1), (false, 2), (true, 3), (true, 4), (true, 5), (true, 6), (false, 7), (false, 8), (false, 9)] (by kernel_rfl) (by kernel_rfl) (fun _ _ d _ _ h => by cases d <;> exact h) ?_
    have hb : Below V1.heap.size V1 V1.drew := (Below.refl _ _).drew
    iterate 2
      refine wpS_takeL rfl rfl ?_
      go_big_quiet_step (rfl)
      refine wpQuiet_nil ?_
    refine wpS_doL rfl ?_
    intro K hK
    go_wp2_with ((go_at_call 22; (with_reducible refine (Sign_v v r1 Hr1.out _iv _).mono ?_); rintro e w2 ⟨rfl, hn⟩))
    replace hb := hb.trans (hn.mono hb.size)
    refine hK.out _ _ (up_iff.2 hb) ?_
    clear hK K
    clear hn
    iterate 4
      refine wpS_takeL rfl rfl ?_
      go_big_quiet_step (rfl)
      refine wpQuiet_nil ?_
    refine wpS_doL rfl ?_
    intro K hK
    go_wp2_with ((go_at_call 62; (with_reducible refine (Of_v 35184372088832 35184372088832 rfl (by unfold In64; omega) _).mono ?_); rintro e w2 ⟨rfl, hn⟩))
    try replace hb := hb.trans (hn.mono hb.size)
    refine hK.out _ _ (up_iff.2 hb) ?_
    clear hK K
    try clear hn
    refine wpS_doL rfl ?_
    intro K hK
    go_wp2_with ((go_at_call 62; (with_reducible refine (Of_v 35184372088832 35184372088832 rfl (by unfold In64; omega) _).mono ?_); rintro e w2 ⟨rfl, hn⟩))
    try replace hb := hb.trans (hn.mono hb.size)
    refine hK.out _ _ (up_iff.2 hb) ?_
    clear hK K
    try clear hn
    refine wpS_doL rfl ?_
    intro K hK
    go_wp2_with ((go_at_call 106; (with_reducible refine (crtimes_is 35184372088832 35184372088832 r3 Hr3.out (by unfold InI b255; omega) (by unfold InI b255; omega)  _).mono ?_); rintro e w2 ⟨rfl, hn⟩))
    try replace hb := hb.trans (hn.mono hb.size)
    refine hK.out _ _ (up_iff.2 hb) ?_
    clear hK K
    try clear hn
    refine wpS_nil ?_
    simp only [List.drop_succ_cons, List.drop_zero]
    first | refine calls_w ?_ | refine name_world ?_ | refine list_world ?_ | refine post_world ?_
    intro U2 hU2
    first | subst hU2 | (rw [← hU2] at hb; clear hU2)
    clear c1_8 c1_9 c1_10 c1_11 l1
    have k1 := Kk1.out.of hb
    clear Kk1
    replace hb0 := hb0.trans (hb.mono hb0.size)
    clear hb
    go_wp2_with fail
    obtain ⟨r4, hr4⟩ : ∃ o_o : Int, cmpI v r3 = o_o := ⟨_, rfl⟩
    have Hr4 := Lib.hid hr4
    clear hr4
    refine (Cmp_v v r3 r4 Hr4.out _iv (Hr3.out ▸ mulv_in 35184372088832 35184372088832) _).mono ?_
    rintro e U3 ⟨rfl, hn⟩
    replace k1 := k1.of hn
    replace hb0 := hb0.trans (hn.mono hb0.size)
    clear hn
    obtain ⟨z5, hz5⟩ : ∃ o_o : Bool, decide (0 < r4) = o_o := ⟨_, rfl⟩
    cases z5
    · go_wp2_with fail
      obtain ⟨r6, hr6⟩ : ∃ o_o : Int, mulv v 2199023255552 = o_o := ⟨_, rfl⟩
      have Hr6 := Lib.hid hr6
      clear hr6
      have c1_8 : U3.cell? ⟨w.heap.size, 8, none⟩ = some (.int .u64 (wd0 v)) := k1.cell 8
      have c1_9 : U3.cell? ⟨w.heap.size, 9, none⟩ = some (.int .u64 (wd1 v)) := k1.cell 9
      have c1_10 : U3.cell? ⟨w.heap.size, 10, none⟩ = some (.int .u64 (wd2 v)) := k1.cell 10
      have c1_11 : U3.cell? ⟨w.heap.size, 11, none⟩ = some (.int .u64 (wd3 v)) := k1.cell 11
      have l1 := k1.lt
      have Kk1 := Lib.hid k1
      clear k1
      refine wp_region_float1 5 4 [(true, 0), (true, 1), (false, 2), (false, 3)] (by kernel_rfl) (by kernel_rfl) (fun _ _ d _ _ => by cases d <;> exact Iff.rfl) rfl rfl rfl alCr1_0 ?_
      have hb : Below U3.heap.size U3 U3.drew := (Below.refl _ _).drew
      iterate 2
        refine wpF_take rfl rfl ?_
        go_big_quiet_step (rfl)
        refine wpQuiet_nil ?_
      refine wpF_do rfl ?_
      intro w1 hg K hK
      replace hb := hb.trans (hg.mono hb.size)
      clear hg
      go_wp2_with ((go_at_call 62; (with_reducible refine (Of_v 2199023255552 2199023255552 rfl (by unfold In64; omega) _).mono ?_); rintro e w2 ⟨rfl, hn⟩))
      refine hK.out _ _ hn ?_
      replace hb := hb.trans (hn.mono hb.size)
      clear hK K
      clear hn
      refine wpF_do rfl ?_
      intro w1 hg K hK
      replace hb := hb.trans (hg.mono hb.size)
      clear hg
      go_wp2_with ((go_at_call 106; (with_reducible refine (crtimes_is v 2199023255552 r6 Hr6.out _iv (by unfold InI b255; omega)  _).mono ?_); rintro e w2 ⟨rfl, hn⟩))
      refine hK.out _ _ hn ?_
      replace hb := hb.trans (hn.mono hb.size)
      clear hK K
      clear hn
      refine wpF_nil ?_
      clear hb
      intro w1 hg hb b1 lb1 nb1
      clear hg
      simp only [Act.put, ptrTo, List.setIfInBounds_toArray, List.set_cons_succ, List.set_cons_zero]
      simp only [List.drop_succ_cons, List.drop_zero]
      clear c1_8 c1_9 c1_10 c1_11 l1
      first | refine calls_w ?_ | refine name_world ?_ | refine list_world ?_ | refine post_world ?_
      intro U4 hU4
      subst hU4
      have D1 := Lib.hid Kk1.out.lt
      have D2 := Lib.hid hb0.size
      have k2 : Blk U4 b1 #[.int .u64 0, .int .u64 0, .int .u64 0, .int .u64 0] 35 := nb1
      have k1 := Kk1.out.of hb
      clear Kk1
      have D3 := Lib.hid lb1
      clear nb1 lb1
      replace hb0 := hb0.trans (hb.mono hb0.size)
      clear hb
      generalize b1 = q2 at *
      have c2_0 : U4.cell? ⟨q2, 0, none⟩ = some (.int .u64 0) := k2.cell 0
      have c2_1 : U4.cell? ⟨q2, 1, none⟩ = some (.int .u64 0) := k2.cell 1
      have c2_2 : U4.cell? ⟨q2, 2, none⟩ = some (.int .u64 0) := k2.cell 2
      have c2_3 : U4.cell? ⟨q2, 3, none⟩ = some (.int .u64 0) := k2.cell 3
      have f2_0 := k2.free 0
      have f2_1 := k2.free 1
      have f2_2 := k2.free 2
      have f2_3 := k2.free 3
      have l2 := k2.lt
      go_wp2_with fail
      clear c2_0 c2_1 c2_2 c2_3 f2_0 f2_1 f2_2 f2_3 l2
      first | refine calls_w ?_ | refine name_world ?_ | refine list_world ?_ | refine post_world ?_
      intro V5 hV5
      have D4 := Lib.hid k1.lt
      have D5 := Lib.hid k2.lt
      have D6 := Lib.hid hb0.size
      have nk1 : Blk V5 w.heap.size #[.int .u64 (wd0 x), .int .u64 (wd1 x), .int .u64 (wd2 x), .int .u64 (wd3 x), .int .u64 (wd0 y), .int .u64 (wd1 y), .int .u64 (wd2 y), .int .u64 (wd3 y), .int .u64 (wd0 v), .int .u64 (wd1 v), .int .u64 (wd2 v), .int .u64 (wd3 v)] 67 := by rw [hV5]; exact (blk_setL k1 (by have := D1.out; have := D3.out; omega) 0 [.int .u64 (wd0 r6), .int .u64 (wd1 r6), .int .u64 (wd2 r6), .int .u64 (wd3 r6)])
      have nk2 : Blk V5 q2 #[.int .u64 (wd0 r6), .int .u64 (wd1 r6), .int .u64 (wd2 r6), .int .u64 (wd3 r6)] 35 := by rw [hV5]; exact (blk_full _ [.int .u64 (wd0 r6), .int .u64 (wd1 r6), .int .u64 (wd2 r6), .int .u64 (wd3 r6)] k2 rfl)
      have nhb0 : Below w.heap.size w V5 := by rw [hV5]; exact (blw_setL hb0 (by have := D2.out; have := D3.out; omega) 0 [.int .u64 (wd0 r6), .int .u64 (wd1 r6), .int .u64 (wd2 r6), .int .u64 (wd3 r6)])
      clear k1 k2
      clear hb0
      clear hV5
      have k1 := nk1
      clear nk1
      have k2 := nk2
      clear nk2
      have hb0 := nhb0
      clear nhb0
      obtain ⟨r7, hr7⟩ : ∃ o_o : Int, subv 0 r6 = o_o := ⟨_, rfl⟩
      have Hr7 := Lib.hid hr7
      clear hr7
      refine (args_eq (a' := #[.agg #[.int .u64 0, .int .u64 0, .int .u64 0, .int .u64 0], .agg #[.int .u64 (wd0 r6), .int .u64 (wd1 r6), .int .u64 (wd2 r6), .int .u64 (wd3 r6)]]) (crless_is 0 r6 r7 Hr7.out (by unfold InI b255; omega) (Hr6.out ▸ mulv_in v 2199023255552)  _) (by kernel_rfl)).mono ?_
      rintro e U6 ⟨rfl, hn⟩
      replace k1 := k1.of hn
      replace k2 := k2.of hn
      replace hb0 := hb0.trans (hn.mono hb0.size)
      clear hn
      have c1_0 : U6.cell? ⟨w.heap.size, 0, none⟩ = some (.int .u64 (wd0 x)) := k1.cell 0
      have c1_1 : U6.cell? ⟨w.heap.size, 1, none⟩ = some (.int .u64 (wd1 x)) := k1.cell 1
      have c1_2 : U6.cell? ⟨w.heap.size, 2, none⟩ = some (.int .u64 (wd2 x)) := k1.cell 2
      have c1_3 : U6.cell? ⟨w.heap.size, 3, none⟩ = some (.int .u64 (wd3 x)) := k1.cell 3
      have l1 := k1.lt
      go_wp2_with fail
      clear c1_0 c1_1 c1_2 c1_3 l1
      first | refine calls_w ?_ | refine name_world ?_ | refine list_world ?_ | refine post_world ?_
      intro V7 hV7
      have D7 := Lib.hid k1.lt
      have D8 := Lib.hid k2.lt
      have D9 := Lib.hid hb0.size
      have hn : Below U6.heap.size U6 V7 := by rw [hV7]; exact below_a1 _ _
      have nk1 := k1.of hn
      have nk2 := k2.of hn
      have nhb0 := hb0.trans (hn.mono hb0.size)
      clear hn
      have k3 : Blk V7 U6.heap.size #[.int .u64 (wd0 r7), .int .u64 (wd1 r7), .int .u64 (wd2 r7), .int .u64 (wd3 r7)] 35 := by rw [hV7]; exact (Blk.new _ _ _)
      clear k1 k2
      clear hb0
      clear hV7
      have k1 := nk1
      clear nk1
      have k2 := nk2
      clear nk2
      have hb0 := nhb0
      clear nhb0
      obtain ⟨r8, hr8⟩ : ∃ o_o : Int, cmpI x r7 = o_o := ⟨_, rfl⟩
      have Hr8 := Lib.hid hr8
      clear hr8
      refine (Cmp_v x r7 r8 Hr8.out _ix (Hr7.out ▸ subv_in 0 r6) _).mono ?_
      rintro e U8 ⟨rfl, hn⟩
      replace k1 := k1.of hn
      replace k2 := k2.of hn
      replace k3 := k3.of hn
      replace hb0 := hb0.trans (hn.mono hb0.size)
      clear hn
      obtain ⟨z9, hz9⟩ : ∃ o_o : Bool, decide (0 ≤ r8) = o_o := ⟨_, rfl⟩
      cases z9
      · have e0 : false = R0 := by rw [← HR0.out]; unfold spR; (try rw [Hr1.out]); (try rw [hz2]); (try rw [Hr3.out]); (try rw [Hr4.out]); (try rw [hz5]); (try rw [Hr6.out]); (try rw [Hr7.out]); (try rw [Hr8.out]); (try rw [hz9]); all_goals first | rfl | simp
        subst e0
        go_wp2
        first | go_ret | go_ret2
        exact ⟨by first | rfl | simp, hb0⟩
      · have c1_0 : U8.cell? ⟨w.heap.size, 0, none⟩ = some (.int .u64 (wd0 x)) := k1.cell 0
        have c1_1 : U8.cell? ⟨w.heap.size, 1, none⟩ = some (.int .u64 (wd1 x)) := k1.cell 1
        have c1_2 : U8.cell? ⟨w.heap.size, 2, none⟩ = some (.int .u64 (wd2 x)) := k1.cell 2
        have c1_3 : U8.cell? ⟨w.heap.size, 3, none⟩ = some (.int .u64 (wd3 x)) := k1.cell 3
        have l1 := k1.lt
        have c2_0 : U8.cell? ⟨q2, 0, none⟩ = some (.int .u64 (wd0 r6)) := k2.cell 0
        have c2_1 : U8.cell? ⟨q2, 1, none⟩ = some (.int .u64 (wd1 r6)) := k2.cell 1
        have c2_2 : U8.cell? ⟨q2, 2, none⟩ = some (.int .u64 (wd2 r6)) := k2.cell 2
        have c2_3 : U8.cell? ⟨q2, 3, none⟩ = some (.int .u64 (wd3 r6)) := k2.cell 3
        have l2 := k2.lt
        go_wp2_with fail
        clear c1_0 c1_1 c1_2 c1_3 l1 c2_0 c2_1 c2_2 c2_3 l2
        obtain ⟨r10, hr10⟩ : ∃ o_o : Int, cmpI x r6 = o_o := ⟨_, rfl⟩
        have Hr10 := Lib.hid hr10
        clear hr10
        refine (Cmp_v x r6 r10 Hr10.out _ix (Hr6.out ▸ mulv_in v 2199023255552) _).mono ?_
        rintro e U9 ⟨rfl, hn⟩
        replace k1 := k1.of hn
        replace k2 := k2.of hn
        replace k3 := k3.of hn
        replace hb0 := hb0.trans (hn.mono hb0.size)
        clear hn
        obtain ⟨z11, hz11⟩ : ∃ o_o : Bool, decide (r10 ≤ 0) = o_o := ⟨_, rfl⟩
        cases z11
        · have e0 : false = R0 := by rw [← HR0.out]; unfold spR; (try rw [Hr1.out]); (try rw [hz2]); (try rw [Hr3.out]); (try rw [Hr4.out]); (try rw [hz5]); (try rw [Hr6.out]); (try rw [Hr7.out]); (try rw [Hr8.out]); (try rw [hz9]); (try rw [Hr10.out]); (try rw [hz11]); all_goals first | rfl | simp
          subst e0
          go_wp2
          first | go_ret | go_ret2
          exact ⟨by first | rfl | simp, hb0⟩
        · have c1_4 : U9.cell? ⟨w.heap.size, 4, none⟩ = some (.int .u64 (wd0 y)) := k1.cell 4
          have c1_5 : U9.cell? ⟨w.heap.size, 5, none⟩ = some (.int .u64 (wd1 y)) := k1.cell 5
          have c1_6 : U9.cell? ⟨w.heap.size, 6, none⟩ = some (.int .u64 (wd2 y)) := k1.cell 6
          have c1_7 : U9.cell? ⟨w.heap.size, 7, none⟩ = some (.int .u64 (wd3 y)) := k1.cell 7
          have l1 := k1.lt
          have c3_0 : U9.cell? ⟨U6.heap.size, 0, none⟩ = some (.int .u64 (wd0 r7)) := k3.cell 0
          have c3_1 : U9.cell? ⟨U6.heap.size, 1, none⟩ = some (.int .u64 (wd1 r7)) := k3.cell 1
          have c3_2 : U9.cell? ⟨U6.heap.size, 2, none⟩ = some (.int .u64 (wd2 r7)) := k3.cell 2
          have c3_3 : U9.cell? ⟨U6.heap.size, 3, none⟩ = some (.int .u64 (wd3 r7)) := k3.cell 3
          have l3 := k3.lt
          go_wp2_with fail
          clear c1_4 c1_5 c1_6 c1_7 l1 c3_0 c3_1 c3_2 c3_3 l3
          obtain ⟨r12, hr12⟩ : ∃ o_o : Int, cmpI y r7 = o_o := ⟨_, rfl⟩
          have Hr12 := Lib.hid hr12
          clear hr12
          refine (Cmp_v y r7 r12 Hr12.out _iy (Hr7.out ▸ subv_in 0 r6) _).mono ?_
          rintro e U10 ⟨rfl, hn⟩
          clear k3
          replace k1 := k1.of hn
          replace k2 := k2.of hn
          replace hb0 := hb0.trans (hn.mono hb0.size)
          clear hn
          obtain ⟨z13, hz13⟩ : ∃ o_o : Bool, decide (0 ≤ r12) = o_o := ⟨_, rfl⟩
          cases z13
          · have e0 : false = R0 := by rw [← HR0.out]; unfold spR; (try rw [Hr1.out]); (try rw [hz2]); (try rw [Hr3.out]); (try rw [Hr4.out]); (try rw [hz5]); (try rw [Hr6.out]); (try rw [Hr7.out]); (try rw [Hr8.out]); (try rw [hz9]); (try rw [Hr10.out]); (try rw [hz11]); (try rw [Hr12.out]); (try rw [hz13]); all_goals first | rfl | simp
            subst e0
            go_wp2
            first | go_ret | go_ret2
            exact ⟨by first | rfl | simp, hb0⟩
          · have c1_4 : U10.cell? ⟨w.heap.size, 4, none⟩ = some (.int .u64 (wd0 y)) := k1.cell 4
            have c1_5 : U10.cell? ⟨w.heap.size, 5, none⟩ = some (.int .u64 (wd1 y)) := k1.cell 5
            have c1_6 : U10.cell? ⟨w.heap.size, 6, none⟩ = some (.int .u64 (wd2 y)) := k1.cell 6
            have c1_7 : U10.cell? ⟨w.heap.size, 7, none⟩ = some (.int .u64 (wd3 y)) := k1.cell 7
            have l1 := k1.lt
            have c2_0 : U10.cell? ⟨q2, 0, none⟩ = some (.int .u64 (wd0 r6)) := k2.cell 0
            have c2_1 : U10.cell? ⟨q2, 1, none⟩ = some (.int .u64 (wd1 r6)) := k2.cell 1
            have c2_2 : U10.cell? ⟨q2, 2, none⟩ = some (.int .u64 (wd2 r6)) := k2.cell 2
            have c2_3 : U10.cell? ⟨q2, 3, none⟩ = some (.int .u64 (wd3 r6)) := k2.cell 3
            have l2 := k2.lt
            go_wp2_with fail
            clear c1_4 c1_5 c1_6 c1_7 l1 c2_0 c2_1 c2_2 c2_3 l2
            obtain ⟨r14, hr14⟩ : ∃ o_o : Int, cmpI y r6 = o_o := ⟨_, rfl⟩
            have Hr14 := Lib.hid hr14
            clear hr14
            refine (Cmp_v y r6 r14 Hr14.out _iy (Hr6.out ▸ mulv_in v 2199023255552) _).mono ?_
            rintro e U11 ⟨rfl, hn⟩
            clear k1 k2
            replace hb0 := hb0.trans (hn.mono hb0.size)
            clear hn
            have e0 : decide (r14 ≤ 0) = R0 := by rw [← HR0.out]; unfold spR; (try rw [Hr1.out]); (try rw [hz2]); (try rw [Hr3.out]); (try rw [Hr4.out]); (try rw [hz5]); (try rw [Hr6.out]); (try rw [Hr7.out]); (try rw [Hr8.out]); (try rw [hz9]); (try rw [Hr10.out]); (try rw [hz11]); (try rw [Hr12.out]); (try rw [hz13]); (try rw [Hr14.out]); all_goals first | rfl | simp
            subst e0
            go_wp2
            first | go_ret | go_ret2
            exact ⟨by first | rfl | simp, hb0⟩
    · have e0 : false = R0 := by rw [← HR0.out]; unfold spR; (try rw [Hr1.out]); (try rw [hz2]); (try rw [Hr3.out]); (try rw [Hr4.out]); (try rw [hz5]); all_goals first | rfl | simp
      subst e0
      go_wp2
      first | go_ret | go_ret2
      exact ⟨by first | rfl | simp, hb0⟩
  · have c1_8 : V1.cell? ⟨w.heap.size, 8, none⟩ = some (.int .u64 (wd0 v)) := k1.cell 8
    have c1_9 : V1.cell? ⟨w.heap.size, 9, none⟩ = some (.int .u64 (wd1 v)) := k1.cell 9
    have c1_10 : V1.cell? ⟨w.heap.size, 10, none⟩ = some (.int .u64 (wd2 v)) := k1.cell 10
    have c1_11 : V1.cell? ⟨w.heap.size, 11, none⟩ = some (.int .u64 (wd3 v)) := k1.cell 11
    have l1 := k1.lt
    have Kk1 := Lib.hid k1
    clear k1
    refine wp_region_up V1.heap.size 10 [(true, 0), (true, 1), (false, 2), (true, 3), (true, 4), (true, 5), (true, 6), (false, 7), (false, 8), (false, 9)] (by kernel_rfl) (by kernel_rfl) (fun _ _ d _ _ h => by cases d <;> exact h) ?_
    have hb : Below V1.heap.size V1 V1.drew := (Below.refl _ _).drew
    iterate 2
      refine wpS_takeL rfl rfl ?_
      go_big_quiet_step (rfl)
      refine wpQuiet_nil ?_
    refine wpS_doL rfl ?_
    intro K hK
    go_wp2_with ((go_at_call 22; (with_reducible refine (Sign_v v r1 Hr1.out _iv _).mono ?_); rintro e w2 ⟨rfl, hn⟩))
    replace hb := hb.trans (hn.mono hb.size)
    refine hK.out _ _ (up_iff.2 hb) ?_
    clear hK K
    clear hn
    iterate 4
      refine wpS_takeL rfl rfl ?_
      go_big_quiet_step (rfl)
      refine wpQuiet_nil ?_
    refine wpS_doL rfl ?_
    intro K hK
    go_wp2_with ((go_at_call 22; (with_reducible refine (Sign_v v r1 Hr1.out _iv _).mono ?_); rintro e w2 ⟨rfl, hn⟩))
    try replace hb := hb.trans (hn.mono hb.size)
    refine hK.out _ _ (up_iff.2 hb) ?_
    clear hK K
    try clear hn
    refine wpS_doL rfl ?_
    intro K hK
    go_wp2_with ((go_at_call 22; (with_reducible refine (Sign_v v r1 Hr1.out _iv _).mono ?_); rintro e w2 ⟨rfl, hn⟩))
    try replace hb := hb.trans (hn.mono hb.size)
    refine hK.out _ _ (up_iff.2 hb) ?_
    clear hK K
    try clear hn
    refine wpS_doL rfl ?_
    intro K hK
    go_wp2_with ((go_at_call 22; (with_reducible refine (Sign_v v r1 Hr1.out _iv _).mono ?_); rintro e w2 ⟨rfl, hn⟩))
    try replace hb := hb.trans (hn.mono hb.size)
    refine hK.out _ _ (up_iff.2 hb) ?_
    clear hK K
    try clear hn
    refine wpS_nil ?_
    simp only [List.drop_succ_cons, List.drop_zero]
    first | refine calls_w ?_ | refine name_world ?_ | refine list_world ?_ | refine post_world ?_
    intro U12 hU12
    first | subst hU12 | (rw [← hU12] at hb; clear hU12)
    clear c1_8 c1_9 c1_10 c1_11 l1
    have k1 := Kk1.out.of hb
    clear Kk1
    replace hb0 := hb0.trans (hb.mono hb0.size)
    clear hb
    have e0 : false = R0 := by rw [← HR0.out]; unfold spR; (try rw [Hr1.out]); (try rw [hz2]); all_goals first | rfl | simp
    subst e0
    go_wp2
    first | go_ret | go_ret2
    exact ⟨by first | rfl | simp, hb0⟩

end Go.Proofs.Ytlcbomjdbdgbmaa

namespace Go.Proofs.Ytlcbomjdbdgbmaa
open Go.RowKit

def pxS (n : Int) : Bool := (bif decide (1 ≤ n) then decide (n ≤ 1048576) else false)

set_option maxRecDepth 100000 in
set_option maxHeartbeats 4000000 in

theorem pxSize_is (n : Int)  (R0 : Bool) (hR0 : pxS n = R0) (_in : In64 n)  (w : World)  :
    Calls Try.prog 43 #[.int .i64 n] w fun e w' => e = .returned (.bool R0) ∧ Below w.heap.size w w' := by

  have HR0 := Lib.hid hR0
  clear hR0
  obtain ⟨z1, hz1⟩ : ∃ o_o : Bool, decide (1 ≤ n) = o_o := ⟨_, rfl⟩
  cases z1
  · go_enter Try.func43, Try.ntmps43
    have e0 : false = R0 := by rw [← HR0.out]; unfold pxS; (try rw [hz1]); all_goals first | rfl | simp
    subst e0
    go_wp2
    first | go_ret | go_ret2
    exact ⟨by first | rfl | simp, Below.refl _ _⟩
  · go_enter Try.func43, Try.ntmps43
    have e0 : decide (n ≤ 1048576) = R0 := by rw [← HR0.out]; unfold pxS; (try rw [hz1]); all_goals first | rfl | simp
    subst e0
    go_wp2
    first | go_ret | go_ret2
    exact ⟨by first | rfl | simp, Below.refl _ _⟩

set_option maxRecDepth 100000 in
set_option maxHeartbeats 4000000 in

theorem pxtimes_is (x : Int) (y : Int)  (R0 : Int) (hR0 : mulv x y = R0) (_ix : InI x) (_iy : InI y)  (w : World)  :
    Calls Try.prog 130 #[.agg #[.int .u64 (wd0 x), .int .u64 (wd1 x), .int .u64 (wd2 x), .int .u64 (wd3 x)], .agg #[.int .u64 (wd0 y), .int .u64 (wd1 y), .int .u64 (wd2 y), .int .u64 (wd3 y)]] w fun e w' => e = .returned (.agg #[.int .u64 (wd0 R0), .int .u64 (wd1 R0), .int .u64 (wd2 R0), .int .u64 (wd3 R0)]) ∧ Below w.heap.size w w' := by

  have HR0 := Lib.hid hR0
  clear hR0
  go_enter Try.func130, Try.ntmps130
  go_wp2_with fail
  first | refine calls_w ?_ | refine name_world ?_ | refine list_world ?_ | refine post_world ?_
  intro V1 hV1
  have hn : Below w.heap.size w V1 := by rw [hV1]; exact below_a3 _ _ _ _
  have nhb0 := hn
  have k1 : Blk V1 w.heap.size #[.int .u64 (wd0 x), .int .u64 (wd1 x), .int .u64 (wd2 x), .int .u64 (wd3 x)] 35 := by rw [hV1]; exact (((Blk.new _ _ _).alloc _).alloc _)
  have k2 : Blk V1 (w.heap.size + 1) #[.int .u64 (wd0 y), .int .u64 (wd1 y), .int .u64 (wd2 y), .int .u64 (wd3 y)] 35 := by rw [hV1]; exact ((Blk.new1 _ _ _ _).alloc _)
  have k3 : Blk V1 (w.heap.size + 1 + 1) #[.int .u64 0, .int .u64 0, .int .u64 0, .int .u64 0] 35 := by rw [hV1]; exact (Blk.new2 _ _ _ _ _)
  clear hV1
  have hb0 := nhb0
  clear nhb0
  obtain ⟨r1, hr1⟩ : ∃ o_o : Int, mulv x y = o_o := ⟨_, rfl⟩
  have Hr1 := Lib.hid hr1
  clear hr1
  obtain ⟨z2, hz2⟩ : ∃ o_o : Bool, okI (x * y) = o_o := ⟨_, rfl⟩
  have Hz2 := Lib.hid hz2
  clear hz2
  refine (Mul_v x y r1 z2 Hr1.out Hz2.out _ix _iy _).mono ?_
  rintro e U2 ⟨rfl, hn⟩
  clear k1 k2
  replace k3 := k3.of hn
  replace hb0 := hb0.trans (hn.mono hb0.size)
  clear hn
  have c3_0 : U2.cell? ⟨(w.heap.size + 1 + 1), 0, none⟩ = some (.int .u64 0) := k3.cell 0
  have c3_1 : U2.cell? ⟨(w.heap.size + 1 + 1), 1, none⟩ = some (.int .u64 0) := k3.cell 1
  have c3_2 : U2.cell? ⟨(w.heap.size + 1 + 1), 2, none⟩ = some (.int .u64 0) := k3.cell 2
  have c3_3 : U2.cell? ⟨(w.heap.size + 1 + 1), 3, none⟩ = some (.int .u64 0) := k3.cell 3
  have f3_0 := k3.free 0
  have f3_1 := k3.free 1
  have f3_2 := k3.free 2
  have f3_3 := k3.free 3
  have l3 := k3.lt
  have l3_0 : w.heap.size < U2.heap.size := by have := k3.lt; omega
  have l3_1 : w.heap.size + 1 < U2.heap.size := by have := k3.lt; omega
  have e0 : r1 = R0 := by rw [← HR0.out]; (try rw [Hr1.out]); (try rw [Hz2.out]); all_goals first | rfl | simp
  subst e0
  go_wp2
  clear c3_0 c3_1 c3_2 c3_3 f3_0 f3_1 f3_2 f3_3 l3 l3_0 l3_1
  first | refine post_world ?_
  intro V3 hV3
  have D1 := Lib.hid k3.lt
  have D2 := Lib.hid hb0.size
  have nk3 : Blk V3 (w.heap.size + 1 + 1) #[.int .u64 (wd0 r1), .int .u64 (wd1 r1), .int .u64 (wd2 r1), .int .u64 (wd3 r1)] 35 := by rw [hV3]; exact ((blk_full _ [.int .u64 (wd0 r1), .int .u64 (wd1 r1), .int .u64 (wd2 r1), .int .u64 (wd3 r1)] k3 rfl).alloc _)
  have nhb0 : Below w.heap.size w V3 := by rw [hV3]; exact (blw_al (blw_setL hb0 (by omega) 0 [.int .u64 (wd0 r1), .int .u64 (wd1 r1), .int .u64 (wd2 r1), .int .u64 (wd3 r1)]) _)
  clear k3
  clear hb0
  clear hV3
  have k3 := nk3
  clear nk3
  have hb0 := nhb0
  clear nhb0
  have g3_0 : V3.cell? ⟨(w.heap.size + 1 + 1), 0, none⟩ = some (.int .u64 (wd0 r1)) := k3.cell 0
  have g3_1 : V3.cell? ⟨(w.heap.size + 1 + 1), 1, none⟩ = some (.int .u64 (wd1 r1)) := k3.cell 1
  have g3_2 : V3.cell? ⟨(w.heap.size + 1 + 1), 2, none⟩ = some (.int .u64 (wd2 r1)) := k3.cell 2
  have g3_3 : V3.cell? ⟨(w.heap.size + 1 + 1), 3, none⟩ = some (.int .u64 (wd3 r1)) := k3.cell 3
  clear k3
  simp [bodyPost, results, Try.results130, go_sem, g3_0, g3_1, g3_2, g3_3]
  first | exact hb0 | exact ⟨rfl, hb0⟩

set_option maxRecDepth 100000 in
set_option maxHeartbeats 4000000 in

theorem pxplus_is (x : Int) (y : Int)  (R0 : Int) (hR0 : addv x y = R0) (_ix : InI x) (_iy : InI y)  (w : World)  :
    Calls Try.prog 131 #[.agg #[.int .u64 (wd0 x), .int .u64 (wd1 x), .int .u64 (wd2 x), .int .u64 (wd3 x)], .agg #[.int .u64 (wd0 y), .int .u64 (wd1 y), .int .u64 (wd2 y), .int .u64 (wd3 y)]] w fun e w' => e = .returned (.agg #[.int .u64 (wd0 R0), .int .u64 (wd1 R0), .int .u64 (wd2 R0), .int .u64 (wd3 R0)]) ∧ Below w.heap.size w w' := by

  have HR0 := Lib.hid hR0
  clear hR0
  go_enter Try.func131, Try.ntmps131
  go_wp2_with fail
  first | refine calls_w ?_ | refine name_world ?_ | refine list_world ?_ | refine post_world ?_
  intro V1 hV1
  have hn : Below w.heap.size w V1 := by rw [hV1]; exact below_a3 _ _ _ _
  have nhb0 := hn
  have k1 : Blk V1 w.heap.size #[.int .u64 (wd0 x), .int .u64 (wd1 x), .int .u64 (wd2 x), .int .u64 (wd3 x)] 35 := by rw [hV1]; exact (((Blk.new _ _ _).alloc _).alloc _)
  have k2 : Blk V1 (w.heap.size + 1) #[.int .u64 (wd0 y), .int .u64 (wd1 y), .int .u64 (wd2 y), .int .u64 (wd3 y)] 35 := by rw [hV1]; exact ((Blk.new1 _ _ _ _).alloc _)
  have k3 : Blk V1 (w.heap.size + 1 + 1) #[.int .u64 0, .int .u64 0, .int .u64 0, .int .u64 0] 35 := by rw [hV1]; exact (Blk.new2 _ _ _ _ _)
  clear hV1
  have hb0 := nhb0
  clear nhb0
  obtain ⟨r1, hr1⟩ : ∃ o_o : Int, addv x y = o_o := ⟨_, rfl⟩
  have Hr1 := Lib.hid hr1
  clear hr1
  obtain ⟨z2, hz2⟩ : ∃ o_o : Bool, okI (x + y) = o_o := ⟨_, rfl⟩
  have Hz2 := Lib.hid hz2
  clear hz2
  refine (Add_v x y r1 z2 Hr1.out Hz2.out _ix _iy _).mono ?_
  rintro e U2 ⟨rfl, hn⟩
  clear k1 k2
  replace k3 := k3.of hn
  replace hb0 := hb0.trans (hn.mono hb0.size)
  clear hn
  have c3_0 : U2.cell? ⟨(w.heap.size + 1 + 1), 0, none⟩ = some (.int .u64 0) := k3.cell 0
  have c3_1 : U2.cell? ⟨(w.heap.size + 1 + 1), 1, none⟩ = some (.int .u64 0) := k3.cell 1
  have c3_2 : U2.cell? ⟨(w.heap.size + 1 + 1), 2, none⟩ = some (.int .u64 0) := k3.cell 2
  have c3_3 : U2.cell? ⟨(w.heap.size + 1 + 1), 3, none⟩ = some (.int .u64 0) := k3.cell 3
  have f3_0 := k3.free 0
  have f3_1 := k3.free 1
  have f3_2 := k3.free 2
  have f3_3 := k3.free 3
  have l3 := k3.lt
  have l3_0 : w.heap.size < U2.heap.size := by have := k3.lt; omega
  have l3_1 : w.heap.size + 1 < U2.heap.size := by have := k3.lt; omega
  have e0 : r1 = R0 := by rw [← HR0.out]; (try rw [Hr1.out]); (try rw [Hz2.out]); all_goals first | rfl | simp
  subst e0
  go_wp2
  clear c3_0 c3_1 c3_2 c3_3 f3_0 f3_1 f3_2 f3_3 l3 l3_0 l3_1
  first | refine post_world ?_
  intro V3 hV3
  have D1 := Lib.hid k3.lt
  have D2 := Lib.hid hb0.size
  have nk3 : Blk V3 (w.heap.size + 1 + 1) #[.int .u64 (wd0 r1), .int .u64 (wd1 r1), .int .u64 (wd2 r1), .int .u64 (wd3 r1)] 35 := by rw [hV3]; exact ((blk_full _ [.int .u64 (wd0 r1), .int .u64 (wd1 r1), .int .u64 (wd2 r1), .int .u64 (wd3 r1)] k3 rfl).alloc _)
  have nhb0 : Below w.heap.size w V3 := by rw [hV3]; exact (blw_al (blw_setL hb0 (by omega) 0 [.int .u64 (wd0 r1), .int .u64 (wd1 r1), .int .u64 (wd2 r1), .int .u64 (wd3 r1)]) _)
  clear k3
  clear hb0
  clear hV3
  have k3 := nk3
  clear nk3
  have hb0 := nhb0
  clear nhb0
  have g3_0 : V3.cell? ⟨(w.heap.size + 1 + 1), 0, none⟩ = some (.int .u64 (wd0 r1)) := k3.cell 0
  have g3_1 : V3.cell? ⟨(w.heap.size + 1 + 1), 1, none⟩ = some (.int .u64 (wd1 r1)) := k3.cell 1
  have g3_2 : V3.cell? ⟨(w.heap.size + 1 + 1), 2, none⟩ = some (.int .u64 (wd2 r1)) := k3.cell 2
  have g3_3 : V3.cell? ⟨(w.heap.size + 1 + 1), 3, none⟩ = some (.int .u64 (wd3 r1)) := k3.cell 3
  clear k3
  simp [bodyPost, results, Try.results131, go_sem, g3_0, g3_1, g3_2, g3_3]
  first | exact hb0 | exact ⟨rfl, hb0⟩

theorem alPx1_0 : AllocRuns Try.prog 35 #[.int .u64 0, .int .u64 0, .int .u64 0, .int .u64 0] := fun w => by kernel_rfl

def pxc (x : Int) (y : Int) (n : Int) : Int := (smk (dvq (addv (addv x x) (mulv y n)) (addv (mulv y n) (mulv y n))))

set_option maxRecDepth 100000 in
set_option maxHeartbeats 4000000 in

theorem pxcell_is (x : Int) (y : Int) (n : Int)  (R0 : Int) (hR0 : pxc x y n = R0) (_ix : InI x) (_iy : InI y) (_in : In64 n)  (w : World)  :
    Calls Try.prog 98 #[.agg #[.int .u64 (wd0 x), .int .u64 (wd1 x), .int .u64 (wd2 x), .int .u64 (wd3 x)], .agg #[.int .u64 (wd0 y), .int .u64 (wd1 y), .int .u64 (wd2 y), .int .u64 (wd3 y)], .int .i64 n] w fun e w' => e = .returned (.int .i64 R0) ∧ Below w.heap.size w w' := by

  have HR0 := Lib.hid hR0
  clear hR0
  go_enter Try.func98, Try.ntmps98
  go_wp2_with fail
  first | refine calls_w ?_ | refine name_world ?_ | refine list_world ?_ | refine post_world ?_
  intro V1 hV1
  have hn : Below w.heap.size w V1 := by rw [hV1]; exact below_a2 _ _ _
  have nhb0 := hn
  have k1 : Blk V1 w.heap.size #[.int .u64 (wd0 x), .int .u64 (wd1 x), .int .u64 (wd2 x), .int .u64 (wd3 x)] 35 := by rw [hV1]; exact ((Blk.new _ _ _).alloc _)
  have k2 : Blk V1 (w.heap.size + 1) #[.int .u64 (wd0 y), .int .u64 (wd1 y), .int .u64 (wd2 y), .int .u64 (wd3 y)] 35 := by rw [hV1]; exact (Blk.new1 _ _ _ _)
  clear hV1
  have hb0 := nhb0
  clear nhb0
  obtain ⟨r1, hr1⟩ : ∃ o_o : Int, mulv y n = o_o := ⟨_, rfl⟩
  have Hr1 := Lib.hid hr1
  clear hr1
  have c2_0 : V1.cell? ⟨(w.heap.size + 1), 0, none⟩ = some (.int .u64 (wd0 y)) := k2.cell 0
  have c2_1 : V1.cell? ⟨(w.heap.size + 1), 1, none⟩ = some (.int .u64 (wd1 y)) := k2.cell 1
  have c2_2 : V1.cell? ⟨(w.heap.size + 1), 2, none⟩ = some (.int .u64 (wd2 y)) := k2.cell 2
  have c2_3 : V1.cell? ⟨(w.heap.size + 1), 3, none⟩ = some (.int .u64 (wd3 y)) := k2.cell 3
  have l2 := k2.lt
  have Kk1 := Lib.hid k1
  clear k1
  have Kk2 := Lib.hid k2
  clear k2
  refine wp_region_float1 5 4 [(true, 0), (true, 1), (false, 2), (false, 3)] (by kernel_rfl) (by kernel_rfl) (fun _ _ d _ _ => by cases d <;> exact Iff.rfl) rfl rfl rfl alPx1_0 ?_
  have hb : Below V1.heap.size V1 V1.drew := (Below.refl _ _).drew
  iterate 2
    refine wpF_take rfl rfl ?_
    go_big_quiet_step (rfl)
    refine wpQuiet_nil ?_
  refine wpF_do rfl ?_
  intro w1 hg K hK
  replace hb := hb.trans (hg.mono hb.size)
  clear hg
  go_wp2_with ((go_at_call 62; (with_reducible refine (Of_v n n rfl _in _).mono ?_); rintro e w2 ⟨rfl, hn⟩))
  refine hK.out _ _ hn ?_
  replace hb := hb.trans (hn.mono hb.size)
  clear hK K
  clear hn
  refine wpF_do rfl ?_
  intro w1 hg K hK
  replace hb := hb.trans (hg.mono hb.size)
  clear hg
  go_wp2_with ((go_at_call 130; (with_reducible refine (pxtimes_is y n r1 Hr1.out _iy (in64_I' _in)  _).mono ?_); rintro e w2 ⟨rfl, hn⟩))
  refine hK.out _ _ hn ?_
  replace hb := hb.trans (hn.mono hb.size)
  clear hK K
  clear hn
  refine wpF_nil ?_
  clear hb
  intro w1 hg hb b1 lb1 nb1
  clear hg
  simp only [Act.put, ptrTo, List.setIfInBounds_toArray, List.set_cons_succ, List.set_cons_zero]
  simp only [List.drop_succ_cons, List.drop_zero]
  clear c2_0 c2_1 c2_2 c2_3 l2
  first | refine calls_w ?_ | refine name_world ?_ | refine list_world ?_ | refine post_world ?_
  intro U2 hU2
  subst hU2
  have D1 := Lib.hid Kk1.out.lt
  have D2 := Lib.hid Kk2.out.lt
  have D3 := Lib.hid hb0.size
  have k3 : Blk U2 b1 #[.int .u64 0, .int .u64 0, .int .u64 0, .int .u64 0] 35 := nb1
  have k1 := Kk1.out.of hb
  clear Kk1
  have k2 := Kk2.out.of hb
  clear Kk2
  have D4 := Lib.hid lb1
  clear nb1 lb1
  replace hb0 := hb0.trans (hb.mono hb0.size)
  clear hb
  generalize b1 = q3 at *
  have c3_0 : U2.cell? ⟨q3, 0, none⟩ = some (.int .u64 0) := k3.cell 0
  have c3_1 : U2.cell? ⟨q3, 1, none⟩ = some (.int .u64 0) := k3.cell 1
  have c3_2 : U2.cell? ⟨q3, 2, none⟩ = some (.int .u64 0) := k3.cell 2
  have c3_3 : U2.cell? ⟨q3, 3, none⟩ = some (.int .u64 0) := k3.cell 3
  have f3_0 := k3.free 0
  have f3_1 := k3.free 1
  have f3_2 := k3.free 2
  have f3_3 := k3.free 3
  have l3 := k3.lt
  go_wp2_with fail
  clear c3_0 c3_1 c3_2 c3_3 f3_0 f3_1 f3_2 f3_3 l3
  first | refine calls_w ?_ | refine name_world ?_ | refine list_world ?_ | refine post_world ?_
  intro V3 hV3
  clear k2
  have D5 := Lib.hid k1.lt
  have D6 := Lib.hid k3.lt
  have D7 := Lib.hid hb0.size
  have nk1 : Blk V3 w.heap.size #[.int .u64 (wd0 x), .int .u64 (wd1 x), .int .u64 (wd2 x), .int .u64 (wd3 x)] 35 := by rw [hV3]; exact (blk_setL k1 (by have := D1.out; have := D4.out; omega) 0 [.int .u64 (wd0 r1), .int .u64 (wd1 r1), .int .u64 (wd2 r1), .int .u64 (wd3 r1)])
  have nk3 : Blk V3 q3 #[.int .u64 (wd0 r1), .int .u64 (wd1 r1), .int .u64 (wd2 r1), .int .u64 (wd3 r1)] 35 := by rw [hV3]; exact (blk_full _ [.int .u64 (wd0 r1), .int .u64 (wd1 r1), .int .u64 (wd2 r1), .int .u64 (wd3 r1)] k3 rfl)
  have nhb0 : Below w.heap.size w V3 := by rw [hV3]; exact (blw_setL hb0 (by have := D3.out; have := D4.out; omega) 0 [.int .u64 (wd0 r1), .int .u64 (wd1 r1), .int .u64 (wd2 r1), .int .u64 (wd3 r1)])
  clear k1 k3
  clear hb0
  clear hV3
  have k1 := nk1
  clear nk1
  have k3 := nk3
  clear nk3
  have hb0 := nhb0
  clear nhb0
  obtain ⟨r2, hr2⟩ : ∃ o_o : Int, addv x x = o_o := ⟨_, rfl⟩
  have Hr2 := Lib.hid hr2
  clear hr2
  obtain ⟨r3, hr3⟩ : ∃ o_o : Int, addv r2 r1 = o_o := ⟨_, rfl⟩
  have Hr3 := Lib.hid hr3
  clear hr3
  obtain ⟨r4, hr4⟩ : ∃ o_o : Int, addv r1 r1 = o_o := ⟨_, rfl⟩
  have Hr4 := Lib.hid hr4
  clear hr4
  obtain ⟨r5, hr5⟩ : ∃ o_o : Int, dvq r3 r4 = o_o := ⟨_, rfl⟩
  have Hr5 := Lib.hid hr5
  clear hr5
  obtain ⟨r6, hr6⟩ : ∃ o_o : Int, dvr r3 r4 = o_o := ⟨_, rfl⟩
  have Hr6 := Lib.hid hr6
  clear hr6
  obtain ⟨z7, hz7⟩ : ∃ o_o : Bool, dvOk r3 r4 = o_o := ⟨_, rfl⟩
  have Hz7 := Lib.hid hz7
  clear hz7
  have c1_0 : V3.cell? ⟨w.heap.size, 0, none⟩ = some (.int .u64 (wd0 x)) := k1.cell 0
  have c1_1 : V3.cell? ⟨w.heap.size, 1, none⟩ = some (.int .u64 (wd1 x)) := k1.cell 1
  have c1_2 : V3.cell? ⟨w.heap.size, 2, none⟩ = some (.int .u64 (wd2 x)) := k1.cell 2
  have c1_3 : V3.cell? ⟨w.heap.size, 3, none⟩ = some (.int .u64 (wd3 x)) := k1.cell 3
  have l1 := k1.lt
  have c3_0 : V3.cell? ⟨q3, 0, none⟩ = some (.int .u64 (wd0 r1)) := k3.cell 0
  have c3_1 : V3.cell? ⟨q3, 1, none⟩ = some (.int .u64 (wd1 r1)) := k3.cell 1
  have c3_2 : V3.cell? ⟨q3, 2, none⟩ = some (.int .u64 (wd2 r1)) := k3.cell 2
  have c3_3 : V3.cell? ⟨q3, 3, none⟩ = some (.int .u64 (wd3 r1)) := k3.cell 3
  have l3 := k3.lt
  have Kk1 := Lib.hid k1
  clear k1
  have Kk3 := Lib.hid k3
  clear k3
  refine wp_region_FG2 15 13 14 [(0, 0), (0, 1), (0, 3), (0, 5), (0, 6), (1, 2), (1, 4), (1, 7), (1, 8), (0, 9), (0, 10), (2, 11), (2, 12)] [(3, 15), (3, 16), (2, 17)] (by kernel_rfl) (by kernel_rfl) (fun _ _ d _ _ => by cases d <;> exact Iff.rfl) rfl rfl rfl alPx1_0 rfl rfl rfl alPx1_0 rfl ?_
  have hb : Below V3.heap.size V3 V3.drew := (Below.refl _ _).drew
  iterate 5
    refine wpFG_take0 rfl rfl ?_
    go_big_quiet_step (rfl)
    refine wpQuiet_nil ?_
  refine wpFG_do rfl ?_
  intro w1 hg K hK
  replace hb := hb.trans (hg.mono hb.size)
  clear hg
  go_wp2_with ((first | (go_at_call 131; (with_reducible refine (pxplus_is x x r2 Hr2.out _ix _ix  _).mono ?_); rintro e w2 ⟨rfl, hn⟩) | (go_at_call 131; (with_reducible refine (pxplus_is r2 r1 r3 Hr3.out (Hr2.out ▸ addv_in x x) (Hr1.out ▸ mulv_in y n)  _).mono ?_); rintro e w2 ⟨rfl, hn⟩) | (go_at_call 131; (with_reducible refine (pxplus_is r1 r1 r4 Hr4.out (Hr1.out ▸ mulv_in y n) (Hr1.out ▸ mulv_in y n)  _).mono ?_); rintro e w2 ⟨rfl, hn⟩)))
  refine hK.out _ _ hn ?_
  replace hb := hb.trans (hn.mono hb.size)
  clear hK K
  clear hn
  refine wpFG_do rfl ?_
  intro w1 hg K hK
  replace hb := hb.trans (hg.mono hb.size)
  clear hg
  go_wp2_with ((first | (go_at_call 131; (with_reducible refine (pxplus_is x x r2 Hr2.out _ix _ix  _).mono ?_); rintro e w2 ⟨rfl, hn⟩) | (go_at_call 131; (with_reducible refine (pxplus_is r2 r1 r3 Hr3.out (Hr2.out ▸ addv_in x x) (Hr1.out ▸ mulv_in y n)  _).mono ?_); rintro e w2 ⟨rfl, hn⟩) | (go_at_call 131; (with_reducible refine (pxplus_is r1 r1 r4 Hr4.out (Hr1.out ▸ mulv_in y n) (Hr1.out ▸ mulv_in y n)  _).mono ?_); rintro e w2 ⟨rfl, hn⟩)))
  refine hK.out _ _ hn ?_
  replace hb := hb.trans (hn.mono hb.size)
  clear hK K
  clear hn
  refine wpFG_do rfl ?_
  intro w1 hg K hK
  replace hb := hb.trans (hg.mono hb.size)
  clear hg
  go_wp2_with ((first | (go_at_call 131; (with_reducible refine (pxplus_is x x r2 Hr2.out _ix _ix  _).mono ?_); rintro e w2 ⟨rfl, hn⟩) | (go_at_call 131; (with_reducible refine (pxplus_is r2 r1 r3 Hr3.out (Hr2.out ▸ addv_in x x) (Hr1.out ▸ mulv_in y n)  _).mono ?_); rintro e w2 ⟨rfl, hn⟩) | (go_at_call 131; (with_reducible refine (pxplus_is r1 r1 r4 Hr4.out (Hr1.out ▸ mulv_in y n) (Hr1.out ▸ mulv_in y n)  _).mono ?_); rintro e w2 ⟨rfl, hn⟩)))
  refine hK.out _ _ hn ?_
  replace hb := hb.trans (hn.mono hb.size)
  clear hK K
  clear hn
  refine wpFG_do rfl ?_
  intro w1 hg K hK
  replace hb := hb.trans (hg.mono hb.size)
  clear hg
  go_wp2_with ((go_at_call 109; (with_reducible refine (Div_v r3 r4 r5 r6 z7 Hr5.out Hr6.out Hz7.out (Hr3.out ▸ addv_in r2 r1) (Hr4.out ▸ addv_in r1 r1) _).mono ?_); rintro e w2 ⟨rfl, hn⟩))
  refine hK.out _ _ hn ?_
  replace hb := hb.trans (hn.mono hb.size)
  clear hK K
  clear hn
  iterate 2
    refine wpFG_take0 rfl rfl ?_
    go_big_quiet_step (rfl)
    refine wpQuiet_nil ?_
  iterate 2
    refine wpFG_take2 rfl rfl ?_
    go_big_quiet_step (rfl)
    refine wpQuiet_nil ?_
  refine wpFG_nil ?_
  clear hb
  intro w1 hg hb b1 b2 hne lb1 nb1 lb2 nb2
  clear hg
  simp only [Act.put, ptrTo, List.setIfInBounds_toArray, List.set_cons_succ, List.set_cons_zero]
  have m1 : Blk w1 b1 #[.int .u64 0, .int .u64 0, .int .u64 0, .int .u64 0] 35 := nb1
  have mc1_0 : w1.cell? ⟨b1, 0, none⟩ = some (.int .u64 0) := m1.cell 0
  have mf1_0 := m1.free 0
  have mc1_1 : w1.cell? ⟨b1, 1, none⟩ = some (.int .u64 0) := m1.cell 1
  have mf1_1 := m1.free 1
  have mc1_2 : w1.cell? ⟨b1, 2, none⟩ = some (.int .u64 0) := m1.cell 2
  have mf1_2 := m1.free 2
  have mc1_3 : w1.cell? ⟨b1, 3, none⟩ = some (.int .u64 0) := m1.cell 3
  have mf1_3 := m1.free 3
  have m2 : Blk w1 b2 #[.int .u64 0, .int .u64 0, .int .u64 0, .int .u64 0] 35 := nb2
  have mc2_0 : w1.cell? ⟨b2, 0, none⟩ = some (.int .u64 0) := m2.cell 0
  have mf2_0 := m2.free 0
  have mc2_1 : w1.cell? ⟨b2, 1, none⟩ = some (.int .u64 0) := m2.cell 1
  have mf2_1 := m2.free 1
  have mc2_2 : w1.cell? ⟨b2, 2, none⟩ = some (.int .u64 0) := m2.cell 2
  have mf2_2 := m2.free 2
  have mc2_3 : w1.cell? ⟨b2, 3, none⟩ = some (.int .u64 0) := m2.cell 3
  have mf2_3 := m2.free 3
  refine wpG_do3 rfl ?_
  intro K hK
  go_wp2_with (fail)
  refine hK.out _ _ ?_
  clear hK K
  refine wpG_do3 rfl ?_
  intro K hK
  go_wp2_with (fail)
  refine hK.out _ _ ?_
  clear hK K
  refine wpG_take2 rfl rfl ?_
  go_big_quiet_step (rfl)
  refine wpQuiet_nil ?_
  refine wpG_nil ?_
  refine list_world ?_
  intro U4 hU4
  clear c1_0 c1_1 c1_2 c1_3 l1 c3_0 c3_1 c3_2 c3_3 l3
  have D8 := Lib.hid Kk1.out.lt
  have D9 := Lib.hid Kk3.out.lt
  have D10 := Lib.hid hb0.size
  have D11 := Lib.hid lb1
  have D12 := Lib.hid lb2
  have D13 := Lib.hid (show b1 ≠ b2 from hne)
  have k1 : Blk U4 w.heap.size #[.int .u64 (wd0 x), .int .u64 (wd1 x), .int .u64 (wd2 x), .int .u64 (wd3 x)] 35 := by rw [hU4]; exact (blk_setL (blk_setL (Kk1.out.of hb) (by have := D8.out; have := D11.out; omega) 0 [.int .u64 (wd0 r5), .int .u64 (wd1 r5), .int .u64 (wd2 r5), .int .u64 (wd3 r5)]) (by have := D8.out; have := D12.out; omega) 0 [.int .u64 (wd0 r6), .int .u64 (wd1 r6), .int .u64 (wd2 r6), .int .u64 (wd3 r6)])
  have k3 : Blk U4 q3 #[.int .u64 (wd0 r1), .int .u64 (wd1 r1), .int .u64 (wd2 r1), .int .u64 (wd3 r1)] 35 := by rw [hU4]; exact (blk_setL (blk_setL (Kk3.out.of hb) (by have := D9.out; have := D11.out; omega) 0 [.int .u64 (wd0 r5), .int .u64 (wd1 r5), .int .u64 (wd2 r5), .int .u64 (wd3 r5)]) (by have := D9.out; have := D12.out; omega) 0 [.int .u64 (wd0 r6), .int .u64 (wd1 r6), .int .u64 (wd2 r6), .int .u64 (wd3 r6)])
  have k4 : Blk U4 b1 #[.int .u64 (wd0 r5), .int .u64 (wd1 r5), .int .u64 (wd2 r5), .int .u64 (wd3 r5)] 35 := by rw [hU4]; exact (blk_setL (blk_full _ [.int .u64 (wd0 r5), .int .u64 (wd1 r5), .int .u64 (wd2 r5), .int .u64 (wd3 r5)] m1 rfl) (by have := D13.out; omega) 0 [.int .u64 (wd0 r6), .int .u64 (wd1 r6), .int .u64 (wd2 r6), .int .u64 (wd3 r6)])
  have k5 : Blk U4 b2 #[.int .u64 (wd0 r6), .int .u64 (wd1 r6), .int .u64 (wd2 r6), .int .u64 (wd3 r6)] 35 := by rw [hU4]; exact (blk_full _ [.int .u64 (wd0 r6), .int .u64 (wd1 r6), .int .u64 (wd2 r6), .int .u64 (wd3 r6)] (blk_setL m2 (by have := D13.out; omega) 0 [.int .u64 (wd0 r5), .int .u64 (wd1 r5), .int .u64 (wd2 r5), .int .u64 (wd3 r5)]) rfl)
  replace hb0 : Below w.heap.size w U4 := by rw [hU4]; exact (blw_setL (blw_setL (hb0.trans (hb.mono hb0.size)) (by have := D10.out; have := D11.out; omega) 0 [.int .u64 (wd0 r5), .int .u64 (wd1 r5), .int .u64 (wd2 r5), .int .u64 (wd3 r5)]) (by have := D10.out; have := D12.out; omega) 0 [.int .u64 (wd0 r6), .int .u64 (wd1 r6), .int .u64 (wd2 r6), .int .u64 (wd3 r6)])
  clear hU4 hb Kk1 Kk3 m1 nb1 lb1 mc1_0 mf1_0 mc1_1 mf1_1 mc1_2 mf1_2 mc1_3 mf1_3 m2 nb2 lb2 mc2_0 mf2_0 mc2_1 mf2_1 mc2_2 mf2_2 mc2_3 mf2_3 hne
  generalize b1 = q4 at *
  generalize b2 = q5 at *
  have c4_0 : U4.cell? ⟨q4, 0, none⟩ = some (.int .u64 (wd0 r5)) := k4.cell 0
  have c4_1 : U4.cell? ⟨q4, 1, none⟩ = some (.int .u64 (wd1 r5)) := k4.cell 1
  have c4_2 : U4.cell? ⟨q4, 2, none⟩ = some (.int .u64 (wd2 r5)) := k4.cell 2
  have c4_3 : U4.cell? ⟨q4, 3, none⟩ = some (.int .u64 (wd3 r5)) := k4.cell 3
  have l4 := k4.lt
  go_wp2_with fail
  clear c4_0 c4_1 c4_2 c4_3 l4
  obtain ⟨r8, hr8⟩ : ∃ o_o : Int, smk r5 = o_o := ⟨_, rfl⟩
  have Hr8 := Lib.hid hr8
  clear hr8
  obtain ⟨z9, hz9⟩ : ∃ o_o : Bool, decide (In64 r5) = o_o := ⟨_, rfl⟩
  have Hz9 := Lib.hid hz9
  clear hz9
  refine (Small_v r5 r8 z9 Hr8.out Hz9.out (Hr5.out ▸ dvq_in (Hr3.out ▸ addv_in r2 r1) (Hr4.out ▸ addv_in r1 r1)) _).mono ?_
  rintro e U5 ⟨rfl, hn⟩
  clear k1 k3 k4 k5
  replace hb0 := hb0.trans (hn.mono hb0.size)
  clear hn
  have e0 : r8 = R0 := by rw [← HR0.out]; unfold pxc; (try rw [Hr1.out]); (try rw [Hr2.out]); (try rw [Hr3.out]); (try rw [Hr4.out]); (try rw [Hr5.out]); (try rw [Hr6.out]); (try rw [Hz7.out]); (try rw [Hr8.out]); (try rw [Hz9.out]); all_goals first | rfl | simp
  subst e0
  go_wp2
  first | go_ret | go_ret2
  exact ⟨by first | rfl | simp, hb0⟩

def pxOx (x : Int) (y : Int) (v : Int) (n : Int) : Int := (bif (pxS n) then (bif (spR x y v) then (pxc x v n) else 0) else 0)

def pxOy (x : Int) (y : Int) (v : Int) (n : Int) : Int := (bif (pxS n) then (bif (spR x y v) then (pxc y v n) else 0) else 0)

def pxOe (x : Int) (y : Int) (v : Int) (n : Int) : Int := (bif (pxS n) then (bif (spR x y v) then 0 else 11) else 11)

set_option maxRecDepth 100000 in
set_option maxHeartbeats 4000000 in

theorem pxOf_is (x : Int) (y : Int) (v : Int) (n : Int)  (R0 : Int) (R1 : Int) (R2 : Int) (hR0 : pxOx x y v n = R0) (hR1 : pxOy x y v n = R1) (hR2 : pxOe x y v n = R2) (_ix : InI x) (_iy : InI y) (_iv : InI v) (_in : In64 n)  (w : World)  :
    Calls Try.prog 39 #[.agg #[.int .u64 (wd0 x), .int .u64 (wd1 x), .int .u64 (wd2 x), .int .u64 (wd3 x), .int .u64 (wd0 y), .int .u64 (wd1 y), .int .u64 (wd2 y), .int .u64 (wd3 y), .int .u64 (wd0 v), .int .u64 (wd1 v), .int .u64 (wd2 v), .int .u64 (wd3 v)], .int .i64 n] w fun e w' => e = .returned (.tuple #[.agg #[.int .i64 R0, .int .i64 R1], .int .i64 R2]) ∧ Below w.heap.size w w' := by

  have HR0 := Lib.hid hR0
  clear hR0
  have HR1 := Lib.hid hR1
  clear hR1
  have HR2 := Lib.hid hR2
  clear hR2
  go_enter Try.func39, Try.ntmps39
  go_wp2_with fail
  first | refine calls_w ?_ | refine name_world ?_ | refine list_world ?_ | refine post_world ?_
  intro V1 hV1
  have hn : Below w.heap.size w V1 := by rw [hV1]; exact below_a2 _ _ _
  have nhb0 := hn
  have k1 : Blk V1 w.heap.size #[.int .u64 (wd0 x), .int .u64 (wd1 x), .int .u64 (wd2 x), .int .u64 (wd3 x), .int .u64 (wd0 y), .int .u64 (wd1 y), .int .u64 (wd2 y), .int .u64 (wd3 y), .int .u64 (wd0 v), .int .u64 (wd1 v), .int .u64 (wd2 v), .int .u64 (wd3 v)] 67 := by rw [hV1]; exact ((Blk.new _ _ _).alloc _)
  have k2 : Blk V1 (w.heap.size + 1) #[.int .i64 0, .int .i64 0] 24 := by rw [hV1]; exact (Blk.new1 _ _ _ _)
  clear hV1
  have hb0 := nhb0
  clear nhb0
  obtain ⟨z1, hz1⟩ : ∃ o_o : Bool, pxS n = o_o := ⟨_, rfl⟩
  have Hz1 := Lib.hid hz1
  clear hz1
  refine (pxSize_is n z1 Hz1.out _in  _).mono ?_
  rintro e U2 ⟨rfl, hn⟩
  replace k1 := k1.of hn
  replace k2 := k2.of hn
  replace hb0 := hb0.trans (hn.mono hb0.size)
  clear hn
  cases z1
  · have c2_0 : U2.cell? ⟨(w.heap.size + 1), 0, none⟩ = some (.int .i64 0) := k2.cell 0
    have c2_1 : U2.cell? ⟨(w.heap.size + 1), 1, none⟩ = some (.int .i64 0) := k2.cell 1
    have f2_0 := k2.free 0
    have f2_1 := k2.free 1
    have l2 := k2.lt
    have e0 : 0 = R0 := by rw [← HR0.out]; unfold pxOx; (try rw [Hz1.out]); all_goals first | rfl | simp
    have e1 : 0 = R1 := by rw [← HR1.out]; unfold pxOy; (try rw [Hz1.out]); all_goals first | rfl | simp
    have e2 : 11 = R2 := by rw [← HR2.out]; unfold pxOe; (try rw [Hz1.out]); all_goals first | rfl | simp
    subst e0
    subst e1
    subst e2
    go_wp2
    clear c2_0 c2_1 f2_0 f2_1 l2
    first | refine post_world ?_
    intro V3 hV3
    have D1 := Lib.hid k1.lt
    have D2 := Lib.hid k2.lt
    have D3 := Lib.hid hb0.size
    clear k1
    have nk2 : Blk V3 (w.heap.size + 1) #[.int .i64 0, .int .i64 0] 24 := by rw [hV3]; exact (blk_full _ [.int .i64 0, .int .i64 0] k2 rfl)
    have nhb0 : Below w.heap.size w V3 := by rw [hV3]; exact (blw_setL hb0 (by omega) 0 [.int .i64 0, .int .i64 0])
    clear k2
    clear hb0
    clear hV3
    have k2 := nk2
    clear nk2
    have hb0 := nhb0
    clear nhb0
    have g2_0 : V3.cell? ⟨(w.heap.size + 1), 0, none⟩ = some (.int .i64 0) := k2.cell 0
    have g2_1 : V3.cell? ⟨(w.heap.size + 1), 1, none⟩ = some (.int .i64 0) := k2.cell 1
    clear k2
    simp [bodyPost, results, Try.results39, go_sem, g2_0, g2_1]
    first | exact hb0 | exact ⟨rfl, hb0⟩
  · have c1_0 : U2.cell? ⟨w.heap.size, 0, none⟩ = some (.int .u64 (wd0 x)) := k1.cell 0
    have c1_1 : U2.cell? ⟨w.heap.size, 1, none⟩ = some (.int .u64 (wd1 x)) := k1.cell 1
    have c1_2 : U2.cell? ⟨w.heap.size, 2, none⟩ = some (.int .u64 (wd2 x)) := k1.cell 2
    have c1_3 : U2.cell? ⟨w.heap.size, 3, none⟩ = some (.int .u64 (wd3 x)) := k1.cell 3
    have c1_4 : U2.cell? ⟨w.heap.size, 4, none⟩ = some (.int .u64 (wd0 y)) := k1.cell 4
    have c1_5 : U2.cell? ⟨w.heap.size, 5, none⟩ = some (.int .u64 (wd1 y)) := k1.cell 5
    have c1_6 : U2.cell? ⟨w.heap.size, 6, none⟩ = some (.int .u64 (wd2 y)) := k1.cell 6
    have c1_7 : U2.cell? ⟨w.heap.size, 7, none⟩ = some (.int .u64 (wd3 y)) := k1.cell 7
    have c1_8 : U2.cell? ⟨w.heap.size, 8, none⟩ = some (.int .u64 (wd0 v)) := k1.cell 8
    have c1_9 : U2.cell? ⟨w.heap.size, 9, none⟩ = some (.int .u64 (wd1 v)) := k1.cell 9
    have c1_10 : U2.cell? ⟨w.heap.size, 10, none⟩ = some (.int .u64 (wd2 v)) := k1.cell 10
    have c1_11 : U2.cell? ⟨w.heap.size, 11, none⟩ = some (.int .u64 (wd3 v)) := k1.cell 11
    have l1 := k1.lt
    go_wp2_with fail
    clear c1_0 c1_1 c1_2 c1_3 c1_4 c1_5 c1_6 c1_7 c1_8 c1_9 c1_10 c1_11 l1
    obtain ⟨z2, hz2⟩ : ∃ o_o : Bool, spR x y v = o_o := ⟨_, rfl⟩
    have Hz2 := Lib.hid hz2
    clear hz2
    refine (SpRight_is x y v z2 Hz2.out _ix _iy _iv  _).mono ?_
    rintro e U4 ⟨rfl, hn⟩
    replace k1 := k1.of hn
    replace k2 := k2.of hn
    replace hb0 := hb0.trans (hn.mono hb0.size)
    clear hn
    cases z2
    · have c2_0 : U4.cell? ⟨(w.heap.size + 1), 0, none⟩ = some (.int .i64 0) := k2.cell 0
      have c2_1 : U4.cell? ⟨(w.heap.size + 1), 1, none⟩ = some (.int .i64 0) := k2.cell 1
      have f2_0 := k2.free 0
      have f2_1 := k2.free 1
      have l2 := k2.lt
      have e0 : 0 = R0 := by rw [← HR0.out]; unfold pxOx; (try rw [Hz1.out]); (try rw [Hz2.out]); all_goals first | rfl | simp
      have e1 : 0 = R1 := by rw [← HR1.out]; unfold pxOy; (try rw [Hz1.out]); (try rw [Hz2.out]); all_goals first | rfl | simp
      have e2 : 11 = R2 := by rw [← HR2.out]; unfold pxOe; (try rw [Hz1.out]); (try rw [Hz2.out]); all_goals first | rfl | simp
      subst e0
      subst e1
      subst e2
      go_wp2
      clear c2_0 c2_1 f2_0 f2_1 l2
      first | refine post_world ?_
      intro V5 hV5
      have D4 := Lib.hid k1.lt
      have D5 := Lib.hid k2.lt
      have D6 := Lib.hid hb0.size
      clear k1
      have nk2 : Blk V5 (w.heap.size + 1) #[.int .i64 0, .int .i64 0] 24 := by rw [hV5]; exact (blk_full _ [.int .i64 0, .int .i64 0] k2 rfl)
      have nhb0 : Below w.heap.size w V5 := by rw [hV5]; exact (blw_setL hb0 (by omega) 0 [.int .i64 0, .int .i64 0])
      clear k2
      clear hb0
      clear hV5
      have k2 := nk2
      clear nk2
      have hb0 := nhb0
      clear nhb0
      have g2_0 : V5.cell? ⟨(w.heap.size + 1), 0, none⟩ = some (.int .i64 0) := k2.cell 0
      have g2_1 : V5.cell? ⟨(w.heap.size + 1), 1, none⟩ = some (.int .i64 0) := k2.cell 1
      clear k2
      simp [bodyPost, results, Try.results39, go_sem, g2_0, g2_1]
      first | exact hb0 | exact ⟨rfl, hb0⟩
    · go_wp2_with fail
      obtain ⟨r3, hr3⟩ : ∃ o_o : Int, pxc x v n = o_o := ⟨_, rfl⟩
      have Hr3 := Lib.hid hr3
      clear hr3
      have c1_0 : U4.cell? ⟨w.heap.size, 0, none⟩ = some (.int .u64 (wd0 x)) := k1.cell 0
      have c1_1 : U4.cell? ⟨w.heap.size, 1, none⟩ = some (.int .u64 (wd1 x)) := k1.cell 1
      have c1_2 : U4.cell? ⟨w.heap.size, 2, none⟩ = some (.int .u64 (wd2 x)) := k1.cell 2
      have c1_3 : U4.cell? ⟨w.heap.size, 3, none⟩ = some (.int .u64 (wd3 x)) := k1.cell 3
      have c1_4 : U4.cell? ⟨w.heap.size, 4, none⟩ = some (.int .u64 (wd0 y)) := k1.cell 4
      have c1_5 : U4.cell? ⟨w.heap.size, 5, none⟩ = some (.int .u64 (wd1 y)) := k1.cell 5
      have c1_6 : U4.cell? ⟨w.heap.size, 6, none⟩ = some (.int .u64 (wd2 y)) := k1.cell 6
      have c1_7 : U4.cell? ⟨w.heap.size, 7, none⟩ = some (.int .u64 (wd3 y)) := k1.cell 7
      have c1_8 : U4.cell? ⟨w.heap.size, 8, none⟩ = some (.int .u64 (wd0 v)) := k1.cell 8
      have c1_9 : U4.cell? ⟨w.heap.size, 9, none⟩ = some (.int .u64 (wd1 v)) := k1.cell 9
      have c1_10 : U4.cell? ⟨w.heap.size, 10, none⟩ = some (.int .u64 (wd2 v)) := k1.cell 10
      have c1_11 : U4.cell? ⟨w.heap.size, 11, none⟩ = some (.int .u64 (wd3 v)) := k1.cell 11
      have l1 := k1.lt
      have Kk1 := Lib.hid k1
      clear k1
      have Kk2 := Lib.hid k2
      clear k2
      refine wp_region_up U4.heap.size 11 [(true, 0), (true, 1), (true, 2), (true, 3), (true, 4), (true, 6), (true, 7), (true, 8), (true, 9), (true, 10), (false, 5)] (by kernel_rfl) (by kernel_rfl) (fun _ _ d _ _ h => by cases d <;> exact h) ?_
      have hb : Below U4.heap.size U4 U4.drew := (Below.refl _ _).drew
      iterate 10
        refine wpS_takeL rfl rfl ?_
        go_big_quiet_step (rfl)
        refine wpQuiet_nil ?_
      refine wpS_doL rfl ?_
      intro K hK
      go_wp2_with ((go_at_call 98; (with_reducible refine (pxcell_is x v n r3 Hr3.out _ix _iv _in  _).mono ?_); rintro e w2 ⟨rfl, hn⟩))
      replace hb := hb.trans (hn.mono hb.size)
      refine hK.out _ _ (up_iff.2 hb) ?_
      clear hK K
      clear hn
      refine wpS_nil ?_
      simp only [List.drop_succ_cons, List.drop_zero]
      first | refine calls_w ?_ | refine name_world ?_ | refine list_world ?_ | refine post_world ?_
      intro U6 hU6
      first | (subst hU6; have u_ := U6; clear u_) | (rw [← hU6] at hb; clear hU6)
      clear c1_0 c1_1 c1_2 c1_3 c1_4 c1_5 c1_6 c1_7 c1_8 c1_9 c1_10 c1_11 l1
      have k1 := Kk1.out.of hb
      clear Kk1
      have k2 := Kk2.out.of hb
      clear Kk2
      replace hb0 := hb0.trans (hb.mono hb0.size)
      clear hb
      go_wp2_with fail
      obtain ⟨r4, hr4⟩ : ∃ o_o : Int, pxc y v n = o_o := ⟨_, rfl⟩
      have Hr4 := Lib.hid hr4
      clear hr4
      refine (pxcell_is y v n r4 Hr4.out _iy _iv _in  _).mono ?_
      rintro e U7 ⟨rfl, hn⟩
      clear k1
      replace k2 := k2.of hn
      replace hb0 := hb0.trans (hn.mono hb0.size)
      clear hn
      have c2_0 : U7.cell? ⟨(w.heap.size + 1), 0, none⟩ = some (.int .i64 0) := k2.cell 0
      have c2_1 : U7.cell? ⟨(w.heap.size + 1), 1, none⟩ = some (.int .i64 0) := k2.cell 1
      have f2_0 := k2.free 0
      have f2_1 := k2.free 1
      have l2 := k2.lt
      have e0 : r3 = R0 := by rw [← HR0.out]; unfold pxOx; (try rw [Hz1.out]); (try rw [Hz2.out]); (try rw [Hr3.out]); (try rw [Hr4.out]); all_goals first | rfl | simp
      have e1 : r4 = R1 := by rw [← HR1.out]; unfold pxOy; (try rw [Hz1.out]); (try rw [Hz2.out]); (try rw [Hr3.out]); (try rw [Hr4.out]); all_goals first | rfl | simp
      have e2 : 0 = R2 := by rw [← HR2.out]; unfold pxOe; (try rw [Hz1.out]); (try rw [Hz2.out]); (try rw [Hr3.out]); (try rw [Hr4.out]); all_goals first | rfl | simp
      subst e0
      subst e1
      subst e2
      go_wp2
      clear c2_0 c2_1 f2_0 f2_1 l2
      first | refine post_world ?_
      intro V8 hV8
      have D7 := Lib.hid k2.lt
      have D8 := Lib.hid hb0.size
      have nk2 : Blk V8 (w.heap.size + 1) #[.int .i64 r3, .int .i64 r4] 24 := by rw [hV8]; exact (blk_full _ [.int .i64 r3, .int .i64 r4] k2 rfl)
      have nhb0 : Below w.heap.size w V8 := by rw [hV8]; exact (blw_setL hb0 (by omega) 0 [.int .i64 r3, .int .i64 r4])
      clear k2
      clear hb0
      clear hV8
      have k2 := nk2
      clear nk2
      have hb0 := nhb0
      clear nhb0
      have g2_0 : V8.cell? ⟨(w.heap.size + 1), 0, none⟩ = some (.int .i64 r3) := k2.cell 0
      have g2_1 : V8.cell? ⟨(w.heap.size + 1), 1, none⟩ = some (.int .i64 r4) := k2.cell 1
      clear k2
      simp [bodyPost, results, Try.results39, go_sem, g2_0, g2_1]
      first | exact hb0 | exact ⟨rfl, hb0⟩

def pxbn (n : Int) (_m : Int) : Int := n

def pxbd (_n : Int) (m : Int) : Int := m

theorem pxbn_in (n : Int) (m : Int) (_in : In64 n) (_im : In64 m) : InI (pxbn n m) := by
  unfold pxbn
  exact (in64_I' _in)

theorem pxbd_in (n : Int) (m : Int) (_in : In64 n) (_im : In64 m) : InI (pxbd n m) := by
  unfold pxbd
  exact (in64_I' _im)

set_option maxRecDepth 100000 in
set_option maxHeartbeats 4000000 in

theorem pxbd_is (n : Int) (m : Int)  (R0 : Int) (R1 : Int) (hR0 : pxbn n m = R0) (hR1 : pxbd n m = R1) (_in : In64 n) (_im : In64 m)  (w : World)  :
    Calls Try.prog 126 #[.int .i64 n, .int .i64 m] w fun e w' => e = .returned (.agg #[.int .u64 (wd0 R0), .int .u64 (wd1 R0), .int .u64 (wd2 R0), .int .u64 (wd3 R0), .int .u64 (wd0 R1), .int .u64 (wd1 R1), .int .u64 (wd2 R1), .int .u64 (wd3 R1)]) ∧ Below w.heap.size w w' := by

  have HR0 := Lib.hid hR0
  clear hR0
  have HR1 := Lib.hid hR1
  clear hR1
  go_enter Try.func126, Try.ntmps126
  go_wp2_with fail
  first | refine calls_w ?_ | refine name_world ?_ | refine list_world ?_ | refine post_world ?_
  intro V1 hV1
  have hn : Below w.heap.size w V1 := by rw [hV1]; exact below_a1 _ _
  have nhb0 := hn
  have k1 : Blk V1 w.heap.size #[.int .u64 0, .int .u64 0, .int .u64 0, .int .u64 0, .int .u64 0, .int .u64 0, .int .u64 0, .int .u64 0] 52 := by rw [hV1]; exact (Blk.new _ _ _)
  clear hV1
  have hb0 := nhb0
  clear nhb0
  refine (Of_v n n rfl _in _).mono ?_
  rintro e U2 ⟨rfl, hn⟩
  replace k1 := k1.of hn
  replace hb0 := hb0.trans (hn.mono hb0.size)
  clear hn
  go_wp2_with fail
  refine (Of_v m m rfl _im _).mono ?_
  rintro e U3 ⟨rfl, hn⟩
  replace k1 := k1.of hn
  replace hb0 := hb0.trans (hn.mono hb0.size)
  clear hn
  have c1_0 : U3.cell? ⟨w.heap.size, 0, none⟩ = some (.int .u64 0) := k1.cell 0
  have c1_1 : U3.cell? ⟨w.heap.size, 1, none⟩ = some (.int .u64 0) := k1.cell 1
  have c1_2 : U3.cell? ⟨w.heap.size, 2, none⟩ = some (.int .u64 0) := k1.cell 2
  have c1_3 : U3.cell? ⟨w.heap.size, 3, none⟩ = some (.int .u64 0) := k1.cell 3
  have c1_4 : U3.cell? ⟨w.heap.size, 4, none⟩ = some (.int .u64 0) := k1.cell 4
  have c1_5 : U3.cell? ⟨w.heap.size, 5, none⟩ = some (.int .u64 0) := k1.cell 5
  have c1_6 : U3.cell? ⟨w.heap.size, 6, none⟩ = some (.int .u64 0) := k1.cell 6
  have c1_7 : U3.cell? ⟨w.heap.size, 7, none⟩ = some (.int .u64 0) := k1.cell 7
  have f1_0 := k1.free 0
  have f1_1 := k1.free 1
  have f1_2 := k1.free 2
  have f1_3 := k1.free 3
  have f1_4 := k1.free 4
  have f1_5 := k1.free 5
  have f1_6 := k1.free 6
  have f1_7 := k1.free 7
  have l1 := k1.lt
  have e0 : n = R0 := by rw [← HR0.out]; unfold pxbn; all_goals first | rfl | simp
  have e1 : m = R1 := by rw [← HR1.out]; unfold pxbd; all_goals first | rfl | simp
  subst e0
  subst e1
  go_wp2
  clear c1_0 c1_1 c1_2 c1_3 c1_4 c1_5 c1_6 c1_7 f1_0 f1_1 f1_2 f1_3 f1_4 f1_5 f1_6 f1_7 l1
  first | refine post_world ?_
  intro V4 hV4
  have D1 := Lib.hid k1.lt
  have D2 := Lib.hid hb0.size
  have nk1 : Blk V4 w.heap.size #[.int .u64 (wd0 n), .int .u64 (wd1 n), .int .u64 (wd2 n), .int .u64 (wd3 n), .int .u64 (wd0 m), .int .u64 (wd1 m), .int .u64 (wd2 m), .int .u64 (wd3 m)] 52 := by rw [hV4]; exact (blk_full _ [.int .u64 (wd0 n), .int .u64 (wd1 n), .int .u64 (wd2 n), .int .u64 (wd3 n), .int .u64 (wd0 m), .int .u64 (wd1 m), .int .u64 (wd2 m), .int .u64 (wd3 m)] k1 rfl)
  have nhb0 : Below w.heap.size w V4 := by rw [hV4]; exact (blw_setL hb0 (by omega) 0 [.int .u64 (wd0 n), .int .u64 (wd1 n), .int .u64 (wd2 n), .int .u64 (wd3 n), .int .u64 (wd0 m), .int .u64 (wd1 m), .int .u64 (wd2 m), .int .u64 (wd3 m)])
  clear k1
  clear hb0
  clear hV4
  have k1 := nk1
  clear nk1
  have hb0 := nhb0
  clear nhb0
  have g1_0 : V4.cell? ⟨w.heap.size, 0, none⟩ = some (.int .u64 (wd0 n)) := k1.cell 0
  have g1_1 : V4.cell? ⟨w.heap.size, 1, none⟩ = some (.int .u64 (wd1 n)) := k1.cell 1
  have g1_2 : V4.cell? ⟨w.heap.size, 2, none⟩ = some (.int .u64 (wd2 n)) := k1.cell 2
  have g1_3 : V4.cell? ⟨w.heap.size, 3, none⟩ = some (.int .u64 (wd3 n)) := k1.cell 3
  have g1_4 : V4.cell? ⟨w.heap.size, 4, none⟩ = some (.int .u64 (wd0 m)) := k1.cell 4
  have g1_5 : V4.cell? ⟨w.heap.size, 5, none⟩ = some (.int .u64 (wd1 m)) := k1.cell 5
  have g1_6 : V4.cell? ⟨w.heap.size, 6, none⟩ = some (.int .u64 (wd2 m)) := k1.cell 6
  have g1_7 : V4.cell? ⟨w.heap.size, 7, none⟩ = some (.int .u64 (wd3 m)) := k1.cell 7
  clear k1
  simp [bodyPost, results, Try.results126, go_sem, g1_0, g1_1, g1_2, g1_3, g1_4, g1_5, g1_6, g1_7]
  first | exact hb0 | exact ⟨rfl, hb0⟩

def pxl (x : Int) (y : Int) (x2 : Int) (y2 : Int) : Int := (rtC x y x2 y2)

set_option maxRecDepth 100000 in
set_option maxHeartbeats 4000000 in

theorem pxls_is (x : Int) (y : Int) (x2 : Int) (y2 : Int)  (R0 : Int) (hR0 : pxl x y x2 y2 = R0) (_ix : InI x) (_iy : InI y) (_ix2 : InI x2) (_iy2 : InI y2)  (w : World)  :
    Calls Try.prog 128 #[.agg #[.int .u64 (wd0 x), .int .u64 (wd1 x), .int .u64 (wd2 x), .int .u64 (wd3 x), .int .u64 (wd0 y), .int .u64 (wd1 y), .int .u64 (wd2 y), .int .u64 (wd3 y)], .agg #[.int .u64 (wd0 x2), .int .u64 (wd1 x2), .int .u64 (wd2 x2), .int .u64 (wd3 x2), .int .u64 (wd0 y2), .int .u64 (wd1 y2), .int .u64 (wd2 y2), .int .u64 (wd3 y2)]] w fun e w' => e = .returned (.int .i64 R0) ∧ Below w.heap.size w w' := by

  have HR0 := Lib.hid hR0
  clear hR0
  go_enter Try.func128, Try.ntmps128
  go_wp2_with fail
  first | refine calls_w ?_ | refine name_world ?_ | refine list_world ?_ | refine post_world ?_
  intro V1 hV1
  have hn : Below w.heap.size w V1 := by rw [hV1]; exact below_a2 _ _ _
  have nhb0 := hn
  have k1 : Blk V1 w.heap.size #[.int .u64 (wd0 x), .int .u64 (wd1 x), .int .u64 (wd2 x), .int .u64 (wd3 x), .int .u64 (wd0 y), .int .u64 (wd1 y), .int .u64 (wd2 y), .int .u64 (wd3 y)] 52 := by rw [hV1]; exact ((Blk.new _ _ _).alloc _)
  have k2 : Blk V1 (w.heap.size + 1) #[.int .u64 (wd0 x2), .int .u64 (wd1 x2), .int .u64 (wd2 x2), .int .u64 (wd3 x2), .int .u64 (wd0 y2), .int .u64 (wd1 y2), .int .u64 (wd2 y2), .int .u64 (wd3 y2)] 52 := by rw [hV1]; exact (Blk.new1 _ _ _ _)
  clear hV1
  have hb0 := nhb0
  clear nhb0
  obtain ⟨r1, hr1⟩ : ∃ o_o : Int, rtC x y x2 y2 = o_o := ⟨_, rfl⟩
  have Hr1 := Lib.hid hr1
  clear hr1
  obtain ⟨z2, hz2⟩ : ∃ o_o : Bool, rtCk x y x2 y2 = o_o := ⟨_, rfl⟩
  have Hz2 := Lib.hid hz2
  clear hz2
  refine (rtC_v x y x2 y2 r1 z2 Hr1.out Hz2.out _ix _iy _ix2 _iy2 _).mono ?_
  rintro e U2 ⟨rfl, hn⟩
  clear k1 k2
  replace hb0 := hb0.trans (hn.mono hb0.size)
  clear hn
  have e0 : r1 = R0 := by rw [← HR0.out]; unfold pxl; (try rw [Hr1.out]); (try rw [Hz2.out]); all_goals first | rfl | simp
  subst e0
  go_wp2
  first | go_ret | go_ret2
  exact ⟨by first | rfl | simp, hb0⟩
end Go.Proofs.Ytlcbomjdbdgbmaa

namespace Go.Proofs.Ytlcbomjdbdgbmaa
open Go.RowKit

theorem blk_eq {w : World} {b : Nat} {c c' : Array Value} {t : TypeId} (h : Blk w b c t) (e : c = c') : Blk w b c' t := e ▸ h
section
variable {P : Program} {ops : Array Oper} {C : World → Prop} {Q : Exit → Act → World → Prop}
theorem nil_value {o : Oper} {x : Operand} {ρ : Operand → Value} {w w' : World} {n : Next} (hp : o.op = .nilCheck x) (h : (execOp ρ o).run P w = .ok n w') : ∃ v, n = .value v := by
  unfold execOp at h
  rw [hp] at h
  dsimp only at h
  split at h
  · simp [runtimePanic] at h
  · simp [runtimePanic] at h
  · simp [runtimePanic] at h
  · split at h
    · simp [runtimePanic] at h
    · simp only [Sem.run_bind] at h
      cases h1 : Sem.run P program w with
      | halt y w1 => rw [h1] at h; simp [Result.andThen] at h
      | ok p w1 =>
        rw [h1] at h
        simp only [Result.andThen] at h
        cases h2 : Sem.run P (nilAhead (p.types.size + Made.depth) _ _ _) w1 with
        | halt y w2 => rw [h2] at h; simp at h
        | ok b w2 =>
          rw [h2] at h
          simp only at h
          split at h
          · simp [unsupported, Result.andThen] at h
          · exact ⟨_, ((Result.ok.inj h).1).symm⟩
    · exact ⟨_, ((Result.ok.inj h).1).symm⟩
  · exact ⟨_, ((Result.ok.inj h).1).symm⟩
theorem nil_yields {o : Oper} {x : Operand} {a : Act} {v : Value} (hp : o.op = .nilCheck x) (h : ∀ w, C w → o.quietAt P a C w v) : ∀ w, C w → (execOp a.eval o).run P w = .ok (.value v) w := by
  intro w hw
  have h3 := h w hw
  unfold Oper.quietAt at h3
  cases hr : (execOp a.eval o).run P w with
  | ok n w' =>
    rw [hr] at h3
    obtain ⟨u, rfl⟩ := nil_value hp hr
    simp only [Oper.quietUpon] at h3
    rw [h3.1, h3.2]
  | halt x w' => rw [hr] at h3; simp only [Oper.quietUpon] at h3
theorem wpS_takeN {l : List Oper} {T : Act → World → Prop} {σ : List (Bool × Nat)} {i : Nat} {o : Oper} {a : Act} {w : World} (ho : l[i]? = some o) (hp : ∃ x, o.op = .nilCheck x)
    (h : wpQuiet P l.toArray C (fun a' => wpS P l.toArray C Q T σ a' w) [o] a) : wpS P l.toArray C Q T ((true, i) :: σ) a w := by
  obtain ⟨x, hx⟩ := hp
  have ho' : l.toArray[i]? = some o := by simpa using ho
  unfold wpQuiet at h
  by_cases hw : Region.wanted o (yielded l.toArray a.tmps) = true
  · rw [if_pos hw] at h
    obtain ⟨v, h1, h2⟩ := h
    exact ⟨o, v, ho', .inl ⟨hw, nil_yields hx h1⟩, h2⟩
  · rw [if_neg hw] at h
    exact ⟨o, undef, ho', .inr ⟨by simpa using hw, rfl⟩, h⟩
end
end Go.Proofs.Ytlcbomjdbdgbmaa

namespace Go.Proofs.Ytlcbomjdbdgbmaa
open Go.RowKit

def frfn (fn : Int) (fd : Int) (_tn : Int) (_td : Int) (_fo : Bool) (_to : Bool) (x : Int) (y : Int) (_o : Bool) : Int := (bif decide (0 < (pxl x y fn fd)) then x else fn)

def frfd (fn : Int) (fd : Int) (_tn : Int) (_td : Int) (_fo : Bool) (_to : Bool) (x : Int) (y : Int) (_o : Bool) : Int := (bif decide (0 < (pxl x y fn fd)) then y else fd)

def frtn (_fn : Int) (_fd : Int) (tn : Int) (_td : Int) (_fo : Bool) (_to : Bool) (_x : Int) (_y : Int) (_o : Bool) : Int := tn

def frtd (_fn : Int) (_fd : Int) (_tn : Int) (td : Int) (_fo : Bool) (_to : Bool) (_x : Int) (_y : Int) (_o : Bool) : Int := td

def frfo (fn : Int) (fd : Int) (_tn : Int) (_td : Int) (fo : Bool) (_to : Bool) (x : Int) (y : Int) (o : Bool) : Bool := (bif decide (0 < (pxl x y fn fd)) then o else (bif ((pxl x y fn fd) == 0) then (bif fo then true else o) else fo))

def frto (_fn : Int) (_fd : Int) (_tn : Int) (_td : Int) (_fo : Bool) (to : Bool) (_x : Int) (_y : Int) (_o : Bool) : Bool := to

theorem frfn_in (fn : Int) (fd : Int) (tn : Int) (td : Int) (fo : Bool) (to : Bool) (x : Int) (y : Int) (o : Bool) (_ifn : InI fn) (_ifd : InI fd) (_itn : InI tn) (_itd : InI td) (_ix : InI x) (_iy : InI y) : InI (frfn fn fd tn td fo to x y o) := by
  unfold frfn
  exact (cond_in _ix _ifn)

theorem frfd_in (fn : Int) (fd : Int) (tn : Int) (td : Int) (fo : Bool) (to : Bool) (x : Int) (y : Int) (o : Bool) (_ifn : InI fn) (_ifd : InI fd) (_itn : InI tn) (_itd : InI td) (_ix : InI x) (_iy : InI y) : InI (frfd fn fd tn td fo to x y o) := by
  unfold frfd
  exact (cond_in _iy _ifd)

theorem frtn_in (fn : Int) (fd : Int) (tn : Int) (td : Int) (fo : Bool) (to : Bool) (x : Int) (y : Int) (o : Bool) (_ifn : InI fn) (_ifd : InI fd) (_itn : InI tn) (_itd : InI td) (_ix : InI x) (_iy : InI y) : InI (frtn fn fd tn td fo to x y o) := by
  unfold frtn
  exact _itn

theorem frtd_in (fn : Int) (fd : Int) (tn : Int) (td : Int) (fo : Bool) (to : Bool) (x : Int) (y : Int) (o : Bool) (_ifn : InI fn) (_ifd : InI fd) (_itn : InI tn) (_itd : InI td) (_ix : InI x) (_iy : InI y) : InI (frtd fn fd tn td fo to x y o) := by
  unfold frtd
  exact _itd

set_option maxRecDepth 100000 in
set_option maxHeartbeats 4000000 in

theorem pxfr_is (fn : Int) (fd : Int) (tn : Int) (td : Int) (fo : Bool) (to : Bool) (x : Int) (y : Int) (o : Bool)  (R0 : Int) (R1 : Int) (R2 : Int) (R3 : Int) (R4 : Bool) (R5 : Bool) (hR0 : frfn fn fd tn td fo to x y o = R0) (hR1 : frfd fn fd tn td fo to x y o = R1) (hR2 : frtn fn fd tn td fo to x y o = R2) (hR3 : frtd fn fd tn td fo to x y o = R3) (hR4 : frfo fn fd tn td fo to x y o = R4) (hR5 : frto fn fd tn td fo to x y o = R5) (_ifn : InI fn) (_ifd : InI fd) (_itn : InI tn) (_itd : InI td) (_ix : InI x) (_iy : InI y) (bp : Nat) (w : World) (hkp : Blk w bp #[.int .u64 (wd0 fn), .int .u64 (wd1 fn), .int .u64 (wd2 fn), .int .u64 (wd3 fn), .int .u64 (wd0 fd), .int .u64 (wd1 fd), .int .u64 (wd2 fd), .int .u64 (wd3 fd), .int .u64 (wd0 tn), .int .u64 (wd1 tn), .int .u64 (wd2 tn), .int .u64 (wd3 tn), .int .u64 (wd0 td), .int .u64 (wd1 td), .int .u64 (wd2 td), .int .u64 (wd3 td), .bool fo, .bool to] 54) :
    Calls Try.prog 125 #[.pointer (some ⟨bp, 0, none⟩), .agg #[.int .u64 (wd0 x), .int .u64 (wd1 x), .int .u64 (wd2 x), .int .u64 (wd3 x), .int .u64 (wd0 y), .int .u64 (wd1 y), .int .u64 (wd2 y), .int .u64 (wd3 y)], .bool o] w fun e w' => e = .returned (.tuple #[]) ∧ Blk w' bp #[.int .u64 (wd0 R0), .int .u64 (wd1 R0), .int .u64 (wd2 R0), .int .u64 (wd3 R0), .int .u64 (wd0 R1), .int .u64 (wd1 R1), .int .u64 (wd2 R1), .int .u64 (wd3 R1), .int .u64 (wd0 R2), .int .u64 (wd1 R2), .int .u64 (wd2 R2), .int .u64 (wd3 R2), .int .u64 (wd0 R3), .int .u64 (wd1 R3), .int .u64 (wd2 R3), .int .u64 (wd3 R3), .bool R4, .bool R5] 54 ∧ Below bp w w' := by

  have HBL := Lib.hid hkp.lt
  have k1 := hkp
  clear hkp
  have HR0 := Lib.hid hR0
  clear hR0
  have HR1 := Lib.hid hR1
  clear hR1
  have HR2 := Lib.hid hR2
  clear hR2
  have HR3 := Lib.hid hR3
  clear hR3
  have HR4 := Lib.hid hR4
  clear hR4
  have HR5 := Lib.hid hR5
  clear hR5
  go_enter Try.func125, Try.ntmps125
  go_wp2_with fail
  first | refine calls_w ?_ | refine name_world ?_ | refine list_world ?_ | refine post_world ?_
  intro V1 hV1
  have hn : Below w.heap.size w V1 := by rw [hV1]; exact below_a1 _ _
  have nk1 := k1.of hn
  have nhb0 := hn.mono (Nat.le_of_lt HBL.out)
  have k2 : Blk V1 w.heap.size #[.int .u64 (wd0 x), .int .u64 (wd1 x), .int .u64 (wd2 x), .int .u64 (wd3 x), .int .u64 (wd0 y), .int .u64 (wd1 y), .int .u64 (wd2 y), .int .u64 (wd3 y)] 52 := by rw [hV1]; exact (Blk.new _ _ _)
  clear k1
  clear hV1
  have k1 := nk1
  clear nk1
  have hb0 := nhb0
  clear nhb0
  have c1_0 : V1.cell? ⟨bp, 0, none⟩ = some (.int .u64 (wd0 fn)) := k1.cell 0
  have c1_1 : V1.cell? ⟨bp, 1, none⟩ = some (.int .u64 (wd1 fn)) := k1.cell 1
  have c1_2 : V1.cell? ⟨bp, 2, none⟩ = some (.int .u64 (wd2 fn)) := k1.cell 2
  have c1_3 : V1.cell? ⟨bp, 3, none⟩ = some (.int .u64 (wd3 fn)) := k1.cell 3
  have c1_4 : V1.cell? ⟨bp, 4, none⟩ = some (.int .u64 (wd0 fd)) := k1.cell 4
  have c1_5 : V1.cell? ⟨bp, 5, none⟩ = some (.int .u64 (wd1 fd)) := k1.cell 5
  have c1_6 : V1.cell? ⟨bp, 6, none⟩ = some (.int .u64 (wd2 fd)) := k1.cell 6
  have c1_7 : V1.cell? ⟨bp, 7, none⟩ = some (.int .u64 (wd3 fd)) := k1.cell 7
  have l1 := k1.lt
  have c2_0 : V1.cell? ⟨w.heap.size, 0, none⟩ = some (.int .u64 (wd0 x)) := k2.cell 0
  have c2_1 : V1.cell? ⟨w.heap.size, 1, none⟩ = some (.int .u64 (wd1 x)) := k2.cell 1
  have c2_2 : V1.cell? ⟨w.heap.size, 2, none⟩ = some (.int .u64 (wd2 x)) := k2.cell 2
  have c2_3 : V1.cell? ⟨w.heap.size, 3, none⟩ = some (.int .u64 (wd3 x)) := k2.cell 3
  have c2_4 : V1.cell? ⟨w.heap.size, 4, none⟩ = some (.int .u64 (wd0 y)) := k2.cell 4
  have c2_5 : V1.cell? ⟨w.heap.size, 5, none⟩ = some (.int .u64 (wd1 y)) := k2.cell 5
  have c2_6 : V1.cell? ⟨w.heap.size, 6, none⟩ = some (.int .u64 (wd2 y)) := k2.cell 6
  have c2_7 : V1.cell? ⟨w.heap.size, 7, none⟩ = some (.int .u64 (wd3 y)) := k2.cell 7
  have l2 := k2.lt
  have Kk1 := Lib.hid k1
  clear k1
  have Kk2 := Lib.hid k2
  clear k2
  refine wp_region_up V1.heap.size 5 [(true, 0), (true, 1), (true, 2), (true, 3), (true, 4)] (by kernel_rfl) (by kernel_rfl) (fun _ _ d _ _ h => by cases d <;> exact h) ?_
  have hb : Below V1.heap.size V1 V1.drew := (Below.refl _ _).drew
  iterate 5
    first | refine wpS_takeL rfl rfl ?_ | refine wpS_takeN rfl ⟨_, rfl⟩ ?_
    go_big_quiet_step (rfl)
    refine wpQuiet_nil ?_
  refine wpS_nil ?_
  simp only [List.drop_succ_cons, List.drop_zero]
  first | refine calls_w ?_ | refine name_world ?_ | refine list_world ?_ | refine post_world ?_
  intro U2 hU2
  first | (subst hU2; have u_ := U2; clear u_) | (rw [← hU2] at hb; clear hU2)
  clear c1_0 c1_1 c1_2 c1_3 c1_4 c1_5 c1_6 c1_7 l1 c2_0 c2_1 c2_2 c2_3 c2_4 c2_5 c2_6 c2_7 l2
  have k1 := Kk1.out.of hb
  clear Kk1
  have k2 := Kk2.out.of hb
  clear Kk2
  replace hb0 := hb0.trans (hb.mono (Nat.le_trans (Nat.le_of_lt HBL.out) hb0.size))
  clear hb
  go_wp2_with fail
  obtain ⟨r1, hr1⟩ : ∃ o_o : Int, pxl x y fn fd = o_o := ⟨_, rfl⟩
  have Hr1 := Lib.hid hr1
  clear hr1
  refine (pxls_is x y fn fd r1 Hr1.out _ix _iy _ifn _ifd  _).mono ?_
  rintro e U3 ⟨rfl, hn⟩
  replace k1 := k1.of hn
  replace k2 := k2.of hn
  replace hb0 := hb0.trans (hn.mono (Nat.le_trans (Nat.le_of_lt HBL.out) hb0.size))
  clear hn
  obtain ⟨z2, hz2⟩ : ∃ o_o : Bool, decide (0 < r1) = o_o := ⟨_, rfl⟩
  cases z2
  · obtain ⟨z3, hz3⟩ : ∃ o_o : Bool, (r1 == 0) = o_o := ⟨_, rfl⟩
    cases z3
    · have nz3 : ¬ r1 = 0 := by simpa using hz3
      have e0 : fn = R0 := by rw [← HR0.out]; unfold frfn; (try rw [Hr1.out]); (try rw [hz2]); (try rw [hz3]); all_goals first | rfl | simp
      have e1 : fd = R1 := by rw [← HR1.out]; unfold frfd; (try rw [Hr1.out]); (try rw [hz2]); (try rw [hz3]); all_goals first | rfl | simp
      have e2 : tn = R2 := by rw [← HR2.out]; unfold frtn; (try rw [Hr1.out]); (try rw [hz2]); (try rw [hz3]); all_goals first | rfl | simp
      have e3 : td = R3 := by rw [← HR3.out]; unfold frtd; (try rw [Hr1.out]); (try rw [hz2]); (try rw [hz3]); all_goals first | rfl | simp
      have e4 : fo = R4 := by rw [← HR4.out]; unfold frfo; (try rw [Hr1.out]); (try rw [hz2]); (try rw [hz3]); all_goals first | rfl | simp
      have e5 : to = R5 := by rw [← HR5.out]; unfold frto; (try rw [Hr1.out]); (try rw [hz2]); (try rw [hz3]); all_goals first | rfl | simp
      subst e0
      subst e1
      subst e2
      subst e3
      subst e4
      subst e5
      go_wp2
      go_end0
      exact ⟨by first | rfl | simp, k1, hb0⟩
    · obtain rfl : r1 = 0 := by simpa using hz3
      clear hz3
      cases fo
      · have c1_16 : U3.cell? ⟨bp, 16, none⟩ = some (.bool false) := k1.cell 16
        have f1_16 := k1.free 16
        have l1 := k1.lt
        have e0 : fn = R0 := by rw [← HR0.out]; unfold frfn; (try rw [Hr1.out]); (try rw [hz2]); all_goals first | rfl | simp
        have e1 : fd = R1 := by rw [← HR1.out]; unfold frfd; (try rw [Hr1.out]); (try rw [hz2]); all_goals first | rfl | simp
        have e2 : tn = R2 := by rw [← HR2.out]; unfold frtn; (try rw [Hr1.out]); (try rw [hz2]); all_goals first | rfl | simp
        have e3 : td = R3 := by rw [← HR3.out]; unfold frtd; (try rw [Hr1.out]); (try rw [hz2]); all_goals first | rfl | simp
        have e4 : o = R4 := by rw [← HR4.out]; unfold frfo; (try rw [Hr1.out]); (try rw [hz2]); all_goals first | rfl | simp
        have e5 : to = R5 := by rw [← HR5.out]; unfold frto; (try rw [Hr1.out]); (try rw [hz2]); all_goals first | rfl | simp
        subst e0
        subst e1
        subst e2
        subst e3
        subst e4
        subst e5
        go_wp2
        clear c1_16 f1_16 l1
        first | refine post_world ?_
        intro V4 hV4
        clear k2
        have D1 := Lib.hid k1.lt
        have D2 := Lib.hid hb0.size
        have nk1 : Blk V4 bp #[.int .u64 (wd0 fn), .int .u64 (wd1 fn), .int .u64 (wd2 fn), .int .u64 (wd3 fn), .int .u64 (wd0 fd), .int .u64 (wd1 fd), .int .u64 (wd2 fd), .int .u64 (wd3 fd), .int .u64 (wd0 tn), .int .u64 (wd1 tn), .int .u64 (wd2 tn), .int .u64 (wd3 tn), .int .u64 (wd0 td), .int .u64 (wd1 td), .int .u64 (wd2 td), .int .u64 (wd3 td), .bool o, .bool to] 54 := by rw [hV4]; exact blk_eq ((blk_putL k1 16 [.bool o])) (by kernel_rfl)
        have nhb0 : Below bp w V4 := by rw [hV4]; exact (blw_setL hb0 (by have := HBL.out; omega) 16 [.bool o])
        clear k1
        clear hb0
        clear hV4
        have k1 := nk1
        clear nk1
        have hb0 := nhb0
        clear nhb0
        go_end0
        first | exact ⟨k1, hb0⟩ | exact ⟨rfl, k1, hb0⟩
      · have c1_16 : U3.cell? ⟨bp, 16, none⟩ = some (.bool true) := k1.cell 16
        have f1_16 := k1.free 16
        have l1 := k1.lt
        have e0 : fn = R0 := by rw [← HR0.out]; unfold frfn; (try rw [Hr1.out]); (try rw [hz2]); all_goals first | rfl | simp
        have e1 : fd = R1 := by rw [← HR1.out]; unfold frfd; (try rw [Hr1.out]); (try rw [hz2]); all_goals first | rfl | simp
        have e2 : tn = R2 := by rw [← HR2.out]; unfold frtn; (try rw [Hr1.out]); (try rw [hz2]); all_goals first | rfl | simp
        have e3 : td = R3 := by rw [← HR3.out]; unfold frtd; (try rw [Hr1.out]); (try rw [hz2]); all_goals first | rfl | simp
        have e4 : true = R4 := by rw [← HR4.out]; unfold frfo; (try rw [Hr1.out]); (try rw [hz2]); all_goals first | rfl | simp
        have e5 : to = R5 := by rw [← HR5.out]; unfold frto; (try rw [Hr1.out]); (try rw [hz2]); all_goals first | rfl | simp
        subst e0
        subst e1
        subst e2
        subst e3
        subst e4
        subst e5
        go_wp2
        clear c1_16 f1_16 l1
        first | refine post_world ?_
        intro V5 hV5
        clear k2
        have D3 := Lib.hid k1.lt
        have D4 := Lib.hid hb0.size
        have nk1 : Blk V5 bp #[.int .u64 (wd0 fn), .int .u64 (wd1 fn), .int .u64 (wd2 fn), .int .u64 (wd3 fn), .int .u64 (wd0 fd), .int .u64 (wd1 fd), .int .u64 (wd2 fd), .int .u64 (wd3 fd), .int .u64 (wd0 tn), .int .u64 (wd1 tn), .int .u64 (wd2 tn), .int .u64 (wd3 tn), .int .u64 (wd0 td), .int .u64 (wd1 td), .int .u64 (wd2 td), .int .u64 (wd3 td), .bool true, .bool to] 54 := by rw [hV5]; exact blk_eq ((blk_putL k1 16 [.bool true])) (by kernel_rfl)
        have nhb0 : Below bp w V5 := by rw [hV5]; exact (blw_setL hb0 (by have := HBL.out; omega) 16 [.bool true])
        clear k1
        clear hb0
        clear hV5
        have k1 := nk1
        clear nk1
        have hb0 := nhb0
        clear nhb0
        go_end0
        first | exact ⟨k1, hb0⟩ | exact ⟨rfl, k1, hb0⟩
  · have c1_0 : U3.cell? ⟨bp, 0, none⟩ = some (.int .u64 (wd0 fn)) := k1.cell 0
    have c1_1 : U3.cell? ⟨bp, 1, none⟩ = some (.int .u64 (wd1 fn)) := k1.cell 1
    have c1_2 : U3.cell? ⟨bp, 2, none⟩ = some (.int .u64 (wd2 fn)) := k1.cell 2
    have c1_3 : U3.cell? ⟨bp, 3, none⟩ = some (.int .u64 (wd3 fn)) := k1.cell 3
    have c1_4 : U3.cell? ⟨bp, 4, none⟩ = some (.int .u64 (wd0 fd)) := k1.cell 4
    have c1_5 : U3.cell? ⟨bp, 5, none⟩ = some (.int .u64 (wd1 fd)) := k1.cell 5
    have c1_6 : U3.cell? ⟨bp, 6, none⟩ = some (.int .u64 (wd2 fd)) := k1.cell 6
    have c1_7 : U3.cell? ⟨bp, 7, none⟩ = some (.int .u64 (wd3 fd)) := k1.cell 7
    have c1_16 : U3.cell? ⟨bp, 16, none⟩ = some (.bool fo) := k1.cell 16
    have f1_0 := k1.free 0
    have f1_1 := k1.free 1
    have f1_2 := k1.free 2
    have f1_3 := k1.free 3
    have f1_4 := k1.free 4
    have f1_5 := k1.free 5
    have f1_6 := k1.free 6
    have f1_7 := k1.free 7
    have f1_16 := k1.free 16
    have l1 := k1.lt
    have c2_0 : U3.cell? ⟨w.heap.size, 0, none⟩ = some (.int .u64 (wd0 x)) := k2.cell 0
    have c2_1 : U3.cell? ⟨w.heap.size, 1, none⟩ = some (.int .u64 (wd1 x)) := k2.cell 1
    have c2_2 : U3.cell? ⟨w.heap.size, 2, none⟩ = some (.int .u64 (wd2 x)) := k2.cell 2
    have c2_3 : U3.cell? ⟨w.heap.size, 3, none⟩ = some (.int .u64 (wd3 x)) := k2.cell 3
    have c2_4 : U3.cell? ⟨w.heap.size, 4, none⟩ = some (.int .u64 (wd0 y)) := k2.cell 4
    have c2_5 : U3.cell? ⟨w.heap.size, 5, none⟩ = some (.int .u64 (wd1 y)) := k2.cell 5
    have c2_6 : U3.cell? ⟨w.heap.size, 6, none⟩ = some (.int .u64 (wd2 y)) := k2.cell 6
    have c2_7 : U3.cell? ⟨w.heap.size, 7, none⟩ = some (.int .u64 (wd3 y)) := k2.cell 7
    have l2 := k2.lt
    have p2_1 : w.heap.size ≠ bp := (by have := HBL.out; omega)
    have e0 : x = R0 := by rw [← HR0.out]; unfold frfn; (try rw [Hr1.out]); (try rw [hz2]); all_goals first | rfl | simp
    have e1 : y = R1 := by rw [← HR1.out]; unfold frfd; (try rw [Hr1.out]); (try rw [hz2]); all_goals first | rfl | simp
    have e2 : tn = R2 := by rw [← HR2.out]; unfold frtn; (try rw [Hr1.out]); (try rw [hz2]); all_goals first | rfl | simp
    have e3 : td = R3 := by rw [← HR3.out]; unfold frtd; (try rw [Hr1.out]); (try rw [hz2]); all_goals first | rfl | simp
    have e4 : o = R4 := by rw [← HR4.out]; unfold frfo; (try rw [Hr1.out]); (try rw [hz2]); all_goals first | rfl | simp
    have e5 : to = R5 := by rw [← HR5.out]; unfold frto; (try rw [Hr1.out]); (try rw [hz2]); all_goals first | rfl | simp
    subst e0
    subst e1
    subst e2
    subst e3
    subst e4
    subst e5
    go_wp2
    clear c1_0 c1_1 c1_2 c1_3 c1_4 c1_5 c1_6 c1_7 c1_16 f1_0 f1_1 f1_2 f1_3 f1_4 f1_5 f1_6 f1_7 f1_16 l1 c2_0 c2_1 c2_2 c2_3 c2_4 c2_5 c2_6 c2_7 l2 p2_1
    first | refine post_world ?_
    intro V6 hV6
    clear k2
    have D5 := Lib.hid k1.lt
    have D6 := Lib.hid hb0.size
    have nk1 : Blk V6 bp #[.int .u64 (wd0 x), .int .u64 (wd1 x), .int .u64 (wd2 x), .int .u64 (wd3 x), .int .u64 (wd0 y), .int .u64 (wd1 y), .int .u64 (wd2 y), .int .u64 (wd3 y), .int .u64 (wd0 tn), .int .u64 (wd1 tn), .int .u64 (wd2 tn), .int .u64 (wd3 tn), .int .u64 (wd0 td), .int .u64 (wd1 td), .int .u64 (wd2 td), .int .u64 (wd3 td), .bool o, .bool to] 54 := by rw [hV6]; exact blk_eq ((blk_putL (blk_putL k1 0 [.int .u64 (wd0 x), .int .u64 (wd1 x), .int .u64 (wd2 x), .int .u64 (wd3 x), .int .u64 (wd0 y), .int .u64 (wd1 y), .int .u64 (wd2 y), .int .u64 (wd3 y)]) 16 [.bool o])) (by kernel_rfl)
    have nhb0 : Below bp w V6 := by rw [hV6]; exact (blw_setL (blw_setL hb0 (by have := HBL.out; omega) 0 [.int .u64 (wd0 x), .int .u64 (wd1 x), .int .u64 (wd2 x), .int .u64 (wd3 x), .int .u64 (wd0 y), .int .u64 (wd1 y), .int .u64 (wd2 y), .int .u64 (wd3 y)]) (by have := HBL.out; omega) 16 [.bool o])
    clear k1
    clear hb0
    clear hV6
    have k1 := nk1
    clear nk1
    have hb0 := nhb0
    clear nhb0
    go_end0
    first | exact ⟨k1, hb0⟩ | exact ⟨rfl, k1, hb0⟩

def tofn (fn : Int) (_fd : Int) (_tn : Int) (_td : Int) (_fo : Bool) (_to : Bool) (_x : Int) (_y : Int) (_o : Bool) : Int := fn

def tofd (_fn : Int) (fd : Int) (_tn : Int) (_td : Int) (_fo : Bool) (_to : Bool) (_x : Int) (_y : Int) (_o : Bool) : Int := fd

def totn (_fn : Int) (_fd : Int) (tn : Int) (td : Int) (_fo : Bool) (_to : Bool) (x : Int) (y : Int) (_o : Bool) : Int := (bif decide ((pxl x y tn td) < 0) then x else tn)

def totd (_fn : Int) (_fd : Int) (tn : Int) (td : Int) (_fo : Bool) (_to : Bool) (x : Int) (y : Int) (_o : Bool) : Int := (bif decide ((pxl x y tn td) < 0) then y else td)

def tofo (_fn : Int) (_fd : Int) (_tn : Int) (_td : Int) (fo : Bool) (_to : Bool) (_x : Int) (_y : Int) (_o : Bool) : Bool := fo

def toto (_fn : Int) (_fd : Int) (tn : Int) (td : Int) (_fo : Bool) (to : Bool) (x : Int) (y : Int) (o : Bool) : Bool := (bif decide ((pxl x y tn td) < 0) then o else (bif ((pxl x y tn td) == 0) then (bif to then true else o) else to))

theorem tofn_in (fn : Int) (fd : Int) (tn : Int) (td : Int) (fo : Bool) (to : Bool) (x : Int) (y : Int) (o : Bool) (_ifn : InI fn) (_ifd : InI fd) (_itn : InI tn) (_itd : InI td) (_ix : InI x) (_iy : InI y) : InI (tofn fn fd tn td fo to x y o) := by
  unfold tofn
  exact _ifn

theorem tofd_in (fn : Int) (fd : Int) (tn : Int) (td : Int) (fo : Bool) (to : Bool) (x : Int) (y : Int) (o : Bool) (_ifn : InI fn) (_ifd : InI fd) (_itn : InI tn) (_itd : InI td) (_ix : InI x) (_iy : InI y) : InI (tofd fn fd tn td fo to x y o) := by
  unfold tofd
  exact _ifd

theorem totn_in (fn : Int) (fd : Int) (tn : Int) (td : Int) (fo : Bool) (to : Bool) (x : Int) (y : Int) (o : Bool) (_ifn : InI fn) (_ifd : InI fd) (_itn : InI tn) (_itd : InI td) (_ix : InI x) (_iy : InI y) : InI (totn fn fd tn td fo to x y o) := by
  unfold totn
  exact (cond_in _ix _itn)

theorem totd_in (fn : Int) (fd : Int) (tn : Int) (td : Int) (fo : Bool) (to : Bool) (x : Int) (y : Int) (o : Bool) (_ifn : InI fn) (_ifd : InI fd) (_itn : InI tn) (_itd : InI td) (_ix : InI x) (_iy : InI y) : InI (totd fn fd tn td fo to x y o) := by
  unfold totd
  exact (cond_in _iy _itd)

set_option maxRecDepth 100000 in
set_option maxHeartbeats 4000000 in

theorem pxto_is (fn : Int) (fd : Int) (tn : Int) (td : Int) (fo : Bool) (to : Bool) (x : Int) (y : Int) (o : Bool)  (R0 : Int) (R1 : Int) (R2 : Int) (R3 : Int) (R4 : Bool) (R5 : Bool) (hR0 : tofn fn fd tn td fo to x y o = R0) (hR1 : tofd fn fd tn td fo to x y o = R1) (hR2 : totn fn fd tn td fo to x y o = R2) (hR3 : totd fn fd tn td fo to x y o = R3) (hR4 : tofo fn fd tn td fo to x y o = R4) (hR5 : toto fn fd tn td fo to x y o = R5) (_ifn : InI fn) (_ifd : InI fd) (_itn : InI tn) (_itd : InI td) (_ix : InI x) (_iy : InI y) (bp : Nat) (w : World) (hkp : Blk w bp #[.int .u64 (wd0 fn), .int .u64 (wd1 fn), .int .u64 (wd2 fn), .int .u64 (wd3 fn), .int .u64 (wd0 fd), .int .u64 (wd1 fd), .int .u64 (wd2 fd), .int .u64 (wd3 fd), .int .u64 (wd0 tn), .int .u64 (wd1 tn), .int .u64 (wd2 tn), .int .u64 (wd3 tn), .int .u64 (wd0 td), .int .u64 (wd1 td), .int .u64 (wd2 td), .int .u64 (wd3 td), .bool fo, .bool to] 54) :
    Calls Try.prog 127 #[.pointer (some ⟨bp, 0, none⟩), .agg #[.int .u64 (wd0 x), .int .u64 (wd1 x), .int .u64 (wd2 x), .int .u64 (wd3 x), .int .u64 (wd0 y), .int .u64 (wd1 y), .int .u64 (wd2 y), .int .u64 (wd3 y)], .bool o] w fun e w' => e = .returned (.tuple #[]) ∧ Blk w' bp #[.int .u64 (wd0 R0), .int .u64 (wd1 R0), .int .u64 (wd2 R0), .int .u64 (wd3 R0), .int .u64 (wd0 R1), .int .u64 (wd1 R1), .int .u64 (wd2 R1), .int .u64 (wd3 R1), .int .u64 (wd0 R2), .int .u64 (wd1 R2), .int .u64 (wd2 R2), .int .u64 (wd3 R2), .int .u64 (wd0 R3), .int .u64 (wd1 R3), .int .u64 (wd2 R3), .int .u64 (wd3 R3), .bool R4, .bool R5] 54 ∧ Below bp w w' := by

  have HBL := Lib.hid hkp.lt
  have k1 := hkp
  clear hkp
  have HR0 := Lib.hid hR0
  clear hR0
  have HR1 := Lib.hid hR1
  clear hR1
  have HR2 := Lib.hid hR2
  clear hR2
  have HR3 := Lib.hid hR3
  clear hR3
  have HR4 := Lib.hid hR4
  clear hR4
  have HR5 := Lib.hid hR5
  clear hR5
  go_enter Try.func127, Try.ntmps127
  go_wp2_with fail
  first | refine calls_w ?_ | refine name_world ?_ | refine list_world ?_ | refine post_world ?_
  intro V1 hV1
  have hn : Below w.heap.size w V1 := by rw [hV1]; exact below_a1 _ _
  have nk1 := k1.of hn
  have nhb0 := hn.mono (Nat.le_of_lt HBL.out)
  have k2 : Blk V1 w.heap.size #[.int .u64 (wd0 x), .int .u64 (wd1 x), .int .u64 (wd2 x), .int .u64 (wd3 x), .int .u64 (wd0 y), .int .u64 (wd1 y), .int .u64 (wd2 y), .int .u64 (wd3 y)] 52 := by rw [hV1]; exact (Blk.new _ _ _)
  clear k1
  clear hV1
  have k1 := nk1
  clear nk1
  have hb0 := nhb0
  clear nhb0
  have c1_8 : V1.cell? ⟨bp, 8, none⟩ = some (.int .u64 (wd0 tn)) := k1.cell 8
  have c1_9 : V1.cell? ⟨bp, 9, none⟩ = some (.int .u64 (wd1 tn)) := k1.cell 9
  have c1_10 : V1.cell? ⟨bp, 10, none⟩ = some (.int .u64 (wd2 tn)) := k1.cell 10
  have c1_11 : V1.cell? ⟨bp, 11, none⟩ = some (.int .u64 (wd3 tn)) := k1.cell 11
  have c1_12 : V1.cell? ⟨bp, 12, none⟩ = some (.int .u64 (wd0 td)) := k1.cell 12
  have c1_13 : V1.cell? ⟨bp, 13, none⟩ = some (.int .u64 (wd1 td)) := k1.cell 13
  have c1_14 : V1.cell? ⟨bp, 14, none⟩ = some (.int .u64 (wd2 td)) := k1.cell 14
  have c1_15 : V1.cell? ⟨bp, 15, none⟩ = some (.int .u64 (wd3 td)) := k1.cell 15
  have l1 := k1.lt
  have c2_0 : V1.cell? ⟨w.heap.size, 0, none⟩ = some (.int .u64 (wd0 x)) := k2.cell 0
  have c2_1 : V1.cell? ⟨w.heap.size, 1, none⟩ = some (.int .u64 (wd1 x)) := k2.cell 1
  have c2_2 : V1.cell? ⟨w.heap.size, 2, none⟩ = some (.int .u64 (wd2 x)) := k2.cell 2
  have c2_3 : V1.cell? ⟨w.heap.size, 3, none⟩ = some (.int .u64 (wd3 x)) := k2.cell 3
  have c2_4 : V1.cell? ⟨w.heap.size, 4, none⟩ = some (.int .u64 (wd0 y)) := k2.cell 4
  have c2_5 : V1.cell? ⟨w.heap.size, 5, none⟩ = some (.int .u64 (wd1 y)) := k2.cell 5
  have c2_6 : V1.cell? ⟨w.heap.size, 6, none⟩ = some (.int .u64 (wd2 y)) := k2.cell 6
  have c2_7 : V1.cell? ⟨w.heap.size, 7, none⟩ = some (.int .u64 (wd3 y)) := k2.cell 7
  have l2 := k2.lt
  have Kk1 := Lib.hid k1
  clear k1
  have Kk2 := Lib.hid k2
  clear k2
  refine wp_region_up V1.heap.size 5 [(true, 0), (true, 1), (true, 2), (true, 3), (true, 4)] (by kernel_rfl) (by kernel_rfl) (fun _ _ d _ _ h => by cases d <;> exact h) ?_
  have hb : Below V1.heap.size V1 V1.drew := (Below.refl _ _).drew
  iterate 5
    first | refine wpS_takeL rfl rfl ?_ | refine wpS_takeN rfl ⟨_, rfl⟩ ?_
    go_big_quiet_step (rfl)
    refine wpQuiet_nil ?_
  refine wpS_nil ?_
  simp only [List.drop_succ_cons, List.drop_zero]
  first | refine calls_w ?_ | refine name_world ?_ | refine list_world ?_ | refine post_world ?_
  intro U2 hU2
  first | (subst hU2; have u_ := U2; clear u_) | (rw [← hU2] at hb; clear hU2)
  clear c1_8 c1_9 c1_10 c1_11 c1_12 c1_13 c1_14 c1_15 l1 c2_0 c2_1 c2_2 c2_3 c2_4 c2_5 c2_6 c2_7 l2
  have k1 := Kk1.out.of hb
  clear Kk1
  have k2 := Kk2.out.of hb
  clear Kk2
  replace hb0 := hb0.trans (hb.mono (Nat.le_trans (Nat.le_of_lt HBL.out) hb0.size))
  clear hb
  go_wp2_with fail
  obtain ⟨r1, hr1⟩ : ∃ o_o : Int, pxl x y tn td = o_o := ⟨_, rfl⟩
  have Hr1 := Lib.hid hr1
  clear hr1
  refine (pxls_is x y tn td r1 Hr1.out _ix _iy _itn _itd  _).mono ?_
  rintro e U3 ⟨rfl, hn⟩
  replace k1 := k1.of hn
  replace k2 := k2.of hn
  replace hb0 := hb0.trans (hn.mono (Nat.le_trans (Nat.le_of_lt HBL.out) hb0.size))
  clear hn
  obtain ⟨z2, hz2⟩ : ∃ o_o : Bool, decide (r1 < 0) = o_o := ⟨_, rfl⟩
  cases z2
  · obtain ⟨z3, hz3⟩ : ∃ o_o : Bool, (r1 == 0) = o_o := ⟨_, rfl⟩
    cases z3
    · have nz3 : ¬ r1 = 0 := by simpa using hz3
      have e0 : fn = R0 := by rw [← HR0.out]; unfold tofn; (try rw [Hr1.out]); (try rw [hz2]); (try rw [hz3]); all_goals first | rfl | simp
      have e1 : fd = R1 := by rw [← HR1.out]; unfold tofd; (try rw [Hr1.out]); (try rw [hz2]); (try rw [hz3]); all_goals first | rfl | simp
      have e2 : tn = R2 := by rw [← HR2.out]; unfold totn; (try rw [Hr1.out]); (try rw [hz2]); (try rw [hz3]); all_goals first | rfl | simp
      have e3 : td = R3 := by rw [← HR3.out]; unfold totd; (try rw [Hr1.out]); (try rw [hz2]); (try rw [hz3]); all_goals first | rfl | simp
      have e4 : fo = R4 := by rw [← HR4.out]; unfold tofo; (try rw [Hr1.out]); (try rw [hz2]); (try rw [hz3]); all_goals first | rfl | simp
      have e5 : to = R5 := by rw [← HR5.out]; unfold toto; (try rw [Hr1.out]); (try rw [hz2]); (try rw [hz3]); all_goals first | rfl | simp
      subst e0
      subst e1
      subst e2
      subst e3
      subst e4
      subst e5
      go_wp2
      go_end0
      exact ⟨by first | rfl | simp, k1, hb0⟩
    · obtain rfl : r1 = 0 := by simpa using hz3
      clear hz3
      cases to
      · have c1_17 : U3.cell? ⟨bp, 17, none⟩ = some (.bool false) := k1.cell 17
        have f1_17 := k1.free 17
        have l1 := k1.lt
        have e0 : fn = R0 := by rw [← HR0.out]; unfold tofn; (try rw [Hr1.out]); (try rw [hz2]); all_goals first | rfl | simp
        have e1 : fd = R1 := by rw [← HR1.out]; unfold tofd; (try rw [Hr1.out]); (try rw [hz2]); all_goals first | rfl | simp
        have e2 : tn = R2 := by rw [← HR2.out]; unfold totn; (try rw [Hr1.out]); (try rw [hz2]); all_goals first | rfl | simp
        have e3 : td = R3 := by rw [← HR3.out]; unfold totd; (try rw [Hr1.out]); (try rw [hz2]); all_goals first | rfl | simp
        have e4 : fo = R4 := by rw [← HR4.out]; unfold tofo; (try rw [Hr1.out]); (try rw [hz2]); all_goals first | rfl | simp
        have e5 : o = R5 := by rw [← HR5.out]; unfold toto; (try rw [Hr1.out]); (try rw [hz2]); all_goals first | rfl | simp
        subst e0
        subst e1
        subst e2
        subst e3
        subst e4
        subst e5
        go_wp2
        clear c1_17 f1_17 l1
        first | refine post_world ?_
        intro V4 hV4
        clear k2
        have D1 := Lib.hid k1.lt
        have D2 := Lib.hid hb0.size
        have nk1 : Blk V4 bp #[.int .u64 (wd0 fn), .int .u64 (wd1 fn), .int .u64 (wd2 fn), .int .u64 (wd3 fn), .int .u64 (wd0 fd), .int .u64 (wd1 fd), .int .u64 (wd2 fd), .int .u64 (wd3 fd), .int .u64 (wd0 tn), .int .u64 (wd1 tn), .int .u64 (wd2 tn), .int .u64 (wd3 tn), .int .u64 (wd0 td), .int .u64 (wd1 td), .int .u64 (wd2 td), .int .u64 (wd3 td), .bool fo, .bool o] 54 := by rw [hV4]; exact blk_eq ((blk_putL k1 17 [.bool o])) (by kernel_rfl)
        have nhb0 : Below bp w V4 := by rw [hV4]; exact (blw_setL hb0 (by have := HBL.out; omega) 17 [.bool o])
        clear k1
        clear hb0
        clear hV4
        have k1 := nk1
        clear nk1
        have hb0 := nhb0
        clear nhb0
        go_end0
        first | exact ⟨k1, hb0⟩ | exact ⟨rfl, k1, hb0⟩
      · have c1_17 : U3.cell? ⟨bp, 17, none⟩ = some (.bool true) := k1.cell 17
        have f1_17 := k1.free 17
        have l1 := k1.lt
        have e0 : fn = R0 := by rw [← HR0.out]; unfold tofn; (try rw [Hr1.out]); (try rw [hz2]); all_goals first | rfl | simp
        have e1 : fd = R1 := by rw [← HR1.out]; unfold tofd; (try rw [Hr1.out]); (try rw [hz2]); all_goals first | rfl | simp
        have e2 : tn = R2 := by rw [← HR2.out]; unfold totn; (try rw [Hr1.out]); (try rw [hz2]); all_goals first | rfl | simp
        have e3 : td = R3 := by rw [← HR3.out]; unfold totd; (try rw [Hr1.out]); (try rw [hz2]); all_goals first | rfl | simp
        have e4 : fo = R4 := by rw [← HR4.out]; unfold tofo; (try rw [Hr1.out]); (try rw [hz2]); all_goals first | rfl | simp
        have e5 : true = R5 := by rw [← HR5.out]; unfold toto; (try rw [Hr1.out]); (try rw [hz2]); all_goals first | rfl | simp
        subst e0
        subst e1
        subst e2
        subst e3
        subst e4
        subst e5
        go_wp2
        clear c1_17 f1_17 l1
        first | refine post_world ?_
        intro V5 hV5
        clear k2
        have D3 := Lib.hid k1.lt
        have D4 := Lib.hid hb0.size
        have nk1 : Blk V5 bp #[.int .u64 (wd0 fn), .int .u64 (wd1 fn), .int .u64 (wd2 fn), .int .u64 (wd3 fn), .int .u64 (wd0 fd), .int .u64 (wd1 fd), .int .u64 (wd2 fd), .int .u64 (wd3 fd), .int .u64 (wd0 tn), .int .u64 (wd1 tn), .int .u64 (wd2 tn), .int .u64 (wd3 tn), .int .u64 (wd0 td), .int .u64 (wd1 td), .int .u64 (wd2 td), .int .u64 (wd3 td), .bool fo, .bool true] 54 := by rw [hV5]; exact blk_eq ((blk_putL k1 17 [.bool true])) (by kernel_rfl)
        have nhb0 : Below bp w V5 := by rw [hV5]; exact (blw_setL hb0 (by have := HBL.out; omega) 17 [.bool true])
        clear k1
        clear hb0
        clear hV5
        have k1 := nk1
        clear nk1
        have hb0 := nhb0
        clear nhb0
        go_end0
        first | exact ⟨k1, hb0⟩ | exact ⟨rfl, k1, hb0⟩
  · have c1_8 : U3.cell? ⟨bp, 8, none⟩ = some (.int .u64 (wd0 tn)) := k1.cell 8
    have c1_9 : U3.cell? ⟨bp, 9, none⟩ = some (.int .u64 (wd1 tn)) := k1.cell 9
    have c1_10 : U3.cell? ⟨bp, 10, none⟩ = some (.int .u64 (wd2 tn)) := k1.cell 10
    have c1_11 : U3.cell? ⟨bp, 11, none⟩ = some (.int .u64 (wd3 tn)) := k1.cell 11
    have c1_12 : U3.cell? ⟨bp, 12, none⟩ = some (.int .u64 (wd0 td)) := k1.cell 12
    have c1_13 : U3.cell? ⟨bp, 13, none⟩ = some (.int .u64 (wd1 td)) := k1.cell 13
    have c1_14 : U3.cell? ⟨bp, 14, none⟩ = some (.int .u64 (wd2 td)) := k1.cell 14
    have c1_15 : U3.cell? ⟨bp, 15, none⟩ = some (.int .u64 (wd3 td)) := k1.cell 15
    have c1_17 : U3.cell? ⟨bp, 17, none⟩ = some (.bool to) := k1.cell 17
    have f1_8 := k1.free 8
    have f1_9 := k1.free 9
    have f1_10 := k1.free 10
    have f1_11 := k1.free 11
    have f1_12 := k1.free 12
    have f1_13 := k1.free 13
    have f1_14 := k1.free 14
    have f1_15 := k1.free 15
    have f1_17 := k1.free 17
    have l1 := k1.lt
    have c2_0 : U3.cell? ⟨w.heap.size, 0, none⟩ = some (.int .u64 (wd0 x)) := k2.cell 0
    have c2_1 : U3.cell? ⟨w.heap.size, 1, none⟩ = some (.int .u64 (wd1 x)) := k2.cell 1
    have c2_2 : U3.cell? ⟨w.heap.size, 2, none⟩ = some (.int .u64 (wd2 x)) := k2.cell 2
    have c2_3 : U3.cell? ⟨w.heap.size, 3, none⟩ = some (.int .u64 (wd3 x)) := k2.cell 3
    have c2_4 : U3.cell? ⟨w.heap.size, 4, none⟩ = some (.int .u64 (wd0 y)) := k2.cell 4
    have c2_5 : U3.cell? ⟨w.heap.size, 5, none⟩ = some (.int .u64 (wd1 y)) := k2.cell 5
    have c2_6 : U3.cell? ⟨w.heap.size, 6, none⟩ = some (.int .u64 (wd2 y)) := k2.cell 6
    have c2_7 : U3.cell? ⟨w.heap.size, 7, none⟩ = some (.int .u64 (wd3 y)) := k2.cell 7
    have l2 := k2.lt
    have p2_1 : w.heap.size ≠ bp := (by have := HBL.out; omega)
    have e0 : fn = R0 := by rw [← HR0.out]; unfold tofn; (try rw [Hr1.out]); (try rw [hz2]); all_goals first | rfl | simp
    have e1 : fd = R1 := by rw [← HR1.out]; unfold tofd; (try rw [Hr1.out]); (try rw [hz2]); all_goals first | rfl | simp
    have e2 : x = R2 := by rw [← HR2.out]; unfold totn; (try rw [Hr1.out]); (try rw [hz2]); all_goals first | rfl | simp
    have e3 : y = R3 := by rw [← HR3.out]; unfold totd; (try rw [Hr1.out]); (try rw [hz2]); all_goals first | rfl | simp
    have e4 : fo = R4 := by rw [← HR4.out]; unfold tofo; (try rw [Hr1.out]); (try rw [hz2]); all_goals first | rfl | simp
    have e5 : o = R5 := by rw [← HR5.out]; unfold toto; (try rw [Hr1.out]); (try rw [hz2]); all_goals first | rfl | simp
    subst e0
    subst e1
    subst e2
    subst e3
    subst e4
    subst e5
    go_wp2
    clear c1_8 c1_9 c1_10 c1_11 c1_12 c1_13 c1_14 c1_15 c1_17 f1_8 f1_9 f1_10 f1_11 f1_12 f1_13 f1_14 f1_15 f1_17 l1 c2_0 c2_1 c2_2 c2_3 c2_4 c2_5 c2_6 c2_7 l2 p2_1
    first | refine post_world ?_
    intro V6 hV6
    clear k2
    have D5 := Lib.hid k1.lt
    have D6 := Lib.hid hb0.size
    have nk1 : Blk V6 bp #[.int .u64 (wd0 fn), .int .u64 (wd1 fn), .int .u64 (wd2 fn), .int .u64 (wd3 fn), .int .u64 (wd0 fd), .int .u64 (wd1 fd), .int .u64 (wd2 fd), .int .u64 (wd3 fd), .int .u64 (wd0 x), .int .u64 (wd1 x), .int .u64 (wd2 x), .int .u64 (wd3 x), .int .u64 (wd0 y), .int .u64 (wd1 y), .int .u64 (wd2 y), .int .u64 (wd3 y), .bool fo, .bool o] 54 := by rw [hV6]; exact blk_eq ((blk_putL (blk_putL k1 8 [.int .u64 (wd0 x), .int .u64 (wd1 x), .int .u64 (wd2 x), .int .u64 (wd3 x), .int .u64 (wd0 y), .int .u64 (wd1 y), .int .u64 (wd2 y), .int .u64 (wd3 y)]) 17 [.bool o])) (by kernel_rfl)
    have nhb0 : Below bp w V6 := by rw [hV6]; exact (blw_setL (blw_setL hb0 (by have := HBL.out; omega) 8 [.int .u64 (wd0 x), .int .u64 (wd1 x), .int .u64 (wd2 x), .int .u64 (wd3 x), .int .u64 (wd0 y), .int .u64 (wd1 y), .int .u64 (wd2 y), .int .u64 (wd3 y)]) (by have := HBL.out; omega) 17 [.bool o])
    clear k1
    clear hb0
    clear hV6
    have k1 := nk1
    clear nk1
    have hb0 := nhb0
    clear nhb0
    go_end0
    first | exact ⟨k1, hb0⟩ | exact ⟨rfl, k1, hb0⟩

def smk_ (fn : Int) (fd : Int) (tn : Int) (td : Int) (fo : Bool) (to : Bool) : Bool := (bif decide ((pxl fn fd tn td) < 0) then true else (bif ((pxl fn fd tn td) == 0) then (bif fo then false else (!to)) else false))

def smfn (fn : Int) (_fd : Int) (_tn : Int) (_td : Int) (_fo : Bool) (_to : Bool) : Int := fn

def smfd (_fn : Int) (fd : Int) (_tn : Int) (_td : Int) (_fo : Bool) (_to : Bool) : Int := fd

def smtn (_fn : Int) (_fd : Int) (tn : Int) (_td : Int) (_fo : Bool) (_to : Bool) : Int := tn

def smtd (_fn : Int) (_fd : Int) (_tn : Int) (td : Int) (_fo : Bool) (_to : Bool) : Int := td

def smfo (fn : Int) (fd : Int) (tn : Int) (td : Int) (fo : Bool) (_to : Bool) : Bool := (bif decide ((pxl fn fd tn td) < 0) then fo else (bif ((pxl fn fd tn td) == 0) then (bif fo then true else false) else fo))

def smto (_fn : Int) (_fd : Int) (_tn : Int) (_td : Int) (_fo : Bool) (to : Bool) : Bool := to

set_option maxRecDepth 100000 in
set_option maxHeartbeats 4000000 in

theorem pxsm_is (fn : Int) (fd : Int) (tn : Int) (td : Int) (fo : Bool) (to : Bool)  (R0 : Bool) (R1 : Int) (R2 : Int) (R3 : Int) (R4 : Int) (R5 : Bool) (R6 : Bool) (hR0 : smk_ fn fd tn td fo to = R0) (hR1 : smfn fn fd tn td fo to = R1) (hR2 : smfd fn fd tn td fo to = R2) (hR3 : smtn fn fd tn td fo to = R3) (hR4 : smtd fn fd tn td fo to = R4) (hR5 : smfo fn fd tn td fo to = R5) (hR6 : smto fn fd tn td fo to = R6) (_ifn : InI fn) (_ifd : InI fd) (_itn : InI tn) (_itd : InI td) (bp : Nat) (w : World) (hkp : Blk w bp #[.int .u64 (wd0 fn), .int .u64 (wd1 fn), .int .u64 (wd2 fn), .int .u64 (wd3 fn), .int .u64 (wd0 fd), .int .u64 (wd1 fd), .int .u64 (wd2 fd), .int .u64 (wd3 fd), .int .u64 (wd0 tn), .int .u64 (wd1 tn), .int .u64 (wd2 tn), .int .u64 (wd3 tn), .int .u64 (wd0 td), .int .u64 (wd1 td), .int .u64 (wd2 td), .int .u64 (wd3 td), .bool fo, .bool to] 54) :
    Calls Try.prog 94 #[.pointer (some ⟨bp, 0, none⟩)] w fun e w' => e = .returned (.bool R0) ∧ Blk w' bp #[.int .u64 (wd0 R1), .int .u64 (wd1 R1), .int .u64 (wd2 R1), .int .u64 (wd3 R1), .int .u64 (wd0 R2), .int .u64 (wd1 R2), .int .u64 (wd2 R2), .int .u64 (wd3 R2), .int .u64 (wd0 R3), .int .u64 (wd1 R3), .int .u64 (wd2 R3), .int .u64 (wd3 R3), .int .u64 (wd0 R4), .int .u64 (wd1 R4), .int .u64 (wd2 R4), .int .u64 (wd3 R4), .bool R5, .bool R6] 54 ∧ Below bp w w' := by

  have HBL := Lib.hid hkp.lt
  have k1 := hkp
  clear hkp
  have HR0 := Lib.hid hR0
  clear hR0
  have HR1 := Lib.hid hR1
  clear hR1
  have HR2 := Lib.hid hR2
  clear hR2
  have HR3 := Lib.hid hR3
  clear hR3
  have HR4 := Lib.hid hR4
  clear hR4
  have HR5 := Lib.hid hR5
  clear hR5
  have HR6 := Lib.hid hR6
  clear hR6
  go_enter Try.func94, Try.ntmps94
  go_wp2_with fail
  have c1_0 : w.cell? ⟨bp, 0, none⟩ = some (.int .u64 (wd0 fn)) := k1.cell 0
  have c1_1 : w.cell? ⟨bp, 1, none⟩ = some (.int .u64 (wd1 fn)) := k1.cell 1
  have c1_2 : w.cell? ⟨bp, 2, none⟩ = some (.int .u64 (wd2 fn)) := k1.cell 2
  have c1_3 : w.cell? ⟨bp, 3, none⟩ = some (.int .u64 (wd3 fn)) := k1.cell 3
  have c1_4 : w.cell? ⟨bp, 4, none⟩ = some (.int .u64 (wd0 fd)) := k1.cell 4
  have c1_5 : w.cell? ⟨bp, 5, none⟩ = some (.int .u64 (wd1 fd)) := k1.cell 5
  have c1_6 : w.cell? ⟨bp, 6, none⟩ = some (.int .u64 (wd2 fd)) := k1.cell 6
  have c1_7 : w.cell? ⟨bp, 7, none⟩ = some (.int .u64 (wd3 fd)) := k1.cell 7
  have c1_8 : w.cell? ⟨bp, 8, none⟩ = some (.int .u64 (wd0 tn)) := k1.cell 8
  have c1_9 : w.cell? ⟨bp, 9, none⟩ = some (.int .u64 (wd1 tn)) := k1.cell 9
  have c1_10 : w.cell? ⟨bp, 10, none⟩ = some (.int .u64 (wd2 tn)) := k1.cell 10
  have c1_11 : w.cell? ⟨bp, 11, none⟩ = some (.int .u64 (wd3 tn)) := k1.cell 11
  have c1_12 : w.cell? ⟨bp, 12, none⟩ = some (.int .u64 (wd0 td)) := k1.cell 12
  have c1_13 : w.cell? ⟨bp, 13, none⟩ = some (.int .u64 (wd1 td)) := k1.cell 13
  have c1_14 : w.cell? ⟨bp, 14, none⟩ = some (.int .u64 (wd2 td)) := k1.cell 14
  have c1_15 : w.cell? ⟨bp, 15, none⟩ = some (.int .u64 (wd3 td)) := k1.cell 15
  have l1 := k1.lt
  have Kk1 := Lib.hid k1
  clear k1
  refine wp_region_up w.heap.size 8 [(true, 0), (true, 1), (true, 2), (true, 3), (true, 4), (true, 5), (true, 6), (true, 7)] (by kernel_rfl) (by kernel_rfl) (fun _ _ d _ _ h => by cases d <;> exact h) ?_
  have hb : Below w.heap.size w w.drew := (Below.refl _ _).drew
  iterate 8
    first | refine wpS_takeL rfl rfl ?_ | refine wpS_takeN rfl ⟨_, rfl⟩ ?_
    go_big_quiet_step (rfl)
    refine wpQuiet_nil ?_
  refine wpS_nil ?_
  simp only [List.drop_succ_cons, List.drop_zero]
  first | refine calls_w ?_ | refine name_world ?_ | refine list_world ?_ | refine post_world ?_
  intro U1 hU1
  first | (subst hU1; have u_ := U1; clear u_) | (rw [← hU1] at hb; clear hU1)
  clear c1_0 c1_1 c1_2 c1_3 c1_4 c1_5 c1_6 c1_7 c1_8 c1_9 c1_10 c1_11 c1_12 c1_13 c1_14 c1_15 l1
  have k1 := Kk1.out.of hb
  clear Kk1
  have hb0 := hb.mono (Nat.le_of_lt HBL.out)
  clear hb
  go_wp2_with fail
  obtain ⟨r1, hr1⟩ : ∃ o_o : Int, pxl fn fd tn td = o_o := ⟨_, rfl⟩
  have Hr1 := Lib.hid hr1
  clear hr1
  refine (pxls_is fn fd tn td r1 Hr1.out _ifn _ifd _itn _itd  _).mono ?_
  rintro e U2 ⟨rfl, hn⟩
  replace k1 := k1.of hn
  replace hb0 := hb0.trans (hn.mono (Nat.le_trans (Nat.le_of_lt HBL.out) hb0.size))
  clear hn
  obtain ⟨z2, hz2⟩ : ∃ o_o : Bool, decide (r1 < 0) = o_o := ⟨_, rfl⟩
  cases z2
  · obtain ⟨z3, hz3⟩ : ∃ o_o : Bool, (r1 == 0) = o_o := ⟨_, rfl⟩
    cases z3
    · have nz3 : ¬ r1 = 0 := by simpa using hz3
      have e0 : false = R0 := by rw [← HR0.out]; unfold smk_; (try rw [Hr1.out]); (try rw [hz2]); (try rw [hz3]); all_goals first | rfl | simp
      have e1 : fn = R1 := by rw [← HR1.out]; unfold smfn; (try rw [Hr1.out]); (try rw [hz2]); (try rw [hz3]); all_goals first | rfl | simp
      have e2 : fd = R2 := by rw [← HR2.out]; unfold smfd; (try rw [Hr1.out]); (try rw [hz2]); (try rw [hz3]); all_goals first | rfl | simp
      have e3 : tn = R3 := by rw [← HR3.out]; unfold smtn; (try rw [Hr1.out]); (try rw [hz2]); (try rw [hz3]); all_goals first | rfl | simp
      have e4 : td = R4 := by rw [← HR4.out]; unfold smtd; (try rw [Hr1.out]); (try rw [hz2]); (try rw [hz3]); all_goals first | rfl | simp
      have e5 : fo = R5 := by rw [← HR5.out]; unfold smfo; (try rw [Hr1.out]); (try rw [hz2]); (try rw [hz3]); all_goals first | rfl | simp
      have e6 : to = R6 := by rw [← HR6.out]; unfold smto; (try rw [Hr1.out]); (try rw [hz2]); (try rw [hz3]); all_goals first | rfl | simp
      subst e0
      subst e1
      subst e2
      subst e3
      subst e4
      subst e5
      subst e6
      go_wp2
      first | go_ret | go_ret2
      exact ⟨by first | rfl | simp, k1, hb0⟩
    · obtain rfl : r1 = 0 := by simpa using hz3
      clear hz3
      cases fo
      · have c1_16 : U2.cell? ⟨bp, 16, none⟩ = some (.bool false) := k1.cell 16
        have c1_17 : U2.cell? ⟨bp, 17, none⟩ = some (.bool to) := k1.cell 17
        have l1 := k1.lt
        have e0 : (!to) = R0 := by rw [← HR0.out]; unfold smk_; (try rw [Hr1.out]); (try rw [hz2]); all_goals first | rfl | simp
        have e1 : fn = R1 := by rw [← HR1.out]; unfold smfn; (try rw [Hr1.out]); (try rw [hz2]); all_goals first | rfl | simp
        have e2 : fd = R2 := by rw [← HR2.out]; unfold smfd; (try rw [Hr1.out]); (try rw [hz2]); all_goals first | rfl | simp
        have e3 : tn = R3 := by rw [← HR3.out]; unfold smtn; (try rw [Hr1.out]); (try rw [hz2]); all_goals first | rfl | simp
        have e4 : td = R4 := by rw [← HR4.out]; unfold smtd; (try rw [Hr1.out]); (try rw [hz2]); all_goals first | rfl | simp
        have e5 : false = R5 := by rw [← HR5.out]; unfold smfo; (try rw [Hr1.out]); (try rw [hz2]); all_goals first | rfl | simp
        have e6 : to = R6 := by rw [← HR6.out]; unfold smto; (try rw [Hr1.out]); (try rw [hz2]); all_goals first | rfl | simp
        subst e0
        subst e1
        subst e2
        subst e3
        subst e4
        subst e5
        subst e6
        go_wp2
        clear c1_16 c1_17 l1
        first | go_ret | go_ret2
        exact ⟨by first | rfl | simp, k1, hb0⟩
      · have c1_16 : U2.cell? ⟨bp, 16, none⟩ = some (.bool true) := k1.cell 16
        have l1 := k1.lt
        have e0 : false = R0 := by rw [← HR0.out]; unfold smk_; (try rw [Hr1.out]); (try rw [hz2]); all_goals first | rfl | simp
        have e1 : fn = R1 := by rw [← HR1.out]; unfold smfn; (try rw [Hr1.out]); (try rw [hz2]); all_goals first | rfl | simp
        have e2 : fd = R2 := by rw [← HR2.out]; unfold smfd; (try rw [Hr1.out]); (try rw [hz2]); all_goals first | rfl | simp
        have e3 : tn = R3 := by rw [← HR3.out]; unfold smtn; (try rw [Hr1.out]); (try rw [hz2]); all_goals first | rfl | simp
        have e4 : td = R4 := by rw [← HR4.out]; unfold smtd; (try rw [Hr1.out]); (try rw [hz2]); all_goals first | rfl | simp
        have e5 : true = R5 := by rw [← HR5.out]; unfold smfo; (try rw [Hr1.out]); (try rw [hz2]); all_goals first | rfl | simp
        have e6 : to = R6 := by rw [← HR6.out]; unfold smto; (try rw [Hr1.out]); (try rw [hz2]); all_goals first | rfl | simp
        subst e0
        subst e1
        subst e2
        subst e3
        subst e4
        subst e5
        subst e6
        go_wp2
        clear c1_16 l1
        first | go_ret | go_ret2
        exact ⟨by first | rfl | simp, k1, hb0⟩
  · have e0 : true = R0 := by rw [← HR0.out]; unfold smk_; (try rw [Hr1.out]); (try rw [hz2]); all_goals first | rfl | simp
    have e1 : fn = R1 := by rw [← HR1.out]; unfold smfn; (try rw [Hr1.out]); (try rw [hz2]); all_goals first | rfl | simp
    have e2 : fd = R2 := by rw [← HR2.out]; unfold smfd; (try rw [Hr1.out]); (try rw [hz2]); all_goals first | rfl | simp
    have e3 : tn = R3 := by rw [← HR3.out]; unfold smtn; (try rw [Hr1.out]); (try rw [hz2]); all_goals first | rfl | simp
    have e4 : td = R4 := by rw [← HR4.out]; unfold smtd; (try rw [Hr1.out]); (try rw [hz2]); all_goals first | rfl | simp
    have e5 : fo = R5 := by rw [← HR5.out]; unfold smfo; (try rw [Hr1.out]); (try rw [hz2]); all_goals first | rfl | simp
    have e6 : to = R6 := by rw [← HR6.out]; unfold smto; (try rw [Hr1.out]); (try rw [hz2]); all_goals first | rfl | simp
    subst e0
    subst e1
    subst e2
    subst e3
    subst e4
    subst e5
    subst e6
    go_wp2
    first | go_ret | go_ret2
    exact ⟨by first | rfl | simp, k1, hb0⟩
end Go.Proofs.Ytlcbomjdbdgbmaa

