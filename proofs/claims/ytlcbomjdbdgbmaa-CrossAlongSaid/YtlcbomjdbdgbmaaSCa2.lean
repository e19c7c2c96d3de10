/- My texts Bs5, Bs6, Bs7, AwB, Cr1, Cr2, Cr3, joined: what the last one needs of them. Conditions: as each lemma says. -/
import Derived.Test.YtlcbomjdbdgbmaaSCa1
import Derived.KernelRfl
import Derived.StillTail
import Derived.OrdersHeld
import Derived.Deep.Quiet
import Derived.Below
import Derived.WalkKit
import Derived.Test.YtlcbomjdbdgbmaaProg
import Derived.WalkSpells
import Derived.StillTactics
import Derived.Laws.Pointers
import Derived.Deep.RegionHeld3
import Derived.RowKit3
import Derived.Deep.QuietTactic
import Derived.BigQuiet
import Derived.BigRegion
import Derived.Lib.Hide
import Derived.WalkSmall
import Derived.Laws.BitsAllLaws
import Derived.IntWalk
import Derived.Deep.OwnRows
import Derived.Deep.LoopGhost
import Derived.Shelf.Bits.Mul64
import Derived.ProofKit
import Derived.OpenShut
import Derived.ShutString
import Derived.ChangeOld
import Derived.Lib.SmallJoins
import Derived.Laws.IdiomArrays
namespace Go.Proofs.Ytlcbomjdbdgbmaa
open Go.RowKit

theorem below_a1 (w : World) (o1 : Obj) : Below w.heap.size w (w.alloc o1) := (Below.refl _ _).alloc (Nat.le_refl _) _
theorem below_a2 (w : World) (o1 o2 : Obj) : Below w.heap.size w ((w.alloc o1).alloc o2) := (below_a1 w o1).alloc (by simp) _
theorem below_a3 (w : World) (o1 o2 o3 : Obj) : Below w.heap.size w (((w.alloc o1).alloc o2).alloc o3) := (below_a2 w o1 o2).alloc (by simp; omega) _
end Go.Proofs.Ytlcbomjdbdgbmaa
namespace Go.Proofs.Ytlcbomjdbdgbmaa
open Go.RowKit
theorem GivesBig.mono {w : World} {n : Int} {L L' : Nat} (hl : L ≤ L') {e : Ending} {w' : World} (h : GivesBig w n L e w') : GivesBig w n L' e w' := by
  obtain ⟨v, h1, h2, h3⟩ := h
  exact ⟨v, h1, h2.mono hl, h3⟩
end Go.Proofs.Ytlcbomjdbdgbmaa
namespace Go.Proofs.Ytlcbomjdbdgbmaa
open Go.RowKit
end Go.Proofs.Ytlcbomjdbdgbmaa
namespace Go.Proofs.Ytlcbomjdbdgbmaa

/-- the number of some words -/
def uval : List Int → Int
  | [] => 0
  | d :: t => d + 18446744073709551616 * uval t
def WordsOk (ws : List Int) : Prop := ∀ d ∈ ws, Wd d
theorem p2_pos (n : Nat) : (0 : Int) < 2 ^ n := Int.pow_pos (by decide)
theorem P15_two (n : Nat) : P15 n = 2 ^ (15 * n) := by
  induction n with
  | zero => rfl
  | succ n ih => rw [P15_succ, ih, Nat.mul_add, Int.pow_add, Int.mul_comm]; rfl
theorem mod_succ (x : Int) (i : Nat) : x % 2 ^ (i + 1) = x % 2 ^ i + x / 2 ^ i % 2 * 2 ^ i := by
  have h1 := Int.emod_add_mul_ediv x (2 ^ i)
  have h2 := Int.emod_add_mul_ediv (x / 2 ^ i) 2
  have p := p2_pos i
  have r0 := Int.emod_nonneg x (Int.ne_of_gt p)
  have r1 := Int.emod_lt_of_pos x p
  have t0 : 0 ≤ x / 2 ^ i % 2 := Int.emod_nonneg _ (by decide)
  have t1 : x / 2 ^ i % 2 < 2 := Int.emod_lt_of_pos _ (by decide)
  have e : (2 : Int) ^ (i + 1) = 2 ^ i * 2 := Int.pow_succ ..
  have b0 : 0 ≤ x / 2 ^ i % 2 * 2 ^ i := Int.mul_nonneg t0 (Int.le_of_lt p)
  have b1 : x / 2 ^ i % 2 * 2 ^ i ≤ 1 * 2 ^ i := Int.mul_le_mul_of_nonneg_right (by omega) (Int.le_of_lt p)
  refine (div_unique (q := x / 2 ^ i / 2) ?_ (by omega) (by omega)).2
  have e5 : (2 : Int) ^ (i + 1) * (x / 2 ^ i / 2) = 2 ^ i * (2 * (x / 2 ^ i / 2)) := by rw [e, Int.mul_assoc]
  have e6 : 2 ^ i * (x / 2 ^ i) = 2 ^ i * (x / 2 ^ i % 2) + 2 ^ i * (2 * (x / 2 ^ i / 2)) := by rw [← Int.mul_add, h2]
  have e7 : x / 2 ^ i % 2 * 2 ^ i = 2 ^ i * (x / 2 ^ i % 2) := Int.mul_comm ..
  omega

/-- the first i bits of N, as digits and what is gathered for the next one -/
structure Gat (N : Int) (i m : Nat) (ds : List Int) (r : Int) : Prop where
  ok : DigOk ds
  pos : i = 15 * ds.length + m
  sum : dval ds + P15 ds.length * r = N % 2 ^ i
  lo : 0 ≤ r
  hi : r < 2 ^ m
theorem Gat.zero (N : Int) : Gat N 0 0 [] 0 := ⟨DigOk.nil, rfl, by simp [dval], by decide, by decide⟩
theorem Gat.bit {N : Int} {i m : Nat} {ds : List Int} {r b : Int} (h : Gat N i m ds r) (hb : b = N / 2 ^ i % 2) :
    dval ds + P15 ds.length * (r + b * 2 ^ m) = N % 2 ^ (i + 1) ∧ 0 ≤ r + b * 2 ^ m ∧ r + b * 2 ^ m < 2 ^ (m + 1) := by
  have p := p2_pos m
  have t0 : 0 ≤ b := hb ▸ Int.emod_nonneg _ (by decide)
  have t1 : b < 2 := hb ▸ Int.emod_lt_of_pos _ (by decide)
  have b0 : 0 ≤ b * 2 ^ m := Int.mul_nonneg t0 (Int.le_of_lt p)
  have b1 : b * 2 ^ m ≤ 1 * 2 ^ m := Int.mul_le_mul_of_nonneg_right (by omega) (Int.le_of_lt p)
  have e : (2 : Int) ^ (m + 1) = 2 ^ m * 2 := Int.pow_succ ..
  have := h.lo; have := h.hi
  refine ⟨?_, by omega, by omega⟩
  rw [mod_succ, ← hb, ← h.sum, Int.mul_add]
  have e2 : (2 : Int) ^ i = P15 ds.length * 2 ^ m := by rw [P15_two, ← Int.pow_add, ← h.pos]
  rw [e2]
  have e3 : b * (P15 ds.length * 2 ^ m) = P15 ds.length * (b * 2 ^ m) := Int.mul_left_comm ..
  omega
theorem Gat.on {N : Int} {i m : Nat} {ds : List Int} {r b : Int} (h : Gat N i m ds r) (hb : b = N / 2 ^ i % 2) : Gat N (i + 1) (m + 1) ds (r + b * 2 ^ m) := by
  obtain ⟨h1, h2, h3⟩ := h.bit hb
  exact ⟨h.ok, by have := h.pos; omega, h1, h2, h3⟩
theorem Gat.next {N : Int} {i : Nat} {ds : List Int} {r b : Int} (h : Gat N i 14 ds r) (hb : b = N / 2 ^ i % 2) : Gat N (i + 1) 0 (ds ++ [r + b * 2 ^ 14]) 0 := by
  obtain ⟨h1, h2, h3⟩ := h.bit hb
  have h3' : r + b * 2 ^ 14 < 32768 := h3
  refine ⟨h.ok.append (DigOk.one ⟨h2, h3'⟩), ?_, ?_, by decide, by decide⟩
  · have := h.pos; rw [List.length_append, List.length_singleton]; omega
  · rw [Int.mul_zero, Int.add_zero, dval_append, ← h1]; simp [dval]
theorem Gat.done {N : Int} {i m : Nat} {ds : List Int} {r : Int} (h : Gat N i m ds r) (hm : m ≤ 14) (h0 : 0 ≤ N) (h1 : N < 2 ^ i) : DigOk (ds ++ [r]) ∧ dval (ds ++ [r]) = N := by
  have e : (2 : Int) ^ m ≤ 2 ^ 14 := by
    have := p2_pos (14 - m); have p := p2_pos m
    have e : (2 : Int) ^ 14 = 2 ^ m * 2 ^ (14 - m) := by rw [← Int.pow_add, show m + (14 - m) = 14 by omega]
    have : (2 : Int) ^ m * 1 ≤ 2 ^ m * 2 ^ (14 - m) := Int.mul_le_mul_of_nonneg_left (by omega) (by omega)
    omega
  have e14 : (2 : Int) ^ 14 = 16384 := rfl
  have := h.lo; have := h.hi
  refine ⟨h.ok.append (DigOk.one ⟨by omega, by omega⟩), ?_⟩
  have := h.sum
  rw [Int.emod_eq_of_lt h0 h1] at this
  rw [dval_append, ← this]; simp [dval]

theorem dval_set {ds : List Int} {j : Nat} (hj : j < ds.length) (v : Int) : dval (ds.set j v) = dval ds + P15 j * (v - ds.getD j 0) := by
  induction ds generalizing j with
  | nil => cases hj
  | cons d t ih =>
    cases j with
    | zero => simp [dval, P15_0]; omega
    | succ j =>
      have hj' : j < t.length := by simpa using hj
      rw [List.set_cons_succ, dval, dval, ih hj', P15_succ, List.getD_cons_succ, Int.mul_add, Int.mul_assoc]; omega
theorem DigOk.set {ds : List Int} (h : DigOk ds) {v : Int} (hv : 0 ≤ v ∧ v < 32768) (j : Nat) : DigOk (ds.set j v) := fun x hx => by
  rcases List.mem_or_eq_of_mem_set hx with h' | h'
  · exact h x h'
  · rw [h']; exact hv
theorem getD_set_ne {ds : List Int} {i j : Nat} (h : i ≠ j) (v : Int) : (ds.set i v).getD j 0 = ds.getD j 0 := by
  simp [List.getD, List.getElem?_set_ne h]
theorem dval_take_succ' (ds : List Int) (k : Nat) : dval (ds.take (k + 1)) = dval (ds.take k) + P15 k * ds.getD k 0 := by
  rcases Nat.lt_or_ge k ds.length with h | h
  · rw [List.take_succ_eq_append_getElem h, dval_append, List.length_take, Nat.min_eq_left (by omega), getD_in' h]
    simp [dval]
  · rw [List.take_of_length_le (by omega), List.take_of_length_le h, getD_out h]; simp

/-- the product so far: all of the first i digits, and of the next one as many as k of the other number's -/
structure Prd (xs ys : List Int) (n i k : Nat) (out : List Int) (c : Int) : Prop where
  ok : DigOk out
  len : out.length = n
  sum : dval out + P15 (i + k) * c = dval (xs.take i) * dval ys + P15 i * (xs.getD i 0 * dval (ys.take k))
  far : ∀ j, i + ys.length ≤ j → out.getD j 0 = 0
  lo : 0 ≤ c
  hi : c ≤ 32767
theorem Prd.start {xs ys : List Int} {n i : Nat} {out : List Int} (h1 : DigOk out) (h2 : out.length = n) (h3 : dval out = dval (xs.take i) * dval ys) (h4 : ∀ j, i + ys.length ≤ j → out.getD j 0 = 0) : Prd xs ys n i 0 out 0 :=
  ⟨h1, h2, by rw [h3]; simp [dval], h4, by decide, by decide⟩
theorem prd_n {a x y c : Int} (ha : 0 ≤ a ∧ a < 32768) (hx : 0 ≤ x ∧ x < 32768) (hy : 0 ≤ y ∧ y < 32768) (hc : 0 ≤ c ∧ c ≤ 32767) :
    0 ≤ x * y ∧ x * y ≤ 1073676289 ∧ 0 ≤ (a + x * y + c) / 32768 ∧ (a + x * y + c) / 32768 ≤ 32767 := by
  have h1 : 0 ≤ x * y := Int.mul_nonneg hx.1 hy.1
  have h2 : x * y ≤ 32767 * 32767 := Int.mul_le_mul (by omega) (by omega) hy.1 (by decide)
  omega
theorem Prd.step {xs ys : List Int} {n i k : Nat} {out : List Int} {c x y a : Int} (h : Prd xs ys n i k out c) (dx : DigOk xs) (dy : DigOk ys) (hk : k < ys.length) (hn : i + ys.length < n)
    (hx : x = xs.getD i 0) (hy : y = ys.getD k 0) (ha : a = out.getD (i + k) 0) :
    Prd xs ys n i (k + 1) (out.set (i + k) ((a + x * y + c) % 32768)) ((a + x * y + c) / 32768) := by
  have b := prd_n (ha ▸ h.ok.get (i + k)) (hx ▸ dx.get i) (hy ▸ dy.get k) ⟨h.lo, h.hi⟩
  refine ⟨h.ok.set (by omega) _, by rw [List.length_set]; exact h.len, ?_, fun j hj => ?_, b.2.2.1, b.2.2.2⟩
  · rw [dval_set (by rw [h.len]; omega), ← ha, dval_take_succ', ← hx, ← hy, ← Nat.add_assoc, P15_succ]
    have e1 := h.sum
    rw [← hx] at e1
    have e2 := Int.emod_add_mul_ediv (a + x * y + c) 32768
    have e3 : 32768 * P15 (i + k) * ((a + x * y + c) / 32768) = P15 (i + k) * (32768 * ((a + x * y + c) / 32768)) := by rw [Int.mul_comm 32768, Int.mul_assoc]
    have e4 : P15 (i + k) * ((a + x * y + c) % 32768 - a) + P15 (i + k) * (32768 * ((a + x * y + c) / 32768)) = P15 (i + k) * (x * y) + P15 (i + k) * c := by
      rw [← Int.mul_add, ← Int.mul_add]
      have e6 : (a + x * y + c) % 32768 - a + 32768 * ((a + x * y + c) / 32768) = x * y + c := by omega
      rw [e6]
    have e5 : P15 i * (x * (dval (ys.take k) + P15 k * y)) = P15 i * (x * dval (ys.take k)) + P15 (i + k) * (x * y) := by
      rw [Int.mul_add, Int.mul_add, P15_add, Int.mul_assoc (P15 i), Int.mul_left_comm x]
    rw [e5, e3]; omega
  · rw [getD_set_ne (by omega)]; exact h.far j hj
theorem Prd.row {xs ys : List Int} {n i : Nat} {out : List Int} {c a : Int} (h : Prd xs ys n i ys.length out c) (hn : i + ys.length < n) (ha : a = out.getD (i + ys.length) 0) :
    Prd xs ys n (i + 1) 0 (out.set (i + ys.length) (a + c)) 0 := by
  have a0 : a = 0 := ha.trans (h.far _ (Nat.le_refl _))
  subst a0
  rw [Int.zero_add]
  refine Prd.start (h.ok.set ⟨h.lo, by have := h.hi; omega⟩ _) (by rw [List.length_set]; exact h.len) ?_ fun j hj => ?_
  · rw [dval_set (by rw [h.len]; omega), ← ha, Int.sub_zero, h.sum, List.take_of_length_le (Nat.le_refl _), dval_take_succ', Int.add_mul, Int.mul_assoc]
  · rw [getD_set_ne (by omega)]; exact h.far j (by omega)
theorem dval_repl (n : Nat) : dval (List.replicate n 0) = 0 := by
  induction n with
  | zero => rfl
  | succ n ih => rw [List.replicate_succ, dval, ih]; rfl
theorem Prd.zero (xs ys : List Int) (n : Nat) : Prd xs ys n 0 0 (List.replicate n 0) 0 := by
  refine Prd.start (fun x hx => by rw [(List.mem_replicate.1 hx).2]; decide) (List.length_replicate ..) (by rw [dval_repl]; simp [dval]) fun j _ => ?_
  rcases Nat.lt_or_ge j n with h | h
  · rw [getD_in' (by rw [List.length_replicate]; exact h)]; simp
  · exact getD_out (by rw [List.length_replicate]; exact h)
theorem Prd.all {xs ys : List Int} {n : Nat} {out : List Int} {c : Int} (h : Prd xs ys n xs.length 0 out c) (hc : c = 0) : DigOk out ∧ dval out = dval xs * dval ys := by
  refine ⟨h.ok, ?_⟩
  have := h.sum
  rw [hc, Int.mul_zero, Int.add_zero, List.take_of_length_le (Nat.le_refl _)] at this
  rw [this]; simp [dval]
end Go.Proofs.Ytlcbomjdbdgbmaa
namespace Go.Proofs.Ytlcbomjdbdgbmaa

end Go.Proofs.Ytlcbomjdbdgbmaa
namespace Go.Proofs.Ytlcbomjdbdgbmaa
open Go.RowKit

/-- a slice of words that holds these -/
structure Ws (w : World) (b : Nat) (ws : List Int) : Prop where
  cell : ∀ i, i < ws.length → w.cell? ⟨b, i, none⟩ = some (.int .u64 (ws.getD i 0))
  blk : b < w.heap.size
  ok : WordsOk ws
  len : ws.length ≤ 4
theorem Ws.of {w w' : World} {b : Nat} {ws : List Int} (h : Ws w b ws) (hb : Below w.heap.size w w') : Ws w' b ws :=
  ⟨fun i hi => by rw [hb.cell (p := ⟨b, i, none⟩) h.blk]; exact h.cell i hi, Nat.lt_of_lt_of_le h.blk hb.size, h.ok, h.len⟩

end Go.Proofs.Ytlcbomjdbdgbmaa
namespace Go.Proofs.Ytlcbomjdbdgbmaa
open Go.RowKit

end Go.Proofs.Ytlcbomjdbdgbmaa
namespace Go.Proofs.Ytlcbomjdbdgbmaa
open Go.RowKit

end Go.Proofs.Ytlcbomjdbdgbmaa

namespace Go.Proofs.Ytlcbomjdbdgbmaa
open Go.RowKit

theorem dg_get {ds : List Int} {j : Nat} (h : j < ds.length) : (dg ds).toArray[j]? = some (.int .i64 (ds.getD j 0)) := by
  unfold dg; simp [h]
theorem dg_put (ds : List Int) (j : Nat) (v : Int) : (dg ds).toArray.setIfInBounds j (.int .i64 v) = (dg (ds.set j v)).toArray := by
  unfold dg; rw [List.setIfInBounds_toArray, List.map_set]
/-- where the product stands -/
structure MulAt (w : World) (v1 v2 : Array Value) (out : List Int) (n : Nat) (wr : World) : Prop where
  k0 : Blk wr w.heap.size v1 28
  k1 : Blk wr (w.heap.size + 1) v2 28
  k2 : Blk wr (w.heap.size + 1 + 1) #[.bool false, .slice none 0 0] 28
  k3 : Blk wr (w.heap.size + 1 + 1 + 1) (dg out).toArray 3
  len : out.length = n
  below : Below w.heap.size w wr
theorem MulAt.drew {w : World} {v1 v2 : Array Value} {out : List Int} {n : Nat} {wr : World} (h : MulAt w v1 v2 out n wr) : MulAt w v1 v2 out n wr.drew := ⟨h.k0, h.k1, h.k2, h.k3, h.len, h.below.drew⟩
theorem MulAt.put {w : World} {v1 v2 : Array Value} {out : List Int} {n : Nat} {wr : World} (h : MulAt w v1 v2 out n wr) (j : Nat) (v : Int) : MulAt w v1 v2 (out.set j v) n (wr.setCell ⟨w.heap.size + 1 + 1 + 1, j, none⟩ (.int .i64 v)) :=
  ⟨h.k0.set (by omega) _ _ _, h.k1.set (by omega) _ _ _, h.k2.set (by omega) _ _ _, by rw [← dg_put]; exact Blk.put h.k3 _ _, by rw [List.length_set]; exact h.len, h.below.setCell (by show _ ≤ w.heap.size + 1 + 1 + 1; omega) _⟩
theorem MulAt.outc {w : World} {v1 v2 : Array Value} {out : List Int} {n : Nat} {wr : World} (h : MulAt w v1 v2 out n wr) {j : Nat} (hj : j < n) : wr.cell? ⟨w.heap.size + 1 + 1 + 1, j, none⟩ = some (.int .i64 (out.getD j 0)) := by
  rw [h.k3.cell]; exact dg_get (by rw [h.len]; exact hj)

end Go.Proofs.Ytlcbomjdbdgbmaa
namespace Go.Proofs.Ytlcbomjdbdgbmaa
open Go.RowKit

/-- the Go value of a fraction: its eight words -/
abbrev rC (n d : Int) : Array Value := #[.int .u64 (wd0 n), .int .u64 (wd1 n), .int .u64 (wd2 n), .int .u64 (wd3 n), .int .u64 (wd0 d), .int .u64 (wd1 d), .int .u64 (wd2 d), .int .u64 (wd3 d)]
/-- a variable that holds a fraction -/
abbrev RVar (w : World) (b : Nat) (n d : Int) : Prop := Blk w b (rC n d) 52
theorem RVar.c {w : World} {b : Nat} {n d : Int} (h : RVar w b n d) : (w.cell? ⟨b, 0, none⟩ = some (.int .u64 (wd0 n)) ∧ w.cell? ⟨b, 1, none⟩ = some (.int .u64 (wd1 n)) ∧ w.cell? ⟨b, 2, none⟩ = some (.int .u64 (wd2 n)) ∧ w.cell? ⟨b, 3, none⟩ = some (.int .u64 (wd3 n))) ∧
    (w.cell? ⟨b, 4, none⟩ = some (.int .u64 (wd0 d)) ∧ w.cell? ⟨b, 5, none⟩ = some (.int .u64 (wd1 d)) ∧ w.cell? ⟨b, 6, none⟩ = some (.int .u64 (wd2 d)) ∧ w.cell? ⟨b, 7, none⟩ = some (.int .u64 (wd3 d))) :=
  ⟨⟨h.cell 0, h.cell 1, h.cell 2, h.cell 3⟩, h.cell 4, h.cell 5, h.cell 6, h.cell 7⟩
theorem RVar.f {w : World} {b : Nat} {n d : Int} (h : RVar w b n d) : (w.frozen? ⟨b, 0, none⟩ = false ∧ w.frozen? ⟨b, 1, none⟩ = false ∧ w.frozen? ⟨b, 2, none⟩ = false ∧ w.frozen? ⟨b, 3, none⟩ = false) ∧
    (w.frozen? ⟨b, 4, none⟩ = false ∧ w.frozen? ⟨b, 5, none⟩ = false ∧ w.frozen? ⟨b, 6, none⟩ = false ∧ w.frozen? ⟨b, 7, none⟩ = false) :=
  ⟨⟨h.free 0, h.free 1, h.free 2, h.free 3⟩, h.free 4, h.free 5, h.free 6, h.free 7⟩
end Go.Proofs.Ytlcbomjdbdgbmaa
namespace Go.Proofs.Ytlcbomjdbdgbmaa
open Go.RowKit

theorem name_q {Q : Exit → Act → World → Prop} {e : Exit} {a : Act} {w : World} (h : ∀ W, W = w → Q e a W) : Q e a w := h w rfl

/-- where the search for the common one stands -/
structure ComAt (w : World) (a b : Int) (wr : World) : Prop where
  va : Var wr w.heap.size a
  vb : Var wr (w.heap.size + 1) b
  v0 : Var wr (w.heap.size + 1 + 1) 0
  below : Below w.heap.size w wr
theorem ComAt.of {w : World} {a b : Int} {wr w' : World} (h : ComAt w a b wr) (hn : Below wr.heap.size wr w') : ComAt w a b w' :=
  ⟨h.va.of hn, h.vb.of hn, h.v0.of hn, h.below.trans (hn.mono h.below.size)⟩

end Go.Proofs.Ytlcbomjdbdgbmaa
namespace Go.Proofs.Ytlcbomjdbdgbmaa
open Go.RowKit

theorem Sign_is (x : Int) (s : Int) (hs : x.sign = s) (w : World) (h : InI x) :
    Calls Try.prog 22 #[wI x] w fun e w' => e = .returned (.int .i64 s) ∧ Below w.heap.size w w' := hs ▸ Sign_any x w h
/-- the two variables of New, and what it hands back -/
structure NewAt (w : World) (x y : Int) (wr : World) : Prop where
  kx : Var wr w.heap.size x
  ky : Var wr (w.heap.size + 1) y
  k0 : RVar wr (w.heap.size + 1 + 1) 0 0
  below : Below w.heap.size w wr
theorem NewAt.of {w : World} {x y : Int} {wr w' : World} (h : NewAt w x y wr) (hn : Below wr.heap.size wr w') : NewAt w x y w' :=
  ⟨h.kx.of hn, h.ky.of hn, h.k0.of hn, h.below.trans (hn.mono h.below.size)⟩
end Go.Proofs.Ytlcbomjdbdgbmaa
namespace Go.Proofs.Ytlcbomjdbdgbmaa
open Go.RowKit

end Go.Proofs.Ytlcbomjdbdgbmaa
namespace Go.Proofs.Ytlcbomjdbdgbmaa
open Go.RowKit

/-- a fraction of two Bigs -/
def BRat (w : World) (v : Value) (n d : Int) (L : Nat) : Prop :=
  ∃ (n1 : Bool) (a1 : Option Addr) (l1 c1 : Nat) (n2 : Bool) (a2 : Option Addr) (l2 c2 : Nat), v = .agg #[.bool n1, .slice a1 l1 c1, .bool n2, .slice a2 l2 c2] ∧ Big w (.agg #[.bool n1, .slice a1 l1 c1]) n L ∧ Big w (.agg #[.bool n2, .slice a2 l2 c2]) d L
theorem BRat.of {w w' : World} {v : Value} {n d : Int} {L : Nat} (h : BRat w v n d L) (hb : Below w.heap.size w w') : BRat w' v n d L := by
  obtain ⟨n1, a1, l1, c1, n2, a2, l2, c2, h1, h2, h3⟩ := h
  exact ⟨n1, a1, l1, c1, n2, a2, l2, c2, h1, h2.of hb, h3.of hb⟩
theorem i64_u64 {x : Int} (h0 : 0 ≤ x) (h1 : x < 18446744073709551616) : In64 (IntKind.i64.wrap x) ∧ wd0 (IntKind.i64.wrap x) = x := by
  rw [IntKind.wrap_i64]; unfold In64 wd0 b64; omega
instance (x : Int) : Decidable (In64 x) := by unfold In64; exact inferInstance
theorem small_eq {x : Int} (ix : InI x) (b : Bool) (h : decide (In64 x) = b) :
    In64 (IntKind.i64.wrap (wd0 x)) ∧ (bif b then IntKind.i64.wrap (wd0 x) = x else True) ∧ eq4 (wd0 (IntKind.i64.wrap (wd0 x))) (wd1 (IntKind.i64.wrap (wd0 x))) (wd2 (IntKind.i64.wrap (wd0 x))) (wd3 (IntKind.i64.wrap (wd0 x))) (wd0 x) (wd1 x) (wd2 x) (wd3 x) = b := by
  have hw := wd0_Wd x
  obtain ⟨h1, h2⟩ := i64_u64 hw.lo hw.hi
  obtain ⟨m, hm⟩ : ∃ m, m = IntKind.i64.wrap (wd0 x) := ⟨_, rfl⟩
  rw [← hm] at h1 h2 ⊢
  rw [eq4_wd]
  refine ⟨h1, ?_, ?_⟩
  · cases b
    · trivial
    · have h := of_decide_eq_true h
      show m = x
      unfold In64 wd0 b64 at *; omega
  · rw [← h, Bool.eq_iff_iff, decide_eq_true_iff, decide_eq_true_iff]
    constructor
    · intro e
      have : m = x := by unfold InI In64 b255 b256 at *; omega
      rw [← this]; exact h1
    · intro h
      have : m = x := by unfold In64 wd0 b64 at *; omega
      rw [this]

set_option maxRecDepth 100000 in
set_option maxHeartbeats 1000000 in
theorem Small_any (x : Int) (w : World) (ix : InI x) (b : Bool) (h : decide (In64 x) = b) :
    Calls Try.prog 110 #[wI x] w fun e w' => e = .returned (.tuple #[.int .i64 (bif b then x else 0), .bool b]) ∧ Below w.heap.size w w' := by
  obtain ⟨h1, h2, h3⟩ := small_eq ix b h
  obtain ⟨m, hm⟩ : ∃ m, IntKind.i64.wrap (wd0 x) = m := ⟨_, rfl⟩
  rw [hm] at h1 h2 h3
  have H2 := Lib.hid h2
  clear h2 h ix
  go_enter Try.func110, Try.ntmps110
  go_wp2_with fail
  clear hm
  refine name_world ?_
  intro W hW
  have kx : Var W w.heap.size x := by rw [hW]; exact Blk.new _ _ _
  have hb0 : Below w.heap.size w W := by rw [hW]; exact below_a1 _ _
  clear hW
  have c := Var.c kx
  have l0 := kx.lt
  clear kx
  refine wp_region_up W.heap.size 3 [(true, 0), (true, 2), (false, 1)] (by kernel_rfl) (by kernel_rfl) (fun _ _ d _ _ h => by cases d <;> exact h) ?_
  have hb : Below W.heap.size W W.drew := (Below.refl _ _).drew
  iterate 2
    refine wpS_takeL rfl rfl ?_
    go_big_quiet_step (rfl)
    refine wpQuiet_nil ?_
  refine wpS_doL rfl ?_
  intro K hK
  go_wp2_with ((go_at_call 62; refine (Of_any m _ h1).mono ?_; rintro e w2 ⟨rfl, hn⟩))
  replace hb := hb.trans (hn.mono hb.size)
  refine hK.out _ _ (up_iff.2 hb) ?_
  clear hK K
  clear hn
  refine wpS_nil ?_
  simp only [List.drop_succ_cons, List.drop_zero]
  have hb2 : Below w.heap.size w w2 := hb0.trans (hb.mono hb0.size)
  clear c l0 hb hb0
  cases b
  · go_wp2
    go_ret2
    exact ⟨rfl, hb2⟩
  · have H3 := H2.out
    rw [cond_true] at H3
    subst H3
    go_wp2
    go_ret2
    exact ⟨rfl, hb2⟩
end Go.Proofs.Ytlcbomjdbdgbmaa
namespace Go.Proofs.Ytlcbomjdbdgbmaa
open Go.RowKit

set_option maxRecDepth 100000 in
set_option maxHeartbeats 1000000 in
theorem mul64_nat (x y : Nat) (hx : x < 18446744073709551616) (hy : y < 18446744073709551616) (w : World) :
    Calls Try.prog 145 #[.int .u64 x, .int .u64 y] w fun e w' => e = .returned (.tuple #[.int .u64 ((x * y / 18446744073709551616 : Nat) : Int), .int .u64 ((x * y % 18446744073709551616 : Nat) : Int)]) ∧ w' = w := by
  obtain ⟨bd, bt, bw, hhi⟩ := Go.Lib.mul64_hi x y hx hy
  have ba := Go.Lib.half_mul_le (a := x / 4294967296) (b := y / 4294967296) (by omega) (by omega)
  have bb := Go.Lib.half_mul_le (a := x / 4294967296) (b := y % 4294967296) (by omega) (by omega)
  have bc := Go.Lib.half_mul_le (a := x % 4294967296) (b := y / 4294967296) (by omega) (by omega)
  have ba' : x / 4294967296 * (y / 4294967296) < 18446744073709551616 := by omega
  have bb' : x / 4294967296 * (y % 4294967296) < 18446744073709551616 := by omega
  have bc' : x % 4294967296 * (y / 4294967296) < 18446744073709551616 := by omega
  have bh1 : x / 4294967296 * (y / 4294967296) + (x / 4294967296 * (y % 4294967296) + x % 4294967296 * (y % 4294967296) / 4294967296) / 4294967296 < 18446744073709551616 := by omega
  have bh : x / 4294967296 * (y / 4294967296) + (x / 4294967296 * (y % 4294967296) + x % 4294967296 * (y % 4294967296) / 4294967296) / 4294967296 + ((x / 4294967296 * (y % 4294967296) + x % 4294967296 * (y % 4294967296) / 4294967296) % 4294967296 + x % 4294967296 * (y / 4294967296)) / 4294967296 < 18446744073709551616 := by omega
  go_enter Try.func145, Try.ntmps145
  go_wp2
  simp only [Mul64.maskN x hx, Mul64.maskN y hy, Mul64.divN, Mul64.mulN, Mul64.addN, Mul64.wrapN _ bd, Mul64.wrapN _ bb', Mul64.wrapN _ bt, Mul64.maskN _ bt, Mul64.wrapN _ bc', Mul64.wrapN _ bw, Mul64.wrapN _ ba', Mul64.wrapN _ bh1, Mul64.wrapN _ bh, Mul64.wrapM (x * y)]
  rw [hhi]
  go_ret2
  exact ⟨rfl, rfl⟩

theorem mul64_any (x y : Int) (hx : Wd x) (hy : Wd y) (w : World) :
    Calls Try.prog 145 #[.int .u64 x, .int .u64 y] w fun e w' => e = .returned (.tuple #[.int .u64 (x * y / 18446744073709551616), .int .u64 (x * y % 18446744073709551616)]) ∧ w = w' := by
  obtain ⟨x0, x1⟩ := hx
  obtain ⟨y0, y1⟩ := hy
  obtain ⟨m, rfl⟩ := Int.eq_ofNat_of_zero_le x0
  obtain ⟨n, rfl⟩ := Int.eq_ofNat_of_zero_le y0
  refine (mul64_nat m n (by omega) (by omega) w).mono fun e w' ⟨he, hw⟩ => ⟨?_, hw.symm⟩
  rw [he]
  simp only [Int.natCast_ediv, Int.natCast_emod, Int.natCast_mul]
  rfl
end Go.Proofs.Ytlcbomjdbdgbmaa
namespace Go.Proofs.Ytlcbomjdbdgbmaa

/-- 2^64 to the power of n -/
def P64 (n : Nat) : Int := 18446744073709551616 ^ n
theorem P64_0 : P64 0 = 1 := rfl
theorem P64_succ (n : Nat) : P64 (n + 1) = 18446744073709551616 * P64 n := by unfold P64; rw [Int.pow_succ, Int.mul_comm]
theorem P64_add (m n : Nat) : P64 (m + n) = P64 m * P64 n := by unfold P64; rw [Int.pow_add]

theorem uval_append (a b : List Int) : uval (a ++ b) = uval a + P64 a.length * uval b := by
  induction a with
  | nil => simp [uval, P64_0]
  | cons d t ih => rw [List.cons_append, uval, uval, ih, List.length_cons, P64_succ, Int.mul_add, Int.mul_assoc]; omega
theorem uval_take_succ (ds : List Int) (k : Nat) : uval (ds.take (k + 1)) = uval (ds.take k) + P64 k * ds.getD k 0 := by
  rcases Nat.lt_or_ge k ds.length with h | h
  · rw [List.take_succ_eq_append_getElem h, uval_append, List.length_take, Nat.min_eq_left (by omega), getD_in' h]
    simp [uval]
  · rw [List.take_of_length_le (by omega), List.take_of_length_le h, getD_out h]; simp
theorem uval_set {ds : List Int} {j : Nat} (hj : j < ds.length) (v : Int) : uval (ds.set j v) = uval ds + P64 j * (v - ds.getD j 0) := by
  induction ds generalizing j with
  | nil => cases hj
  | cons d t ih =>
    cases j with
    | zero => simp [uval, P64_0]; omega
    | succ j =>
      have hj' : j < t.length := by simpa using hj
      rw [List.set_cons_succ, uval, uval, ih hj', P64_succ, List.getD_cons_succ, Int.mul_add, Int.mul_assoc]; omega
theorem WordsOk.set {ds : List Int} (h : WordsOk ds) {v : Int} (hv : Wd v) (j : Nat) : WordsOk (ds.set j v) := fun x hx => by
  rcases List.mem_or_eq_of_mem_set hx with h' | h'
  · exact h x h'
  · rw [h']; exact hv
theorem WordsOk.get {ws : List Int} (h : WordsOk ws) (i : Nat) : Wd (ws.getD i 0) := by
  by_cases hi : i < ws.length
  · rw [getD_in' hi]; exact h _ (List.getElem_mem hi)
  · rw [getD_out (by omega)]; exact ⟨by decide, by decide⟩

/-- one step of the product: what the two sums with carry make of it -/
theorem mul_step {x y o c : Int} (hx : Wd x) (hy : Wd y) (ho : Wd o) (hc : Wd c) :
    Wd (x * y / 18446744073709551616) ∧ Wd (x * y % 18446744073709551616) ∧
    (0 ≤ (x * y % 18446744073709551616 + o) / 18446744073709551616 ∧ (x * y % 18446744073709551616 + o) / 18446744073709551616 ≤ 1) ∧ Wd ((x * y % 18446744073709551616 + o) % 18446744073709551616) ∧
    Wd (x * y / 18446744073709551616 + (x * y % 18446744073709551616 + o) / 18446744073709551616) ∧
    ((x * y % 18446744073709551616 + o) % 18446744073709551616 + c) % 18446744073709551616 = (x * y + o + c) % 18446744073709551616 ∧
    x * y / 18446744073709551616 + (x * y % 18446744073709551616 + o) / 18446744073709551616 + ((x * y % 18446744073709551616 + o) % 18446744073709551616 + c) / 18446744073709551616 = (x * y + o + c) / 18446744073709551616 ∧
    Wd ((x * y + o + c) / 18446744073709551616) ∧ Wd ((x * y + o + c) % 18446744073709551616) := by
  obtain ⟨x0, x1⟩ := hx
  obtain ⟨y0, y1⟩ := hy
  obtain ⟨o0, o1⟩ := ho
  obtain ⟨c0, c1⟩ := hc
  have h1 : 0 ≤ x * y := Int.mul_nonneg x0 y0
  have h2 : x * y ≤ 18446744073709551615 * 18446744073709551615 := Int.mul_le_mul (by omega) (by omega) y0 (by decide)
  generalize x * y = p at *
  have h3 : p ≤ 340282366920938463426481119284349108225 := h2
  refine ⟨⟨?_, ?_⟩, ⟨?_, ?_⟩, ⟨?_, ?_⟩, ⟨?_, ?_⟩, ⟨?_, ?_⟩, ?_, ?_, ⟨?_, ?_⟩, ⟨?_, ?_⟩⟩ <;> omega

/-- the product so far: all of the first i words, and of the next one as many as k of the other number's -/
structure Prw (xs ys : List Int) (n i k : Nat) (out : List Int) (c : Int) : Prop where
  ok : WordsOk out
  len : out.length = n
  sum : uval out + P64 (i + k) * c = uval (xs.take i) * uval ys + P64 i * (xs.getD i 0 * uval (ys.take k))
  far : ∀ j, i + ys.length ≤ j → out.getD j 0 = 0
  cw : Wd c
theorem Prw.start {xs ys : List Int} {n i : Nat} {out : List Int} (h1 : WordsOk out) (h2 : out.length = n) (h3 : uval out = uval (xs.take i) * uval ys) (h4 : ∀ j, i + ys.length ≤ j → out.getD j 0 = 0) : Prw xs ys n i 0 out 0 :=
  ⟨h1, h2, by rw [h3]; simp [uval], h4, by decide, by decide⟩
theorem Prw.step {xs ys : List Int} {n i k : Nat} {out : List Int} {c x y a : Int} (h : Prw xs ys n i k out c) (dx : WordsOk xs) (dy : WordsOk ys) (hk : k < ys.length) (hn : i + ys.length ≤ n)
    (hx : x = xs.getD i 0) (hy : y = ys.getD k 0) (ha : a = out.getD (i + k) 0) :
    Prw xs ys n i (k + 1) (out.set (i + k) ((x * y + a + c) % 18446744073709551616)) ((x * y + a + c) / 18446744073709551616) := by
  have b := mul_step (hx ▸ dx.get i) (hy ▸ dy.get k) (ha ▸ h.ok.get (i + k)) h.cw
  obtain ⟨_, _, _, _, _, _, _, b1, b2⟩ := b
  refine ⟨h.ok.set b2 _, by rw [List.length_set]; exact h.len, ?_, fun j hj => ?_, b1⟩
  · rw [uval_set (by rw [h.len]; omega), ← ha, uval_take_succ, ← hx, ← hy, ← Nat.add_assoc, P64_succ]
    have e1 := h.sum
    rw [← hx] at e1
    have e3 : 18446744073709551616 * P64 (i + k) * ((x * y + a + c) / 18446744073709551616) = P64 (i + k) * (18446744073709551616 * ((x * y + a + c) / 18446744073709551616)) := by rw [Int.mul_comm 18446744073709551616, Int.mul_assoc]
    have e4 : P64 (i + k) * ((x * y + a + c) % 18446744073709551616 - a) + P64 (i + k) * (18446744073709551616 * ((x * y + a + c) / 18446744073709551616)) = P64 (i + k) * (x * y) + P64 (i + k) * c := by
      rw [← Int.mul_add, ← Int.mul_add]
      have e6 : (x * y + a + c) % 18446744073709551616 - a + 18446744073709551616 * ((x * y + a + c) / 18446744073709551616) = x * y + c := by
        generalize x * y = p at *
        omega
      rw [e6]
    have e5 : P64 i * (x * (uval (ys.take k) + P64 k * y)) = P64 i * (x * uval (ys.take k)) + P64 (i + k) * (x * y) := by
      rw [Int.mul_add, Int.mul_add, P64_add, Int.mul_assoc (P64 i), Int.mul_left_comm x]
    rw [e5, e3]; omega
  · rw [getD_set_ne (by omega)]; exact h.far j hj
theorem Prw.row {xs ys : List Int} {n i : Nat} {out : List Int} {c : Int} (h : Prw xs ys n i ys.length out c) (hn : i + ys.length < n) :
    Prw xs ys n (i + 1) 0 (out.set (i + ys.length) c) 0 := by
  have a0 := h.far _ (Nat.le_refl _)
  refine Prw.start (h.ok.set h.cw _) (by rw [List.length_set]; exact h.len) ?_ fun j hj => ?_
  · rw [uval_set (by rw [h.len]; omega), a0, Int.sub_zero, h.sum, List.take_of_length_le (Nat.le_refl _), uval_take_succ, Int.add_mul, Int.mul_assoc]
  · rw [getD_set_ne (by omega)]; exact h.far j (by omega)
theorem uval_repl (n : Nat) : uval (List.replicate n 0) = 0 := by
  induction n with
  | zero => rfl
  | succ n ih => rw [List.replicate_succ, uval, ih]; rfl
theorem Prw.zero (xs ys : List Int) (n : Nat) : Prw xs ys n 0 0 (List.replicate n 0) 0 := by
  refine Prw.start (fun x hx => by rw [(List.mem_replicate.1 hx).2]; exact ⟨by decide, by decide⟩) (List.length_replicate ..) (by rw [uval_repl]; simp [uval]) fun j _ => ?_
  rcases Nat.lt_or_ge j n with h | h
  · rw [getD_in' (by rw [List.length_replicate]; exact h)]; simp
  · exact getD_out (by rw [List.length_replicate]; exact h)
theorem Prw.all {xs ys : List Int} {n : Nat} {out : List Int} {c : Int} (h : Prw xs ys n xs.length 0 out c) (hc : c = 0) : WordsOk out ∧ uval out = uval xs * uval ys := by
  refine ⟨h.ok, ?_⟩
  have := h.sum
  rw [hc, Int.mul_zero, Int.add_zero, List.take_of_length_le (Nat.le_refl _)] at this
  rw [this]; simp [uval]

/-- eight words: the four high ones are 0 just if the number is below 2^256; then the low ones are its words -/
theorem eight {o0 o1 o2 o3 o4 o5 o6 o7 p : Int} (h : WordsOk [o0, o1, o2, o3, o4, o5, o6, o7]) (hp : uval [o0, o1, o2, o3, o4, o5, o6, o7] = p) :
    eq4 o4 o5 o6 o7 0 0 0 0 = decide (p < b256) ∧ (p < b256 → o0 = wd0 p ∧ o1 = wd1 p ∧ o2 = wd2 p ∧ o3 = wd3 p) := by
  have g0 : Wd o0 := h _ (by simp)
  have g1 : Wd o1 := h _ (by simp)
  have g2 : Wd o2 := h _ (by simp)
  have g3 : Wd o3 := h _ (by simp)
  have g4 : Wd o4 := h _ (by simp)
  have g5 : Wd o5 := h _ (by simp)
  have g6 : Wd o6 := h _ (by simp)
  have g7 : Wd o7 := h _ (by simp)
  have e : p = un4 o0 o1 o2 o3 + b256 * un4 o4 o5 o6 o7 := by
    rw [← hp]; simp only [uval, un4, b64, b128, b192, b256]; omega
  have l := un4_bd g0 g1 g2 g3
  have k := un4_bd g4 g5 g6 g7
  have z : eq4 o4 o5 o6 o7 0 0 0 0 = decide (un4 o4 o5 o6 o7 = 0) := by
    obtain ⟨p4, q4⟩ := g4; obtain ⟨p5, q5⟩ := g5; obtain ⟨p6, q6⟩ := g6; obtain ⟨p7, q7⟩ := g7
    rw [Bool.eq_iff_iff, decide_eq_true_iff]
    unfold eq4 un4 b64 b128 b192
    simp only [Bool.and_eq_true, beq_iff_eq]
    constructor
    · rintro ⟨⟨⟨h0, h1⟩, h2⟩, h3⟩; omega
    · intro h; exact ⟨⟨⟨by omega, by omega⟩, by omega⟩, by omega⟩
  have hz : p < b256 ↔ un4 o4 o5 o6 o7 = 0 := by
    constructor
    · intro hlt
      rcases Int.lt_or_eq_of_le k.1 with h | h
      · have : b256 * 1 ≤ b256 * un4 o4 o5 o6 o7 := Int.mul_le_mul_of_nonneg_left (by omega) (by decide)
        omega
      · exact h.symm
    · intro h; rw [h] at e; omega
  refine ⟨by rw [z, Bool.eq_iff_iff, decide_eq_true_iff, decide_eq_true_iff, hz], fun hlt => ?_⟩
  have e2 : p = un4 o0 o1 o2 o3 := by rw [e, hz.1 hlt, Int.mul_zero, Int.add_zero]
  rw [e2]
  exact ⟨(wd0_un4 g0).symm, (wd1_un4 g0 g1).symm, (wd2_un4 g0 g1 g2).symm, (wd3_un4 g0 g1 g2 g3).symm⟩
end Go.Proofs.Ytlcbomjdbdgbmaa
namespace Go.Proofs.Ytlcbomjdbdgbmaa
open Go.RowKit

def dw (ds : List Int) : List Value := ds.map (Value.int .u64)
theorem dw_get {ds : List Int} {j : Nat} (h : j < ds.length) : (dw ds).toArray[j]? = some (.int .u64 (ds.getD j 0)) := by
  unfold dw; simp [h]
theorem dw_put (ds : List Int) (j : Nat) (v : Int) : (dw ds).toArray.setIfInBounds j (.int .u64 v) = (dw (ds.set j v)).toArray := by
  unfold dw; rw [List.setIfInBounds_toArray, List.map_set]
/-- the four words of a number -/
def ws4 (x : Int) : List Int := [wd0 x, wd1 x, wd2 x, wd3 x]
theorem ws4_ok (x : Int) : WordsOk (ws4 x) := by
  intro d hd
  simp only [ws4, List.mem_cons, List.not_mem_nil, or_false] at hd
  rcases hd with rfl | rfl | rfl | rfl
  · exact wd0_Wd x
  · exact wd1_Wd x
  · exact wd2_Wd x
  · exact wd3_Wd x
theorem uval_ws4 (x : Int) : uval (ws4 x) = x % b256 := by
  rw [← un4_wd]
  simp only [ws4, uval, un4, b64, b128, b192]; omega
theorem Var.at {w : World} {b : Nat} {x : Int} (h : Var w b x) {i : Nat} (hi : i < 4) : w.cell? ⟨b, i, none⟩ = some (.int .u64 ((ws4 x).getD i 0)) := by
  rw [Blk.cell h]
  match i, hi with
  | 0, _ => rfl
  | 1, _ => rfl
  | 2, _ => rfl
  | 3, _ => rfl

/-- where the product stands -/
structure MulW (w : World) (a b : Int) (b1 b2 b3 : Nat) (out : List Int) (wr : World) : Prop where
  ka : Var wr w.heap.size a
  kb : Var wr (w.heap.size + 1) b
  k0 : Var wr (w.heap.size + 1 + 1) 0
  kx : Var wr b1 (sz a)
  ky : Var wr b2 (sz b)
  ko : Blk wr b3 (dw out).toArray 173
  len : out.length = 8
  l1 : b1 < b3
  l2 : b2 < b3
  l3 : w.heap.size + 1 + 1 < b3
  below : Below w.heap.size w wr
theorem MulW.of {w : World} {a b : Int} {b1 b2 b3 : Nat} {out : List Int} {wr w' : World} (h : MulW w a b b1 b2 b3 out wr) (hn : Below wr.heap.size wr w') : MulW w a b b1 b2 b3 out w' :=
  ⟨h.ka.of hn, h.kb.of hn, h.k0.of hn, h.kx.of hn, h.ky.of hn, h.ko.of hn, h.len, h.l1, h.l2, h.l3, h.below.trans (hn.mono h.below.size)⟩
theorem MulW.put {w : World} {a b : Int} {b1 b2 b3 : Nat} {out : List Int} {wr : World} (h : MulW w a b b1 b2 b3 out wr) (j : Nat) (v : Int) : MulW w a b b1 b2 b3 (out.set j v) (wr.setCell ⟨b3, j, none⟩ (.int .u64 v)) := by
  have h1 := h.l1; have h2 := h.l2; have h3 := h.l3
  exact ⟨h.ka.set (by omega) _ _ _, h.kb.set (by omega) _ _ _, h.k0.set (by omega) _ _ _, h.kx.set (by omega) _ _ _, h.ky.set (by omega) _ _ _, by rw [← dw_put]; exact Blk.put h.ko _ _, by rw [List.length_set]; exact h.len, h1, h2, h3, h.below.setCell (by show _ ≤ b3; omega) _⟩
theorem MulW.outc {w : World} {a b : Int} {b1 b2 b3 : Nat} {out : List Int} {wr : World} (h : MulW w a b b1 b2 b3 out wr) {j : Nat} (hj : j < 8) : wr.cell? ⟨b3, j, none⟩ = some (.int .u64 (out.getD j 0)) := by
  rw [h.ko.cell]; exact dw_get (by rw [h.len]; exact hj)

@[go_sem] theorem run_eq23 (a0 a1 a2 a3 b0 b1 b2 b3 : Int) (w : World) :
    (Op.equalIn 10000 34 (.agg #[.int .u64 a0, .int .u64 a1, .int .u64 a2, .int .u64 a3]) (.agg #[.int .u64 b0, .int .u64 b1, .int .u64 b2, .int .u64 b3])).run Try.prog w = .ok (eq4 a0 a1 a2 a3 b0 b1 b2 b3) w := by
  have hu : Try.prog.underlying 34 = some (.array 4 33) := by kernel_rfl
  have hs : ∀ w, (sizeOf 33).run Try.prog w = .ok 1 w := fun w => by kernel_rfl
  have he : ∀ (a b : Int) w, (Op.equalIn 9999 33 (.int .u64 a) (.int .u64 b)).run Try.prog w = .ok (a == b) w := fun a b w => run_equalIn_int w 9998 _ .u64 .u64 a b (by kernel_rfl)
  have hp : ∀ (c : Array Value) (i : Nat) (v : Value) w, c[i]? = some v → (part 33 c i).run Try.prog w = .ok v w := by
    intro c i v w h
    have ha : (isAgg 33).run Try.prog w = .ok false w := by kernel_rfl
    unfold part
    simp [Sem.run_bind, ha, h]
  show (Op.equalIn (9999 + 1) _ _ _).run _ _ = _
  unfold Op.equalIn
  simp only [Sem.run_bind, run_underlying hu, Result.andThen_ok, hs]
  simp [List.range', he, hp, Sem.run_bind]
  unfold eq4
  by_cases h0 : a0 = b0 <;> by_cases h1 : a1 = b1 <;> by_cases h2 : a2 = b2 <;> by_cases h3 : a3 = b3 <;> simp [h0, h1, h2, h3]
@[go_sem] theorem run_arrayAt4 (a : Option Addr) (c : Nat) (w : World) : (Instr.arrayAt 34 (.slice a 4 c)).run Try.prog w = .ok (.pointer a) w := by
  have hu : Try.prog.underlying 34 = some (.array 4 33) := by kernel_rfl
  unfold Instr.arrayAt
  simp only [Sem.run_bind, run_underlying hu, Result.andThen_ok]
  rfl
@[go_sem] theorem run_arrayAtI (a : Option Addr) (c : Nat) (w : World) : (Instr.arrayAt 35 (.slice a 4 c)).run Try.prog w = .ok (.pointer a) w := by
  have hu : Try.prog.underlying 35 = some (.array 4 33) := by kernel_rfl
  unfold Instr.arrayAt
  simp only [Sem.run_bind, run_underlying hu, Result.andThen_ok]
  rfl
theorem signedk_is (x : Int) (b k : Bool) (hk : sgB x b = k) (w : World) :
    Calls Try.prog 139 #[wI x, .bool b] w fun e w' => e = .returned (.tuple #[wI (bif k then sgV x b else 0), .bool k]) ∧ Below w.heap.size w w' := hk ▸ signed_any x b w
theorem below_of_eq {w w' : World} (h : w = w') : Below w.heap.size w w' := h ▸ Below.refl _ _
theorem add64_0 {l o l1 m1 : Int} (hl : Wd l) (ho : Wd o) (h1 : l1 = (l + o) % 18446744073709551616) (h2 : m1 = (l + o) / 18446744073709551616) (w : World) : (callFunc 146 #[.int .u64 l, .int .u64 o, .int .u64 0]).run Try.prog w = .ok (.value (.tuple #[.int .u64 l1, .int .u64 m1])) w := by
  rw [add64 l o 0 hl ho (by decide) (by decide), Int.add_zero, ← h1, ← h2]

set_option maxRecDepth 100000 in
set_option maxHeartbeats 4000000 in
theorem Mul_go (a b : Int) (w : World) (u : Bool) (hu : (ng a == ng b) = !u) (P : Int) (hP : sz a % b256 * (sz b % b256) = P) (z : Bool) (hz : decide (P < b256) = z) (s : Bool) (hs : sgB P u = s) :
    Calls Try.prog 124 #[wI a, wI b] w fun e w' => e = .returned (.tuple #[wI (bif z && s then sgV P u else 0), .bool (z && s)]) ∧ Below w.heap.size w w' := by
  have HU := Lib.hid hu
  have HP := Lib.hid hP
  have HZ := Lib.hid hz
  have HS := Lib.hid hs
  clear hu hP hz hs
  go_enter Try.func124, Try.ntmps124
  go_wp2_with fail
  refine name_world ?_
  intro W hW
  have ka : Var W w.heap.size a := by rw [hW]; exact ((Blk.new _ _ _).alloc _).alloc _
  have kb : Var W (w.heap.size + 1) b := by rw [hW]; exact (Blk.new1 _ _ _ _).alloc _
  have k0 : Var W (w.heap.size + 1 + 1) 0 := by rw [hW]; exact Blk.new2 _ _ _ _ _
  have hb0 : Below w.heap.size w W := by rw [hW]; exact (((Below.refl _ _).alloc (Nat.le_refl _) _).alloc (by simp) _).alloc (by simp; omega) _
  clear hW
  have ca := Var.c ka
  have cb := Var.c kb
  have la := ka.lt
  have lb := kb.lt
  have KA := Lib.hid ka
  have KB := Lib.hid kb
  have K0 := Lib.hid k0
  clear ka kb k0
  refine wp_region_FG2 6 4 5 [(0, 0), (0, 2), (1, 1), (1, 3)] [(3, 6), (3, 7)] (by kernel_rfl) (by kernel_rfl) (fun _ _ d _ _ => by cases d <;> exact Iff.rfl) rfl rfl rfl allocI rfl rfl rfl allocI rfl ?_
  have hb : Below W.heap.size W W.drew := (Below.refl _ _).drew
  iterate 2
    refine wpFG_take0 rfl rfl ?_
    go_big_quiet_step (rfl)
    refine wpQuiet_nil ?_
  refine wpFG_do rfl ?_
  intro w1 hg K hK
  replace hb := hb.trans (hg.mono hb.size)
  clear hg
  go_wp2_with ((go_at_call 136; refine (size_any _ _).mono ?_; rintro e w2 ⟨rfl, hn⟩))
  refine hK.out _ _ hn ?_
  replace hb := hb.trans (hn.mono hb.size)
  clear hK K
  clear hn
  refine wpFG_do rfl ?_
  intro w1 hg K hK
  replace hb := hb.trans (hg.mono hb.size)
  clear hg
  go_wp2_with ((go_at_call 136; refine (size_any _ _).mono ?_; rintro e w2 ⟨rfl, hn⟩))
  refine hK.out _ _ hn ?_
  replace hb := hb.trans (hn.mono hb.size)
  clear hK K
  clear hn
  refine wpFG_nil ?_
  clear hb
  intro w1 hg hb b1 b2 hne lb1 nb1 lb2 nb2
  clear hg
  simp only [Act.put, ptrTo, List.setIfInBounds_toArray, List.set_cons_succ, List.set_cons_zero]
  have c1 := Var.c (show Var w1 b1 0 from nb1)
  have f1 := Var.f (show Var w1 b1 0 from nb1)
  have c2 := Var.c (show Var w1 b2 0 from nb2)
  have f2 := Var.f (show Var w1 b2 0 from nb2)
  clear ca cb la lb
  refine wpG_do3 rfl ?_
  intro K hK
  go_wp2_with (fail)
  refine hK.out _ _ ?_
  clear hK K
  refine wpG_do3 rfl ?_
  intro K hK
  go_wp2_with (fail)
  refine hK.out _ _ ?_
  clear hK K
  refine wpG_nil ?_
  refine list_world ?_
  intro V hV
  have g1 : Var w1 b1 0 := nb1
  have g2 : Var w1 b2 0 := nb2
  have h12 : b1 ≠ b2 := hne
  have na : w.heap.size ≠ b1 ∧ w.heap.size ≠ b2 := by have := KA.out.lt; omega
  have nb : w.heap.size + 1 ≠ b1 ∧ w.heap.size + 1 ≠ b2 := by have := KB.out.lt; omega
  have n0 : w.heap.size + 1 + 1 ≠ b1 ∧ w.heap.size + 1 + 1 ≠ b2 := by have := K0.out.lt; omega
  have hge1 : w.heap.size ≤ b1 := Nat.le_trans hb0.size lb1
  have hge2 : w.heap.size ≤ b2 := Nat.le_trans hb0.size lb2
  have kx : Var V b1 (sz a) := by rw [hV]; exact Blk.set4 (Var.put4 g1 _) h12 _ _ _ _
  have ky : Var V b2 (sz b) := by rw [hV]; exact Var.put4 (Blk.set4 g2 h12.symm _ _ _ _) _
  have ka : Var V w.heap.size a := by rw [hV]; exact Blk.set4 (Blk.set4 (KA.out.of hb) na.1 _ _ _ _) na.2 _ _ _ _
  have kb : Var V (w.heap.size + 1) b := by rw [hV]; exact Blk.set4 (Blk.set4 (KB.out.of hb) nb.1 _ _ _ _) nb.2 _ _ _ _
  have k0 : Var V (w.heap.size + 1 + 1) 0 := by rw [hV]; exact Blk.set4 (Blk.set4 (K0.out.of hb) n0.1 _ _ _ _) n0.2 _ _ _ _
  have hbV : Below w.heap.size w V := by rw [hV]; exact below_set4 (below_set4 (hb0.trans (hb.mono hb0.size)) hge1 _ _ _ _) hge2 _ _ _ _
  clear hV g1 g2 nb1 nb2 c1 f1 c2 f2 lb1 lb2 hb KA KB K0 hb0 na nb n0 hge1 hge2 h12 hne
  go_wp2_with fail
  refine name_world ?_
  intro W hW
  have hd0 : MulW w a b b1 b2 V.heap.size (List.replicate 8 0) W := by
    rw [hW]
    exact ⟨ka.alloc _, kb.alloc _, k0.alloc _, kx.alloc _, ky.alloc _, Blk.new _ _ _, rfl, kx.lt, ky.lt, k0.lt, hbV.alloc hbV.size _⟩
  clear hW ka kb k0 kx ky hbV
  obtain ⟨b3, hb3⟩ : ∃ b3, b3 = V.heap.size := ⟨_, rfl⟩
  rw [← hb3] at hd0 ⊢
  clear hb3 V
  go_loopw [19] (fun i wr => ∃ (k : Nat) (out : List Int), k ≤ 4 ∧ i = .int .i64 k ∧ Hid (Prw (ws4 (sz a)) (ws4 (sz b)) 8 k 0 out 0) ∧ MulW w a b b1 b2 b3 out wr) (fun i _ => 4 - (intOf i).toNat)
  case atStart => exact ⟨0, _, Nat.zero_le _, rfl, Prw.zero _ _ _, hd0⟩
  case round =>
    clear hd0 W
    rename World => wr
    obtain ⟨i, out, hi, rfl, hp, hd⟩ := hrel
    by_cases h1 : i < 4
    · have ha4 : (i : Int) < 4 := by omega
      have HD := Lib.hid hd
      clear hd
      go_wp2_with fail
      obtain ⟨wo, rfl⟩ : ∃ wo : World, wo = wr := ⟨_, rfl⟩
      have hd := HD.out
      clear HD
      go_loopw [10, 22] (fun c k wr => ∃ (j : Nat) (cv : Int) (out : List Int), j ≤ 4 ∧ k = .int .i64 j ∧ c = .int .u64 cv ∧ Hid (Prw (ws4 (sz a)) (ws4 (sz b)) 8 i j out cv) ∧ MulW w a b b1 b2 b3 out wr) (fun _ k _ => 4 - (intOf k).toNat)
      case atStart => exact ⟨0, 0, out, Nat.zero_le _, rfl, rfl, hp, hd⟩
      case round =>
        clear hd hp
        rename World => wi
        obtain ⟨j, cv, out, hj, rfl, rfl, hp, hd⟩ := hrel
        by_cases h2 : j < 4
        · obtain ⟨x, hx⟩ : ∃ x, x = (ws4 (sz a)).getD i 0 := ⟨_, rfl⟩
          obtain ⟨y, hy⟩ : ∃ y, y = (ws4 (sz b)).getD j 0 := ⟨_, rfl⟩
          obtain ⟨o, ho⟩ : ∃ o, o = out.getD (i + j) 0 := ⟨_, rfl⟩
          have hst := hp.out.step (ws4_ok _) (ws4_ok _) (show j < 4 from h2) (show i + 4 ≤ 8 by omega) hx hy ho
          have wx : Wd x := hx ▸ (ws4_ok _).get i
          have wy : Wd y := hy ▸ (ws4_ok _).get j
          have wo' : Wd o := ho ▸ hp.out.ok.get _
          have wc := hp.out.cw
          obtain ⟨m0, m1, m2, m3, m4, m5, m6, m7, m8⟩ := mul_step wx wy wo' wc
          have c1 := hd.kx.at h1
          have c2 := hd.ky.at h2
          have c3 := hd.outc (j := i + j) (by omega)
          rw [← hx] at c1
          rw [← hy] at c2
          rw [← ho] at c3
          obtain ⟨hi', hhi⟩ : ∃ h, h = x * y / 18446744073709551616 := ⟨_, rfl⟩
          obtain ⟨l, hl⟩ : ∃ h, h = x * y % 18446744073709551616 := ⟨_, rfl⟩
          rw [← hl] at m1 m2 m3 m4 m5 m6
          rw [← hhi] at m0 m4 m6
          obtain ⟨l1, hl1⟩ : ∃ h, h = (l + o) % 18446744073709551616 := ⟨_, rfl⟩
          obtain ⟨mo, hmo⟩ : ∃ h, h = (l + o) / 18446744073709551616 := ⟨_, rfl⟩
          have A1 := fun w => add64_0 m1 wo' hl1 hmo w
          rw [← hl1] at m3 m5 m6
          rw [← hmo] at m2 m4 m6
          obtain ⟨l2, hl2⟩ : ∃ h, h = (l1 + cv) % 18446744073709551616 := ⟨_, rfl⟩
          obtain ⟨mp, hmp⟩ : ∃ h, h = (l1 + cv) / 18446744073709551616 := ⟨_, rfl⟩
          have A2 := fun w => add64_0 m3 wc hl2 hmp w
          rw [← hl2] at m5
          rw [← hmp] at m6
          obtain ⟨h1', hh1⟩ : ∃ h, h = hi' + mo := ⟨_, rfl⟩
          obtain ⟨h2', hh2⟩ : ∃ h, h = h1' + mp := ⟨_, rfl⟩
          rw [← hh1] at m4 m6
          rw [← hh2] at m6
          rw [← m6, ← m5] at hst
          rw [← m6] at m7
          have W1 : IntKind.u64.wrap (hi' + mo) = h1' := by rw [← hh1]; exact IntWalk.u64_in _ (by have := m4.lo; have := m4.hi; omega)
          have W2 : IntKind.u64.wrap (h1' + mp) = h2' := by rw [← hh2]; exact IntWalk.u64_in _ (by have := m7.lo; have := m7.hi; omega)
          have TM := fun w => mul64_any x y wx wy w
          rw [← hhi, ← hl] at TM
          have HM := Lib.hid TM
          have OE := Lib.hid ho.symm
          have ST := Lib.hid hst
          have lx := hd.kx.lt
          have ly := hd.ky.lt
          have HD := Lib.hid hd
          clear hst hx hy ho wx wy wo' wc m0 m1 m2 m3 m4 m5 m6 m7 m8 hhi hl hl1 hmo hl2 hmp hh1 hh2 TM hd hp
          go_wp2_with fail
          have hb4 : (j : Int) < 4 := by omega
          refine wp_region_up wi.heap.size 11 [(true, 0), (true, 1), (true, 2), (true, 3), (true, 4), (true, 5), (false, 6), (true, 7), (true, 8), (true, 9), (true, 10)] (by kernel_rfl) (by kernel_rfl) (fun _ _ d _ _ h => by cases d <;> exact h) ?_
          have hb : Below wi.heap.size wi wi.drew := (Below.refl _ _).drew
          iterate 6
            refine wpS_takeL rfl rfl ?_
            go_big_quiet_step (rfl)
            refine wpQuiet_nil ?_
          refine wpS_doL rfl ?_
          intro K hK
          go_wp2_with ((go_at_call 145; refine (HM.out _).mono ?_; rintro e w2 ⟨rfl, hw⟩; have hn := below_of_eq hw))
          replace hb := hb.trans (hn.mono hb.size)
          refine hK.out _ _ (up_iff.2 hb) ?_
          clear hK K
          clear hn
          iterate 4
            refine wpS_takeL rfl rfl ?_
            go_big_quiet_step (rfl)
            refine wpQuiet_nil ?_
          refine wpS_nil ?_
          simp only [List.drop_succ_cons, List.drop_zero]
          have hd := HD.out.of hb
          clear c1 c2 c3 HM hb HD lx ly
          have c3 := hd.outc (j := i + j) (by omega)
          rw [OE.out] at c3
          have f3 := hd.ko.free (i + j)
          have HD := Lib.hid hd
          clear hd
          go_wp2
          go_roundw
          case rel => exact ⟨j + 1, h2', _, by omega, by go_num, rfl, ST.out, HD.out.put _ _⟩
          case measure => simp [intOf]; omega
        · have hj4 : j = 4 := by omega
          subst hj4
          have hst := hp.out.row (show i + 4 < 8 by omega)
          have c3 := hd.outc (j := i + 4) (by omega)
          have f3 := hd.ko.free (i + 4)
          have ST := Lib.hid hst
          have HD := Lib.hid hd
          clear hst hp hd
          go_wp2
          go_roundw
          case rel => exact ⟨i + 1, _, by omega, by go_num, ST.out, HD.out.put _ _⟩
          case measure => simp [intOf]; omega
    · have hi4 : i = 4 := by omega
      subst hi4
      obtain ⟨p1, p2⟩ := hp.out.all rfl
      rw [uval_ws4, uval_ws4, HP.out] at p2
      have hlen := hd.len
      match out, hlen with
      | [o0, o1, o2, o3, o4, o5, o6, o7], _ =>
        obtain ⟨e1, e2⟩ := eight p1 p2
        rw [HZ.out] at e1
        have kc := hd.ko
        have co : (wr.cell? ⟨b3, 0, none⟩ = some (.int .u64 o0) ∧ wr.cell? ⟨b3, 1, none⟩ = some (.int .u64 o1) ∧ wr.cell? ⟨b3, 2, none⟩ = some (.int .u64 o2) ∧ wr.cell? ⟨b3, 3, none⟩ = some (.int .u64 o3)) ∧ (wr.cell? ⟨b3, 4, none⟩ = some (.int .u64 o4) ∧ wr.cell? ⟨b3, 5, none⟩ = some (.int .u64 o5) ∧ wr.cell? ⟨b3, 6, none⟩ = some (.int .u64 o6) ∧ wr.cell? ⟨b3, 7, none⟩ = some (.int .u64 o7)) := ⟨⟨kc.cell 0, kc.cell 1, kc.cell 2, kc.cell 3⟩, kc.cell 4, kc.cell 5, kc.cell 6, kc.cell 7⟩
        have E2 := Lib.hid e2
        have HD := Lib.hid hd
        clear p1 p2 hp kc e2 hd
        cases z
        · have k0 := HD.out.k0
          have c0 := Var.c k0
          have f0 := Var.f k0
          go_wp2
          refine post_world ?_
          intro Wf hWf
          have kf : Var Wf (w.heap.size + 1 + 1) 0 := by rw [hWf]; exact Var.put4 k0 0
          have hbf : Below w.heap.size w Wf := by rw [hWf]; exact below_set4 HD.out.below (by omega) _ _ _ _
          have c := Var.c kf
          clear hWf c0 f0 co
          simp [bodyPost, results, Try.results124, go_sem, c]
          exact hbf
        · have hP : P < b256 := of_decide_eq_true HZ.out
          obtain ⟨q0, q1, q2, q3⟩ := E2.out hP
          subst q0
          subst q1
          subst q2
          subst q3
          clear hP E2
          go_wp2_with fail
          have ca := Var.c HD.out.ka
          have cb := Var.c HD.out.kb
          have la := HD.out.ka.lt
          have lb := HD.out.kb.lt
          have lo := HD.out.ko.lt
          have hu := HU.out
          have co1 := co.1
          clear co
          refine wp_region_up wr.heap.size 11 [(true, 0), (true, 1), (true, 2), (true, 3), (true, 5), (false, 4), (false, 6), (true, 7), (false, 8), (true, 9), (true, 10)] (by kernel_rfl) (by kernel_rfl) (fun _ _ d _ _ h => by cases d <;> exact h) ?_
          have hb : Below wr.heap.size wr wr.drew := (Below.refl _ _).drew
          iterate 5
            refine wpS_takeL rfl rfl ?_
            go_big_quiet_step (rfl)
            refine wpQuiet_nil ?_
          refine wpS_doL rfl ?_
          intro K hK
          go_wp2_with ((first | (go_at_call 88; refine (negative_any _ _).mono ?_; rintro e w2 ⟨rfl, hn⟩) | (go_at_call 139; refine (signedk_is P u s HS.out _).mono ?_; rintro e w3 ⟨rfl, hn⟩)))
          replace hb := hb.trans (hn.mono hb.size)
          refine hK.out _ _ (up_iff.2 hb) ?_
          clear hK K
          clear hn
          refine wpS_doL rfl ?_
          intro K hK
          go_wp2_with ((first | (go_at_call 88; refine (negative_any _ _).mono ?_; rintro e w2 ⟨rfl, hn⟩) | (go_at_call 139; refine (signedk_is P u s HS.out _).mono ?_; rintro e w3 ⟨rfl, hn⟩)))
          replace hb := hb.trans (hn.mono hb.size)
          refine hK.out _ _ (up_iff.2 hb) ?_
          clear hK K
          clear hn
          refine wpS_takeL rfl rfl ?_
          go_big_quiet_step (rfl)
          refine wpQuiet_nil ?_
          refine wpS_doL rfl ?_
          intro K hK
          go_wp2_with ((first | (go_at_call 88; refine (negative_any _ _).mono ?_; rintro e w2 ⟨rfl, hn⟩) | (go_at_call 139; refine (signedk_is P u s HS.out _).mono ?_; rintro e w3 ⟨rfl, hn⟩)))
          replace hb := hb.trans (hn.mono hb.size)
          refine hK.out _ _ (up_iff.2 hb) ?_
          clear hK K
          clear hn
          iterate 2
            refine wpS_takeL rfl rfl ?_
            go_big_quiet_step (rfl)
            refine wpQuiet_nil ?_
          refine wpS_nil ?_
          simp only [List.drop_succ_cons, List.drop_zero]
          have k0 : Var w3 (w.heap.size + 1 + 1) 0 := HD.out.k0.of hb
          have hbb := HD.out.below.trans (hb.mono HD.out.below.size)
          clear ca cb la lb lo hu co1 hb HD
          have c0 := Var.c k0
          have f0 := Var.f k0
          have K0 := Lib.hid k0
          clear k0
          go_wp2
          refine post_world ?_
          intro Wf hWf
          have kf : Var Wf (w.heap.size + 1 + 1) (bif s then sgV P u else 0) := by rw [hWf]; exact Var.put4 K0.out _
          have hbf : Below w.heap.size w Wf := by rw [hWf]; exact below_set4 hbb (by omega) _ _ _ _
          have c := Var.c kf
          clear hWf c0 f0
          simp [bodyPost, results, Try.results124, go_sem, c]
          exact hbf

theorem mul_spec {a b : Int} (ia : InI a) (ib : InI b) (u : Bool) (hu : (ng a != ng b) = u) (P : Int) (hP : sz a * sz b = P) :
    (decide (P < b256) && sgB P u) = okI (a * b) ∧ (bif u then -P else P) = a * b ∧ 0 ≤ P := by
  have ha := sz_in ia
  have hb := sz_in ib
  have na := ng_in ia
  have nb := ng_in ib
  have hp0 : 0 ≤ P := by rw [← hP, ha, hb]; exact Int.mul_nonneg (by omega) (by omega)
  have hv : (bif u then -P else P) = a * b := by
    rw [← hu, ← hP, ha, hb, na, nb]
    rcases Int.lt_or_le a 0 with h1 | h1 <;> rcases Int.lt_or_le b 0 with h2 | h2
    · rw [Int.ofNat_natAbs_of_nonpos (by omega), Int.ofNat_natAbs_of_nonpos (by omega)]; simp [h1, h2, Int.neg_mul_neg]
    · rw [Int.ofNat_natAbs_of_nonpos (by omega), Int.natAbs_of_nonneg h2]; simp [h1, Int.not_lt.2 h2, Int.neg_mul]
    · rw [Int.natAbs_of_nonneg h1, Int.ofNat_natAbs_of_nonpos (by omega)]; simp [h2, Int.not_lt.2 h1, Int.mul_neg]
    · rw [Int.natAbs_of_nonneg h1, Int.natAbs_of_nonneg h2]; simp [Int.not_lt.2 h1, Int.not_lt.2 h2]
  refine ⟨?_, hv, hp0⟩
  rw [← hv]
  rw [Bool.eq_iff_iff]
  unfold okI
  rw [Bool.and_eq_true, decide_eq_true_iff, decide_eq_true_iff]
  unfold sgB InI
  cases u
  · rw [cond_false, cond_false, Bool.not_eq_true', ← Bool.not_eq_true, ng_iff]
    unfold b255 b256 at *; omega
  · rw [cond_true, cond_true, Bool.or_eq_true, ng_iff, eq4_0, decide_eq_true_iff]
    unfold b255 b256 at *; omega

theorem Mul_ok (x y : Int) (w : World) (ix : InI x) (iy : InI y) : Calls Try.prog 124 #[wI x, wI y] w fun e w' => e = .returned (.tuple #[wI (bif okI (x * y) then x * y else 0), .bool (okI (x * y))]) ∧ Below w.heap.size w w' := by
  obtain ⟨u, hu⟩ : ∃ u, (ng x != ng y) = u := ⟨_, rfl⟩
  obtain ⟨P, hP⟩ : ∃ P, sz x * sz y = P := ⟨_, rfl⟩
  obtain ⟨h1, h2, h3⟩ := mul_spec ix iy u hu P hP
  have b1 := sz_bd ix
  have b2 := sz_bd iy
  have e1 : sz x % b256 = sz x := Int.emod_eq_of_lt b1.1 (by unfold b255 b256 at *; omega)
  have e2 : sz y % b256 = sz y := Int.emod_eq_of_lt b2.1 (by unfold b255 b256 at *; omega)
  have T := Mul_go x y w u (by rw [← hu]; cases ng x <;> cases ng y <;> rfl) P (by rw [e1, e2]; exact hP) _ rfl _ rfl
  rw [h1] at T
  unfold sgV at T
  rw [h2] at T
  exact T
theorem Mul_is (x y : Int) (o : Bool) (ho : okI (x * y) = o) (p : Int) (hp : (bif o then x * y else 0) = p) (w : World) (ix : InI x) (iy : InI y) :
    Calls Try.prog 124 #[wI x, wI y] w fun e w' => e = .returned (.tuple #[wI p, .bool o]) ∧ Below w.heap.size w w' := by
  subst ho; subst hp; exact Mul_ok x y w ix iy
theorem Add_is (x y : Int) (o : Bool) (ho : okI (x + y) = o) (p : Int) (hp : (bif o then x + y else 0) = p) (w : World) (ix : InI x) (iy : InI y) :
    Calls Try.prog 122 #[wI x, wI y] w fun e w' => e = .returned (.tuple #[wI p, .bool o]) ∧ Below w.heap.size w w' := by
  subst ho; subst hp; exact Add_ok x y w ix iy
theorem Sub_is (x y : Int) (o : Bool) (ho : okI (x - y) = o) (p : Int) (hp : (bif o then x - y else 0) = p) (w : World) (ix : InI x) (iy : InI y) :
    Calls Try.prog 123 #[wI x, wI y] w fun e w' => e = .returned (.tuple #[wI p, .bool o]) ∧ Below w.heap.size w w' := by
  subst ho; subst hp; exact Sub_ok x y w ix iy
end Go.Proofs.Ytlcbomjdbdgbmaa
namespace Go.Proofs.Ytlcbomjdbdgbmaa
open Go.RowKit

/-- the Go value of a point -/
abbrev pC (x y : Int) : Array Value := #[.int .i64 x, .int .i64 y]
abbrev pI (x y : Int) : Value := .agg (pC x y)
/-- may a number be a coordinate? -/
def inC (x : Int) : Bool := decide (-2199023255552 ≤ x) && decide (x ≤ 2199023255552)

theorem within_any (x : Int) (w : World) : Calls Try.prog 79 #[.int .i64 x] w fun e w' => e = .returned (.bool (inC x)) ∧ Below w.heap.size w w' := by
  unfold inC
  by_cases h : -2199023255552 ≤ x <;> by_cases h2 : x ≤ 2199023255552
  all_goals
    go_enter Try.func79, Try.ntmps79
    go_wp2
    go_ret
    exact ⟨by simp [h, h2], Below.refl _ _⟩

set_option maxRecDepth 100000 in
set_option maxHeartbeats 1000000 in
theorem pttimes_any (x y : Int) (o : Bool) (ho : okI (x * y) = o) (p : Int) (hp : (bif o then x * y else 0) = p) (w : World) (ix : InI x) (iy : InI y) :
    Calls Try.prog 87 #[wI x, wI y] w fun e w' => e = .returned (wI p) ∧ Below w.heap.size w w' := by
  go_enter Try.func87, Try.ntmps87
  go_wp2_with fail
  refine calls_w ?_
  intro W hW
  have kz : Var W (w.heap.size + 1 + 1) 0 := by rw [hW]; exact Blk.new2 _ _ _ _ _
  have hb0 : Below w.heap.size w W := by rw [hW]; exact below_a3 _ _ _ _
  clear hW
  refine (Mul_is x y o ho p hp _ ix iy).mono ?_
  rintro e u1 ⟨rfl, hn⟩
  replace kz : Var u1 _ _ := kz.of hn
  replace hb0 := hb0.trans (hn.mono hb0.size)
  clear hn
  have cz := Var.c kz
  have fz := Var.f kz
  have lz := kz.lt
  have KZ := Lib.hid kz
  clear kz
  go_wp2
  refine post_world ?_
  intro Wf hWf
  have kf : Var Wf (w.heap.size + 1 + 1) p := by rw [hWf]; exact (Var.put4 KZ.out p).alloc _
  have hbf : Below w.heap.size w Wf := by rw [hWf]; exact (below_set4 hb0 (by omega) (.int .u64 (wd0 p)) (.int .u64 (wd1 p)) (.int .u64 (wd2 p)) (.int .u64 (wd3 p))).alloc (by simp only [size_set]; exact hb0.size) _
  have c := Var.c kf
  clear hWf cz
  simp [bodyPost, results, Try.results87, go_sem, c]
  exact hbf
set_option maxRecDepth 100000 in
set_option maxHeartbeats 1000000 in
theorem ptless_any (x y : Int) (o : Bool) (ho : okI (x - y) = o) (p : Int) (hp : (bif o then x - y else 0) = p) (w : World) (ix : InI x) (iy : InI y) :
    Calls Try.prog 86 #[wI x, wI y] w fun e w' => e = .returned (wI p) ∧ Below w.heap.size w w' := by
  go_enter Try.func86, Try.ntmps86
  go_wp2_with fail
  refine calls_w ?_
  intro W hW
  have kz : Var W (w.heap.size + 1 + 1) 0 := by rw [hW]; exact Blk.new2 _ _ _ _ _
  have hb0 : Below w.heap.size w W := by rw [hW]; exact below_a3 _ _ _ _
  clear hW
  refine (Sub_is x y o ho p hp _ ix iy).mono ?_
  rintro e u1 ⟨rfl, hn⟩
  replace kz : Var u1 _ _ := kz.of hn
  replace hb0 := hb0.trans (hn.mono hb0.size)
  clear hn
  have cz := Var.c kz
  have fz := Var.f kz
  have lz := kz.lt
  have KZ := Lib.hid kz
  clear kz
  go_wp2
  refine post_world ?_
  intro Wf hWf
  have kf : Var Wf (w.heap.size + 1 + 1) p := by rw [hWf]; exact (Var.put4 KZ.out p).alloc _
  have hbf : Below w.heap.size w Wf := by rw [hWf]; exact (below_set4 hb0 (by omega) (.int .u64 (wd0 p)) (.int .u64 (wd1 p)) (.int .u64 (wd2 p)) (.int .u64 (wd3 p))).alloc (by simp only [size_set]; exact hb0.size) _
  have c := Var.c kf
  clear hWf cz
  simp [bodyPost, results, Try.results86, go_sem, c]
  exact hbf
set_option maxRecDepth 100000 in
set_option maxHeartbeats 1000000 in
theorem PtRight_any (x y : Int) (w : World) : Calls Try.prog 17 #[pI x y] w fun e w' => e = .returned (.bool (inC x && inC y)) ∧ Below w.heap.size w w' := by
  obtain ⟨bx, hbx⟩ : ∃ b, inC x = b := ⟨_, rfl⟩
  obtain ⟨by', hby⟩ : ∃ b, inC y = b := ⟨_, rfl⟩
  rw [hbx, hby]
  have HX := Lib.hid hbx
  have HY := Lib.hid hby
  clear hbx hby
  go_enter Try.func17, Try.ntmps17
  go_wp2_with fail
  refine (within_any x _).mono ?_
  rintro e w2 ⟨rfl, hn⟩
  rw [HX.out]
  have kp : Blk w2 w.heap.size (pC x y) 24 := (Blk.new w _ _).of hn
  have hb0 := (below_a1 w _).trans (hn.mono (by simp))
  have c0 := kp.cell 0
  have c1 := kp.cell 1
  have l0 := kp.lt
  clear kp
  cases bx
  · go_wp2
    go_ret
    exact ⟨rfl, hb0⟩
  · go_wp2_with fail
    refine (within_any y _).mono ?_
    rintro e w3 ⟨rfl, hn3⟩
    rw [HY.out]
    go_wp2
    go_ret
    exact ⟨by simp, hb0.trans (hn3.mono hb0.size)⟩
end Go.Proofs.Ytlcbomjdbdgbmaa

namespace Go.Proofs.Ytlcbomjdbdgbmaa
open Go.RowKit

/-- a variable that holds a point -/
abbrev PVar (w : World) (b : Nat) (x y : Int) : Prop := Blk w b (pC x y) 24
theorem PVar.c {w : World} {b : Nat} {x y : Int} (h : PVar w b x y) : w.cell? ⟨b, 0, none⟩ = some (.int .i64 x) ∧ w.cell? ⟨b, 1, none⟩ = some (.int .i64 y) := ⟨h.cell 0, h.cell 1⟩

theorem OfD_any (a b d : Int) (h : a - b = d) (g : In64 d) (w : World) : Calls Try.prog 62 #[.int .i64 (wrap64 (a - b))] w fun e w' => e = .returned (wI d) ∧ Below w.heap.size w w' := by
  subst h
  rw [show wrap64 (a - b) = a - b by unfold wrap64; unfold In64 at g; omega]
  exact Of_any _ w g
theorem times_is (x y p : Int) (hp : x * y = p) (hi : InI p) (w : World) (ix : InI x) (iy : InI y) : Calls Try.prog 87 #[wI x, wI y] w fun e w' => e = .returned (wI p) ∧ Below w.heap.size w w' :=
  pttimes_any x y true (by rw [hp]; exact decide_eq_true hi) p (by simpa using hp) w ix iy
theorem less_is (x y p : Int) (hp : x - y = p) (hi : InI p) (w : World) (ix : InI x) (iy : InI y) : Calls Try.prog 86 #[wI x, wI y] w fun e w' => e = .returned (wI p) ∧ Below w.heap.size w w' :=
  ptless_any x y true (by rw [hp]; exact decide_eq_true hi) p (by simpa using hp) w ix iy
theorem in64_I {x : Int} (h : In64 x) : InI x := by unfold In64 at h; unfold InI b255; omega

set_option maxRecDepth 100000 in
set_option maxHeartbeats 1000000 in
theorem turn_go (ax ay bx b_y cx cy d1 d2 d3 d4 p q r : Int) (h1 : bx - ax = d1) (h2 : cy - ay = d2) (h3 : b_y - ay = d3) (h4 : cx - ax = d4) (g1 : In64 d1) (g2 : In64 d2) (g3 : In64 d3) (g4 : In64 d4) (hp : d1 * d2 = p) (hq : d3 * d4 = q) (hr : p - q = r) (ip : InI p) (iq : InI q) (ir : InI r) (w : World) :
    Calls Try.prog 118 #[pI ax ay, pI bx b_y, pI cx cy] w fun e w' => e = .returned (wI r) ∧ Below w.heap.size w w' := by
  have H1 := Lib.hid h1
  have H2 := Lib.hid h2
  have H3 := Lib.hid h3
  have H4 := Lib.hid h4
  have H5 := Lib.hid hp
  have H6 := Lib.hid hq
  have H7 := Lib.hid hr
  clear h1 h2 h3 h4 hp hq hr
  go_enter Try.func118, Try.ntmps118
  go_wp2_with fail
  refine name_world ?_
  intro W hW
  have ka : PVar W w.heap.size ax ay := by rw [hW]; exact (Blk.new w _ _).alloc _ |>.alloc _ |>.alloc _
  have kb : PVar W (w.heap.size + 1) bx b_y := by rw [hW]; exact (Blk.new1 w _ _ _).alloc _ |>.alloc _
  have kc : PVar W (w.heap.size + 1 + 1) cx cy := by rw [hW]; exact (Blk.new2 w _ _ _ _).alloc _
  have kz : Var W (w.heap.size + 1 + 1 + 1) 0 := by rw [hW]; exact Blk.new3 w _ _ _ _ _
  have hb0 : Below w.heap.size w W := by rw [hW]; exact (below_a3 _ _ _ _).alloc (by simp; omega) _
  clear hW
  have ca := PVar.c ka
  have cb := PVar.c kb
  have cc := PVar.c kc
  have la := ka.lt
  have lb := kb.lt
  have lc := kc.lt
  have lz := kz.lt
  have KZ := Lib.hid kz
  clear ka kb kc kz
  refine wp_region_up W.heap.size 24 [(true, 0), (true, 1), (true, 2), (true, 3), (true, 4), (true, 6), (true, 7), (true, 8), (true, 9), (true, 10), (true, 13), (true, 14), (true, 15), (true, 16), (true, 17), (true, 19), (true, 20), (true, 21), (true, 22), (true, 23), (false, 5), (false, 11), (false, 12), (false, 18)] (by kernel_rfl) (by kernel_rfl) (fun _ _ d _ _ h => by cases d <;> exact h) ?_
  have hb : Below W.heap.size W W.drew := (Below.refl _ _).drew
  iterate 20
    refine wpS_takeL rfl rfl ?_
    go_big_quiet_step (rfl)
    refine wpQuiet_nil ?_
  refine wpS_doL rfl ?_
  intro K hK
  go_wp2_with ((first | (go_at_call 62; (with_reducible refine (OfD_any bx ax d1 H1.out g1 _).mono ?_); rintro e w2 ⟨rfl, hn⟩) | (go_at_call 62; (with_reducible refine (OfD_any cy ay d2 H2.out g2 _).mono ?_); rintro e w2 ⟨rfl, hn⟩) | (go_at_call 62; (with_reducible refine (OfD_any b_y ay d3 H3.out g3 _).mono ?_); rintro e w2 ⟨rfl, hn⟩) | (go_at_call 62; (with_reducible refine (OfD_any cx ax d4 H4.out g4 _).mono ?_); rintro e w2 ⟨rfl, hn⟩) | (go_at_call 87; (with_reducible refine (times_is d1 d2 p H5.out ip _ (in64_I g1) (in64_I g2)).mono ?_); rintro e w2 ⟨rfl, hn⟩) | (go_at_call 87; (with_reducible refine (times_is d3 d4 q H6.out iq _ (in64_I g3) (in64_I g4)).mono ?_); rintro e w2 ⟨rfl, hn⟩) | (go_at_call 86; (with_reducible refine (less_is p q r H7.out ir _ ip iq).mono ?_); rintro e w2 ⟨rfl, hn⟩)))
  replace hb := hb.trans (hn.mono hb.size)
  refine hK.out _ _ (up_iff.2 hb) ?_
  clear hK K
  clear hn
  refine wpS_doL rfl ?_
  intro K hK
  go_wp2_with ((first | (go_at_call 62; (with_reducible refine (OfD_any bx ax d1 H1.out g1 _).mono ?_); rintro e w2 ⟨rfl, hn⟩) | (go_at_call 62; (with_reducible refine (OfD_any cy ay d2 H2.out g2 _).mono ?_); rintro e w2 ⟨rfl, hn⟩) | (go_at_call 62; (with_reducible refine (OfD_any b_y ay d3 H3.out g3 _).mono ?_); rintro e w2 ⟨rfl, hn⟩) | (go_at_call 62; (with_reducible refine (OfD_any cx ax d4 H4.out g4 _).mono ?_); rintro e w2 ⟨rfl, hn⟩) | (go_at_call 87; (with_reducible refine (times_is d1 d2 p H5.out ip _ (in64_I g1) (in64_I g2)).mono ?_); rintro e w2 ⟨rfl, hn⟩) | (go_at_call 87; (with_reducible refine (times_is d3 d4 q H6.out iq _ (in64_I g3) (in64_I g4)).mono ?_); rintro e w2 ⟨rfl, hn⟩) | (go_at_call 86; (with_reducible refine (less_is p q r H7.out ir _ ip iq).mono ?_); rintro e w2 ⟨rfl, hn⟩)))
  replace hb := hb.trans (hn.mono hb.size)
  refine hK.out _ _ (up_iff.2 hb) ?_
  clear hK K
  clear hn
  refine wpS_doL rfl ?_
  intro K hK
  go_wp2_with ((first | (go_at_call 62; (with_reducible refine (OfD_any bx ax d1 H1.out g1 _).mono ?_); rintro e w2 ⟨rfl, hn⟩) | (go_at_call 62; (with_reducible refine (OfD_any cy ay d2 H2.out g2 _).mono ?_); rintro e w2 ⟨rfl, hn⟩) | (go_at_call 62; (with_reducible refine (OfD_any b_y ay d3 H3.out g3 _).mono ?_); rintro e w2 ⟨rfl, hn⟩) | (go_at_call 62; (with_reducible refine (OfD_any cx ax d4 H4.out g4 _).mono ?_); rintro e w2 ⟨rfl, hn⟩) | (go_at_call 87; (with_reducible refine (times_is d1 d2 p H5.out ip _ (in64_I g1) (in64_I g2)).mono ?_); rintro e w2 ⟨rfl, hn⟩) | (go_at_call 87; (with_reducible refine (times_is d3 d4 q H6.out iq _ (in64_I g3) (in64_I g4)).mono ?_); rintro e w2 ⟨rfl, hn⟩) | (go_at_call 86; (with_reducible refine (less_is p q r H7.out ir _ ip iq).mono ?_); rintro e w2 ⟨rfl, hn⟩)))
  replace hb := hb.trans (hn.mono hb.size)
  refine hK.out _ _ (up_iff.2 hb) ?_
  clear hK K
  clear hn
  refine wpS_doL rfl ?_
  intro K hK
  go_wp2_with ((first | (go_at_call 62; (with_reducible refine (OfD_any bx ax d1 H1.out g1 _).mono ?_); rintro e w2 ⟨rfl, hn⟩) | (go_at_call 62; (with_reducible refine (OfD_any cy ay d2 H2.out g2 _).mono ?_); rintro e w2 ⟨rfl, hn⟩) | (go_at_call 62; (with_reducible refine (OfD_any b_y ay d3 H3.out g3 _).mono ?_); rintro e w2 ⟨rfl, hn⟩) | (go_at_call 62; (with_reducible refine (OfD_any cx ax d4 H4.out g4 _).mono ?_); rintro e w2 ⟨rfl, hn⟩) | (go_at_call 87; (with_reducible refine (times_is d1 d2 p H5.out ip _ (in64_I g1) (in64_I g2)).mono ?_); rintro e w2 ⟨rfl, hn⟩) | (go_at_call 87; (with_reducible refine (times_is d3 d4 q H6.out iq _ (in64_I g3) (in64_I g4)).mono ?_); rintro e w2 ⟨rfl, hn⟩) | (go_at_call 86; (with_reducible refine (less_is p q r H7.out ir _ ip iq).mono ?_); rintro e w2 ⟨rfl, hn⟩)))
  replace hb := hb.trans (hn.mono hb.size)
  refine hK.out _ _ (up_iff.2 hb) ?_
  clear hK K
  clear hn
  refine wpS_nil ?_
  simp only [List.drop_succ_cons, List.drop_zero]
  clear ca cb cc la lb lc
  replace hb0 := hb0.trans (hb.mono hb0.size)
  replace KZ := Lib.hid (KZ.out.of hb)
  clear hb
  go_wp2_with fail
  refine (OfD_any cx ax d4 H4.out g4 _).mono ?_
  rintro e u1 ⟨rfl, hn⟩
  replace hb0 := hb0.trans (hn.mono hb0.size)
  replace KZ := Lib.hid (KZ.out.of hn)
  clear hn
  go_wp2_with fail
  refine (times_is d3 d4 q H6.out iq _ (in64_I g3) (in64_I g4)).mono ?_
  rintro e u2 ⟨rfl, hn⟩
  replace hb0 := hb0.trans (hn.mono hb0.size)
  replace KZ := Lib.hid (KZ.out.of hn)
  clear hn
  go_wp2_with fail
  refine (less_is p q r H7.out ir _ ip iq).mono ?_
  rintro e u3 ⟨rfl, hn⟩
  replace hb0 := hb0.trans (hn.mono hb0.size)
  replace KZ := Lib.hid (KZ.out.of hn)
  clear hn
  have cz := Var.c KZ.out
  have fz := Var.f KZ.out
  have lz := KZ.out.lt
  go_wp2
  refine post_world ?_
  intro Wf hWf
  have kf : Var Wf (w.heap.size + 1 + 1 + 1) r := by rw [hWf]; exact Var.put4 KZ.out r
  have hbf : Below w.heap.size w Wf := by rw [hWf]; exact below_set4 hb0 (by omega) (.int .u64 (wd0 r)) (.int .u64 (wd1 r)) (.int .u64 (wd2 r)) (.int .u64 (wd3 r))
  have c := Var.c kf
  clear hWf cz
  simp [bodyPost, results, Try.results118, go_sem, c]
  exact hbf

/-- is a number a coordinate? -/
def Co (x : Int) : Prop := -2199023255552 ≤ x ∧ x ≤ 2199023255552
/-- the turn of three -/
def trn (ax ay bx b_y cx cy : Int) : Int := (bx - ax) * (cy - ay) - (b_y - ay) * (cx - ax)
theorem co_sub {x y : Int} (hx : Co x) (hy : Co y) : -4398046511104 ≤ x - y ∧ x - y ≤ 4398046511104 := by unfold Co at *; omega
theorem mul_bd {x y a b : Int} (ha : 0 ≤ a) (hx : -a ≤ x ∧ x ≤ a) (hy : -b ≤ y ∧ y ≤ b) : -(a * b) ≤ x * y ∧ x * y ≤ a * b := by
  have h1 : x.natAbs ≤ a.natAbs := by omega
  have h2 : y.natAbs ≤ b.natAbs := by omega
  have h3 := Nat.mul_le_mul h1 h2
  rw [← Int.natAbs_mul, ← Int.natAbs_mul] at h3
  have hb : 0 ≤ b := by omega
  have h4 : 0 ≤ a * b := Int.mul_nonneg ha hb
  generalize a * b = p at *
  generalize x * y = q at *
  omega
theorem trn_bd {ax ay bx b_y cx cy : Int} (h1 : Co ax) (h2 : Co ay) (h3 : Co bx) (h4 : Co b_y) (h5 : Co cx) (h6 : Co cy) :
    -38685626227668133590597632 ≤ trn ax ay bx b_y cx cy ∧ trn ax ay bx b_y cx cy ≤ 38685626227668133590597632 := by
  have a1 := mul_bd (by decide) (co_sub h3 h1) (co_sub h6 h2)
  have a2 := mul_bd (by decide) (co_sub h4 h2) (co_sub h5 h1)
  unfold trn
  generalize (bx - ax) * (cy - ay) = p at *
  generalize (b_y - ay) * (cx - ax) = q at *
  omega
theorem turn_any (ax ay bx b_y cx cy : Int) (h1 : Co ax) (h2 : Co ay) (h3 : Co bx) (h4 : Co b_y) (h5 : Co cx) (h6 : Co cy) (w : World) :
    Calls Try.prog 118 #[pI ax ay, pI bx b_y, pI cx cy] w fun e w' => e = .returned (wI (trn ax ay bx b_y cx cy)) ∧ Below w.heap.size w w' := by
  have a1 := mul_bd (by decide) (co_sub h3 h1) (co_sub h6 h2)
  have a2 := mul_bd (by decide) (co_sub h4 h2) (co_sub h5 h1)
  have a3 := trn_bd h1 h2 h3 h4 h5 h6
  refine turn_go ax ay bx b_y cx cy _ _ _ _ _ _ _ rfl rfl rfl rfl ?_ ?_ ?_ ?_ rfl rfl rfl ?_ ?_ ?_ w
  · have := co_sub h3 h1; unfold In64; omega
  · have := co_sub h6 h2; unfold In64; omega
  · have := co_sub h4 h2; unfold In64; omega
  · have := co_sub h5 h1; unfold In64; omega
  · unfold InI b255; omega
  · unfold InI b255; omega
  · unfold trn at a3; unfold InI b255; omega
end Go.Proofs.Ytlcbomjdbdgbmaa
namespace Go.Proofs.Ytlcbomjdbdgbmaa
open Go.RowKit

/-- a slice of points -/
structure Pts (w : World) (ao : Option Addr) (n cap : Nat) (X Y : Nat → Int) : Prop where
  ptr : 0 < n → ∃ a, ao = some a ∧ a.block < w.heap.size ∧ ∀ i, i < n → w.cell? (a.add (i * 2)) = some (.int .i64 (X i)) ∧ w.cell? ((a.add (i * 2)).add 1) = some (.int .i64 (Y i))
  capl : n ≤ cap
  capb : cap ≤ 9223372036854775807
theorem Pts.of {w w' : World} {ao : Option Addr} {n cap : Nat} {X Y : Nat → Int} (h : Pts w ao n cap X Y) (hb : Below w.heap.size w w') : Pts w' ao n cap X Y := by
  refine ⟨fun h0 => ?_, h.capl, h.capb⟩
  obtain ⟨a, h1, h2, h3⟩ := h.ptr h0
  refine ⟨a, h1, Nat.lt_of_lt_of_le h2 hb.size, fun i hi => ?_⟩
  have e1 : ∀ k, (a.add k).block = a.block := fun k => by unfold Addr.add; split <;> rfl
  have e2 : ∀ k l, ((a.add k).add l).block = a.block := fun k l => by unfold Addr.add; split <;> split <;> rfl
  rw [hb.cell (by rw [e1]; exact h2), hb.cell (by rw [e2]; exact h2)]
  exact h3 i hi
/-- are all points of a row right? -/
def allC (n : Nat) (X Y : Nat → Int) : Bool := (List.range n).all fun i => inC (X i) && inC (Y i)

set_option maxRecDepth 100000 in
set_option maxHeartbeats 1000000 in
theorem ptright_any (ao : Option Addr) (n cap : Nat) (X Y : Nat → Int) (w : World) (h : Pts w ao n cap X Y) :
    Calls Try.prog 84 #[.slice ao n cap] w fun e w' => e = .returned (.bool (allC n X Y)) ∧ Below w.heap.size w w' := by
  have hcl := h.capl
  have hcb := h.capb
  have HW := Lib.hid h
  clear h
  obtain ⟨A, hA⟩ : ∃ A, allC n X Y = A := ⟨_, rfl⟩
  rw [hA]
  replace hA := Lib.hid hA
  go_enter Try.func84, Try.ntmps84
  go_wp2_with fail
  go_loopw [7] (fun i wr => ∃ k : Nat, k ≤ n ∧ i = .int .i64 k ∧ Hid (∀ j, j < k → (inC (X j) && inC (Y j)) = true) ∧ Below w.heap.size w wr) (fun i _ => n - (intOf i).toNat)
  case atStart => exact ⟨0, Nat.zero_le _, rfl, fun j hj => absurd hj (by omega), Below.refl _ _⟩
  case round =>
    rename_i wr
    obtain ⟨k, hk, rfl, hall, hbl⟩ := hrel
    by_cases h1 : k < n
    · obtain ⟨a, rfl, hbk, hc⟩ := HW.out.ptr (by omega)
      have ebl : ∀ k, (a.add k).block = a.block := fun k => by unfold Addr.add; split <;> rfl
      have ebl2 : ∀ k l, ((a.add k).add l).block = a.block := fun k l => by unfold Addr.add; split <;> split <;> rfl
      have e0 : wr.cell? (a.add (k * 2)) = some (.int .i64 (X k)) := by rw [hbl.cell (by rw [ebl]; exact hbk)]; exact (hc k h1).1
      have e1 : wr.cell? ((a.add (k * 2)).add 1) = some (.int .i64 (Y k)) := by rw [hbl.cell (by rw [ebl2]; exact hbk)]; exact (hc k h1).2
      clear hc ebl ebl2
      obtain ⟨x, hx⟩ : ∃ x, X k = x := ⟨_, rfl⟩
      obtain ⟨y, hy⟩ : ∃ y, Y k = y := ⟨_, rfl⟩
      obtain ⟨g, hg⟩ : ∃ g, (inC x && inC y) = g := ⟨_, rfl⟩
      rw [hx] at e0
      rw [hy] at e1
      replace e1 : wr.cell? { block := (a.add (k * 2)).block, off := (a.add (k * 2)).off + 1 } = some (.int .i64 y) := e1
      have HX := Lib.hid hx
      have HY := Lib.hid hy
      have HG := Lib.hid hg
      clear hx hy hg
      go_wp2_with fail
      refine (PtRight_any x y _).mono ?_
      rintro e w2 ⟨rfl, hn⟩
      rw [HG.out]
      have hb2 : Below w.heap.size w w2 := (hbl.alloc hbl.size _).trans (hn.mono (by have := hbl.size; simp; omega))
      clear hn e0 e1
      cases g
      · have HA : A = false := by
          rw [← hA.out]; unfold allC; rw [List.all_eq_false]
          refine ⟨k, List.mem_range.2 h1, ?_⟩
          rw [HX.out, HY.out, HG.out]; exact Bool.false_ne_true
        subst HA
        clear hA hall
        go_wp2
        go_ret
        exact ⟨rfl, hb2⟩
      · go_wp2
        refine ⟨⟨k + 1, by omega, by norm_cast, fun j hj => ?_, hb2⟩, ?_⟩
        · by_cases hjk : j = k
          · subst hjk; rw [HX.out, HY.out, HG.out]
          · exact hall.out j (by omega)
        · simp only [intOf]; omega
    · have hkn : k = n := by omega
      have HA : A = true := by
        rw [← hA.out]; unfold allC; rw [List.all_eq_true]
        intro j hj; exact hall.out j (by rw [hkn]; exact List.mem_range.1 hj)
      subst HA
      clear hA hall
      go_wp2
      go_ret
      exact ⟨rfl, hbl⟩

/-- three, four values by their number -/
def f3 (a b c : Int) : Nat → Int | 0 => a | 1 => b | _ => c
def f4 (a b c d : Int) : Nat → Int | 0 => a | 1 => b | 2 => c | _ => d
theorem Pts.three {W : World} {b : Nat} {t : TypeId} {ax ay bx b_y cx cy : Int} (h : Blk W b #[.int .i64 ax, .int .i64 ay, .int .i64 bx, .int .i64 b_y, .int .i64 cx, .int .i64 cy] t) :
    Pts W (some ⟨b, 0, none⟩) 3 3 (f3 ax bx cx) (f3 ay b_y cy) := by
  refine ⟨fun _ => ⟨_, rfl, h.lt, fun i hi => ?_⟩, by decide, by decide⟩
  match i, hi with
  | 0, _ => exact ⟨h.cell 0, h.cell 1⟩
  | 1, _ => exact ⟨h.cell 2, h.cell 3⟩
  | 2, _ => exact ⟨h.cell 4, h.cell 5⟩
/-- may it be a point? -/
def rp (x y : Int) : Bool := inC x && inC y
def rp3 (ax ay bx b_y cx cy : Int) : Bool := rp ax ay && rp bx b_y && rp cx cy
theorem allC_3 (ax ay bx b_y cx cy : Int) : allC 3 (f3 ax bx cx) (f3 ay b_y cy) = rp3 ax ay bx b_y cx cy := by
  simp [allC, List.range_succ, f3, rp3, rp, Bool.and_assoc]
theorem inC_co {x : Int} (h : inC x = true) : Co x := by
  unfold inC at h; unfold Co; simpa using h
theorem rp_co {x y : Int} (h : rp x y = true) : Co x ∧ Co y := by
  unfold rp at h; rw [Bool.and_eq_true] at h; exact ⟨inC_co h.1, inC_co h.2⟩
theorem rp3_co {ax ay bx b_y cx cy : Int} (h : rp3 ax ay bx b_y cx cy = true) : Co ax ∧ Co ay ∧ Co bx ∧ Co b_y ∧ Co cx ∧ Co cy := by
  unfold rp3 at h; rw [Bool.and_eq_true, Bool.and_eq_true] at h
  obtain ⟨⟨h1, h2⟩, h3⟩ := h
  exact ⟨(rp_co h1).1, (rp_co h1).2, (rp_co h2).1, (rp_co h2).2, (rp_co h3).1, (rp_co h3).2⟩
/-- the way of the turn of any three -/
def way (ax ay bx b_y cx cy : Int) : Int := bif rp3 ax ay bx b_y cx cy then (trn ax ay bx b_y cx cy).sign else 0

theorem right3_is (ax ay bx b_y cx cy : Int) (g : Bool) (hg : rp3 ax ay bx b_y cx cy = g) (W : World) (b : Nat) (t : TypeId) (h : Blk W b #[.int .i64 ax, .int .i64 ay, .int .i64 bx, .int .i64 b_y, .int .i64 cx, .int .i64 cy] t) :
    Calls Try.prog 84 #[.slice (some ⟨b, 0, none⟩) 3 3] W fun e w' => e = .returned (.bool g) ∧ Below W.heap.size W w' := by
  have := ptright_any _ _ _ _ _ W (Pts.three h)
  rw [allC_3, hg] at this
  exact this
set_option maxRecDepth 100000 in
set_option maxHeartbeats 1000000 in
theorem Turn_any (ax ay bx b_y cx cy : Int) (w : World) :
    Calls Try.prog 75 #[pI ax ay, pI bx b_y, pI cx cy] w fun e w' => e = .returned (.int .i64 (way ax ay bx b_y cx cy)) ∧ Below w.heap.size w w' := by
  unfold way
  obtain ⟨g, hg⟩ : ∃ g, rp3 ax ay bx b_y cx cy = g := ⟨_, rfl⟩
  rw [hg]
  obtain ⟨s, hs⟩ : ∃ s : Int, (bif g then (trn ax ay bx b_y cx cy).sign else 0) = s := ⟨_, rfl⟩
  rw [hs]
  have HG := Lib.hid hg
  have HS := Lib.hid hs
  clear hg hs
  go_enter Try.func75, Try.ntmps75
  go_wp2_with fail
  refine calls_w ?_
  intro W hW
  have ka : PVar W w.heap.size ax ay := by rw [hW]; exact (Blk.new w _ _).alloc _ |>.alloc _ |>.alloc _
  have kb : PVar W (w.heap.size + 1) bx b_y := by rw [hW]; exact (Blk.new1 w _ _ _).alloc _ |>.alloc _
  have kc : PVar W (w.heap.size + 1 + 1) cx cy := by rw [hW]; exact (Blk.new2 w _ _ _ _).alloc _
  have kl : Blk W (w.heap.size + 1 + 1 + 1) #[.int .i64 ax, .int .i64 ay, .int .i64 bx, .int .i64 b_y, .int .i64 cx, .int .i64 cy] 24 := by rw [hW]; exact Blk.new3 w _ _ _ _ _
  have hb0 : Below w.heap.size w W := by rw [hW]; exact (below_a3 _ _ _ _).alloc (by simp; omega) _
  clear hW
  refine (right3_is ax ay bx b_y cx cy g HG.out _ _ _ kl).mono ?_
  rintro e u1 ⟨rfl, hn⟩
  replace ka : PVar u1 _ _ _ := ka.of hn
  replace kb : PVar u1 _ _ _ := kb.of hn
  replace kc : PVar u1 _ _ _ := kc.of hn
  replace hb0 := hb0.trans (hn.mono hb0.size)
  clear hn kl
  have ca := PVar.c ka
  have cb := PVar.c kb
  have cc := PVar.c kc
  clear ka kb kc
  cases g
  · have h0 : s = 0 := HS.out.symm
    subst h0
    go_wp2
    go_ret
    exact ⟨rfl, hb0⟩
  · obtain ⟨h1, h2, h3, h4, h5, h6⟩ := rp3_co HG.out
    have HT := trn_bd h1 h2 h3 h4 h5 h6
    go_wp2_with fail
    refine (turn_any ax ay bx b_y cx cy h1 h2 h3 h4 h5 h6 _).mono ?_
    rintro e u2 ⟨rfl, hn⟩
    replace hb0 := hb0.trans (hn.mono hb0.size)
    clear hn ca cb cc
    go_wp2_with fail
    refine (Sign_is _ s HS.out _ (by unfold InI b255; omega)).mono ?_
    rintro e u3 ⟨rfl, hn⟩
    replace hb0 := hb0.trans (hn.mono hb0.size)
    clear hn
    go_wp2
    go_ret
    exact ⟨rfl, hb0⟩
end Go.Proofs.Ytlcbomjdbdgbmaa
namespace Go.Proofs.Ytlcbomjdbdgbmaa
open Go.RowKit

end Go.Proofs.Ytlcbomjdbdgbmaa
namespace Go.Proofs.Ytlcbomjdbdgbmaa
open Go.RowKit

end Go.Proofs.Ytlcbomjdbdgbmaa
namespace Go.Proofs.Ytlcbomjdbdgbmaa
open Go.RowKit

end Go.Proofs.Ytlcbomjdbdgbmaa
namespace Go.Proofs.Ytlcbomjdbdgbmaa
open Go.RowKit

/-- the first of two that is not 0 -/
def or2 (a b : Int) : Int := bif a == 0 then b else a
set_option maxRecDepth 100000 in
set_option maxHeartbeats 1000000 in
theorem Or2_any (a b : Int) (bl : Nat) (w : World) (c0 : w.cell? ⟨bl, 0, none⟩ = some (.int .i64 a)) (c1 : w.cell? ⟨bl, 1, none⟩ = some (.int .i64 b)) :
    Calls Try.prog 105 #[.slice (some ⟨bl, 0, none⟩) 2 2] w fun e w' => e = .returned (.int .i64 (or2 a b)) ∧ Below w.heap.size w w' := by
  obtain ⟨t, ht⟩ : ∃ t, or2 a b = t := ⟨_, rfl⟩
  rw [ht]
  unfold or2 at ht
  by_cases h0 : a = 0
  · subst h0
    have h1 : b = t := ht
    subst h1
    by_cases h2 : b = 0
    · subst h2
      go_enter Try.func105, Try.ntmps105
      go_wp2
      refine wp_loop_rounds 3 ?_
      iterate 3
        rw [rounds_succ]
        go_wp2
      go_ret
      exact ⟨rfl, Below.refl _ _⟩
    · go_enter Try.func105, Try.ntmps105
      go_wp2
      refine wp_loop_rounds 3 ?_
      iterate 2
        rw [rounds_succ]
        go_wp2
      go_ret
      exact ⟨rfl, Below.refl _ _⟩
  · have h3 : (a == 0) = false := by simpa using h0
    have h1 : a = t := by rw [h3] at ht; exact ht
    clear h3 ht
    subst h1
    go_enter Try.func105, Try.ntmps105
    go_wp2
    refine wp_loop_rounds 3 ?_
    rw [rounds_succ]
    go_wp2
    go_ret
    exact ⟨rfl, Below.refl _ _⟩
end Go.Proofs.Ytlcbomjdbdgbmaa
namespace Go.Proofs.Ytlcbomjdbdgbmaa
open Go.RowKit

set_option maxRecDepth 100000 in
set_option maxHeartbeats 1000000 in
theorem rRight_any (x y : Int) (w : World) : Calls Try.prog 26 #[pI x y] w fun e w' => e = .returned (.bool (rp x y)) ∧ Below w.heap.size w w' := by
  obtain ⟨t, ht⟩ : ∃ t, rp x y = t := ⟨_, rfl⟩
  rw [ht]
  have HT := Lib.hid ht
  clear ht
  by_cases h1 : -2199023255552 ≤ x <;> by_cases h2 : x ≤ 2199023255552 <;> by_cases h3 : -2199023255552 ≤ y <;> by_cases h4 : y ≤ 2199023255552
  all_goals first | (exfalso; omega) | skip
  all_goals
    go_enter Try.func26, Try.ntmps26
    go_wp2
    go_ret
    refine ⟨congrArg (fun t => Ending.returned (.bool t)) ?_, below_a1 _ _⟩
    rw [← HT.out]; unfold rp inC; rw [Bool.eq_iff_iff]; simp; omega

/-- does one come ahead of another one? -/
def ahd (ax ay bx b_y : Int) : Bool := decide (ax < bx) || decide (ax = bx) && decide (ay < b_y)
end Go.Proofs.Ytlcbomjdbdgbmaa
namespace Go.Proofs.Ytlcbomjdbdgbmaa
open Go.RowKit

/-- which of two comes first -/
def cmpP (ax ay bx b_y : Int) : Int := or2 (cmpI ax bx) (cmpI ay b_y)
set_option maxRecDepth 100000 in
set_option maxHeartbeats 1000000 in
theorem PtCmp_any (ax ay bx b_y : Int) (w : World) :
    Calls Try.prog 78 #[pI ax ay, pI bx b_y] w fun e w' => e = .returned (.int .i64 (cmpP ax ay bx b_y)) ∧ Below w.heap.size w w' := by
  unfold cmpP
  obtain ⟨x, hx⟩ : ∃ x, cmpI ax bx = x := ⟨_, rfl⟩
  obtain ⟨y, hy⟩ : ∃ y, cmpI ay b_y = y := ⟨_, rfl⟩
  rw [hx, hy]
  have HX := Lib.hid hx
  have HY := Lib.hid hy
  clear hx hy
  go_enter Try.func78, Try.ntmps78
  go_wp2_with fail
  refine name_world ?_
  intro W hW
  have ka : PVar W w.heap.size ax ay := by rw [hW]; exact (Blk.new w _ _).alloc _
  have kb : PVar W (w.heap.size + 1) bx b_y := by rw [hW]; exact Blk.new1 w _ _ _
  have hb0 : Below w.heap.size w W := by rw [hW]; exact below_a2 _ _ _
  clear hW
  have ca := PVar.c ka
  have cb := PVar.c kb
  have la := ka.lt
  have lb := kb.lt
  clear ka kb
  refine wp_region_up W.heap.size 9 [(true, 0), (true, 1), (true, 2), (true, 3), (true, 5), (true, 6), (true, 7), (true, 8), (false, 4)] (by kernel_rfl) (by kernel_rfl) (fun _ _ d _ _ h => by cases d <;> exact h) ?_
  have hb : Below W.heap.size W W.drew := (Below.refl _ _).drew
  iterate 8
    refine wpS_takeL rfl rfl ?_
    go_big_quiet_step (rfl)
    refine wpQuiet_nil ?_
  refine wpS_doL rfl ?_
  intro K hK
  go_wp2_with ((first | (go_at_call 121; (with_reducible refine (Compare_any ax bx _).mono ?_); rintro e w2 ⟨rfl, hn⟩; rw [HX.out]) | (go_at_call 121; (with_reducible refine (Compare_any ay b_y _).mono ?_); rintro e w2 ⟨rfl, hn⟩; rw [HY.out])))
  replace hb := hb.trans (hn.mono hb.size)
  refine hK.out _ _ (up_iff.2 hb) ?_
  clear hK K
  clear hn
  refine wpS_nil ?_
  simp only [List.drop_succ_cons, List.drop_zero]
  replace hb0 := hb0.trans (hb.mono hb0.size)
  clear hb
  clear ca cb la lb
  go_wp2_with fail
  refine (Compare_any ay b_y _).mono ?_
  rintro e u1 ⟨rfl, hn⟩
  rw [HY.out]
  replace hb0 := hb0.trans (hn.mono hb0.size)
  clear hn
  go_wp2_with fail
  refine calls_w ?_
  intro V hV
  have kl : Blk V u1.heap.size #[.int .i64 x, .int .i64 y] 3 := by rw [hV]; exact Blk.new _ _ _
  have hv : Below u1.heap.size u1 V := by rw [hV]; exact below_a1 _ _
  replace hb0 := hb0.trans (hv.mono hb0.size)
  clear hV hv
  refine (Or2_any x y _ _ (kl.cell 0) (kl.cell 1)).mono ?_
  rintro e u2 ⟨rfl, hn⟩
  replace hb0 := hb0.trans (hn.mono hb0.size)
  clear hn kl
  go_wp2
  go_ret
  exact ⟨rfl, hb0⟩
end Go.Proofs.Ytlcbomjdbdgbmaa

namespace Go.Proofs.Ytlcbomjdbdgbmaa
open Go.RowKit

/-- a row of stores -/
@[reducible] def setL : World → Nat → Nat → List Value → World
  | w, _, _, [] => w
  | w, b, o, v :: l => setL (w.setCell ⟨b, o, none⟩ v) b (o + 1) l
def putA : Array Value → Nat → List Value → Array Value
  | c, _, [] => c
  | c, o, v :: l => putA (c.setIfInBounds o v) (o + 1) l
theorem blk_setL {w : World} {b b' : Nat} {c : Array Value} {t : TypeId} (h : Blk w b c t) (hne : b ≠ b') (o : Nat) (l : List Value) : Blk (setL w b' o l) b c t := by
  induction l generalizing w o with
  | nil => exact h
  | cons v l ih => unfold setL; exact ih (h.set hne _ _ _) _
theorem blk_putL {w : World} {b : Nat} {c : Array Value} {t : TypeId} (h : Blk w b c t) (o : Nat) (l : List Value) : Blk (setL w b o l) b (putA c o l) t := by
  induction l generalizing w o c with
  | nil => exact h
  | cons v l ih => unfold setL putA; exact ih (h.put _ _) _
theorem putA_full (p q l : List Value) (h : q.length = l.length) : putA (p ++ q).toArray p.length l = (p ++ l).toArray := by
  induction l generalizing p q with
  | nil => cases q with
    | nil => rfl
    | cons x q => cases h
  | cons v l ih => cases q with
    | nil => cases h
    | cons x q =>
      unfold putA
      have e : ((p ++ x :: q).toArray.setIfInBounds p.length v) = ((p ++ [v]) ++ q).toArray := by simp
      rw [e, show p.length + 1 = (p ++ [v]).length by simp, ih (p ++ [v]) q (by simpa using h)]
      simp
theorem blk_full {w : World} {b : Nat} {t : TypeId} (q l : List Value) (h : Blk w b q.toArray t) (hl : q.length = l.length) : Blk (setL w b 0 l) b l.toArray t := by
  have := blk_putL h 0 l
  rw [show putA q.toArray 0 l = l.toArray from putA_full [] q l hl] at this
  exact this
theorem blw_setL {B : Nat} {W w : World} {b : Nat} (h : Below B W w) (hB : B ≤ b) (o : Nat) (l : List Value) : Below B W (setL w b o l) := by
  induction l generalizing w o with
  | nil => exact h
  | cons v l ih => unfold setL; exact ih (h.setCell hB _) _
theorem blw_al {W w : World} (h : Below W.heap.size W w) (o : Obj) : Below W.heap.size W (w.alloc o) := h.alloc h.size o
theorem args_eq {f : FuncId} {a a' : Array Value} {w : World} {R : Ending → World → Prop} (h : Calls Try.prog f a w R) (ha : a = a') : Calls Try.prog f a' w R := ha ▸ h
theorem wrap64_in (x : Int) : In64 (wrap64 x) := by unfold wrap64 In64; omega
theorem wrap64_id {x : Int} (h : In64 x) : wrap64 x = x := by unfold wrap64; unfold In64 at h; omega
theorem cond_in {e : Bool} {a b : Int} (ha : InI a) (hb : InI b) : InI (bif e then a else b) := by cases e; exact hb; exact ha
theorem cond_64 {e : Bool} {a b : Int} (ha : In64 a) (hb : In64 b) : In64 (bif e then a else b) := by cases e; exact hb; exact ha
theorem in_0 : InI 0 := by unfold InI b255; omega
theorem i64_0 : In64 0 := by unfold In64; omega
theorem in64_I' {x : Int} (h : In64 x) : InI x := by unfold In64 at h; unfold InI b255; omega
/-- the product, if it fits; else 0 -/
def mulv (x y : Int) : Int := bif okI (x * y) then x * y else 0
def addv (x y : Int) : Int := bif okI (x + y) then x + y else 0
def subv (x y : Int) : Int := bif okI (x - y) then x - y else 0
theorem ok_in {z : Int} : InI (bif okI z then z else 0) := by
  cases h : okI z
  · exact in_0
  · exact of_decide_eq_true h
theorem mulv_in (x y : Int) : InI (mulv x y) := ok_in
theorem addv_in (x y : Int) : InI (addv x y) := ok_in
theorem subv_in (x y : Int) : InI (subv x y) := ok_in
theorem mulv_id {x y : Int} (h : InI (x * y)) : mulv x y = x * y := by unfold mulv; rw [show okI (x * y) = true from decide_eq_true h]; rfl
theorem subv_id {x y : Int} (h : InI (x - y)) : subv x y = x - y := by unfold subv; rw [show okI (x - y) = true from decide_eq_true h]; rfl
theorem Mul_v (x y p : Int) (o : Bool) (hp : mulv x y = p) (ho : okI (x * y) = o) (ix : InI x) (iy : InI y) (w : World) :
    Calls Try.prog 124 #[wI x, wI y] w fun e w' => e = .returned (.tuple #[wI p, .bool o]) ∧ Below w.heap.size w w' := by
  refine Mul_is x y o ho p ?_ w ix iy
  rw [← ho]; exact hp
theorem Add_v (x y p : Int) (o : Bool) (hp : addv x y = p) (ho : okI (x + y) = o) (ix : InI x) (iy : InI y) (w : World) :
    Calls Try.prog 122 #[wI x, wI y] w fun e w' => e = .returned (.tuple #[wI p, .bool o]) ∧ Below w.heap.size w w' := by
  refine Add_is x y o ho p ?_ w ix iy
  rw [← ho]; exact hp
theorem Sub_v (x y p : Int) (o : Bool) (hp : subv x y = p) (ho : okI (x - y) = o) (ix : InI x) (iy : InI y) (w : World) :
    Calls Try.prog 123 #[wI x, wI y] w fun e w' => e = .returned (.tuple #[wI p, .bool o]) ∧ Below w.heap.size w w' := by
  refine Sub_is x y o ho p ?_ w ix iy
  rw [← ho]; exact hp
def dvq (x y : Int) : Int := bif dvOk x y then fq x y else 0
def dvr (x y : Int) : Int := bif dvOk x y then fr x y else 0
theorem Div_v (x y q r : Int) (o : Bool) (hq : dvq x y = q) (hr : dvr x y = r) (ho : dvOk x y = o) (ix : InI x) (iy : InI y) (w : World) :
    Calls Try.prog 109 #[wI x, wI y] w fun e w' => e = .returned (.tuple #[wI q, wI r, .bool o]) ∧ Below w.heap.size w w' := by
  have T := Div_any x y w ix iy
  unfold dvq at hq; unfold dvr at hr
  rw [ho] at T hq hr
  subst hq; subst hr
  cases o <;> exact T
theorem dv_in {x y : Int} (ix : InI x) (iy : InI y) (h : dvOk x y = true) : InI (fq x y) ∧ InI (fr x y) := by
  unfold dvOk at h
  simp only [Bool.and_eq_true, decide_eq_true_eq] at h
  obtain ⟨s1, _, n0, n1, _, _⟩ := dv_spec ix iy h.1
  refine ⟨⟨?_, h.2⟩, ?_⟩
  · rw [← s1]
    clear s1
    generalize (ng x != ng y) = u at n0 n1 ⊢
    cases u
    · rw [cond_false]; unfold b255 at *; omega
    · rw [cond_true]; unfold b255 at *; omega
  · obtain ⟨j1, j2⟩ := iy
    rcases Int.lt_or_gt_of_ne h.1 with hn | hp
    · have := fr_neg (x := x) hn; unfold b255 at *; exact ⟨by unfold b255; omega, by unfold b255; omega⟩
    · have := fr_pos (x := x) hp; unfold b255 at *; exact ⟨by unfold b255; omega, by unfold b255; omega⟩
theorem dvq_in {x y : Int} (ix : InI x) (iy : InI y) : InI (dvq x y) := by
  unfold dvq
  cases h : dvOk x y
  · exact in_0
  · exact (dv_in ix iy h).1
theorem dvr_in {x y : Int} (ix : InI x) (iy : InI y) : InI (dvr x y) := by
  unfold dvr
  cases h : dvOk x y
  · exact in_0
  · exact (dv_in ix iy h).2
theorem Cmp_v (x y c : Int) (h : cmpI x y = c) (ix : InI x) (iy : InI y) (w : World) :
    Calls Try.prog 107 #[wI x, wI y] w fun e w' => e = .returned (.int .i64 c) ∧ Below w.heap.size w w' := h ▸ Cmp_any x y w ix iy
theorem Sign_v (x c : Int) (h : x.sign = c) (ix : InI x) (w : World) :
    Calls Try.prog 22 #[wI x] w fun e w' => e = .returned (.int .i64 c) ∧ Below w.heap.size w w' := h ▸ Sign_any x w ix
theorem Of_v (n d : Int) (h : n = d) (g : In64 n) (w : World) :
    Calls Try.prog 62 #[.int .i64 n] w fun e w' => e = .returned (wI d) ∧ Below w.heap.size w w' := h ▸ Of_any n w g
theorem PtCmp_v (ax ay bx b_y c : Int) (h : cmpP ax ay bx b_y = c) (w : World) :
    Calls Try.prog 78 #[pI ax ay, pI bx b_y] w fun e w' => e = .returned (.int .i64 c) ∧ Below w.heap.size w w' := h ▸ PtCmp_any ax ay bx b_y w
theorem PtRight_v (ax ay : Int) (c : Bool) (h : rp ax ay = c) (w : World) :
    Calls Try.prog 17 #[pI ax ay] w fun e w' => e = .returned (.bool c) ∧ Below w.heap.size w w' := h ▸ PtRight_any ax ay w
theorem Turn_v (ax ay bx b_y cx cy c : Int) (h : way ax ay bx b_y cx cy = c) (w : World) :
    Calls Try.prog 75 #[pI ax ay, pI bx b_y, pI cx cy] w fun e w' => e = .returned (.int .i64 c) ∧ Below w.heap.size w w' := h ▸ Turn_any ax ay bx b_y cx cy w
theorem Or2_v {b : Nat} {t : TypeId} {W : World} (x y c : Int) (h : or2 x y = c) (k : Blk W b #[.int .i64 x, .int .i64 y] t) :
    Calls Try.prog 105 #[.slice (some ⟨b, 0, none⟩) 2 2] W fun e w' => e = .returned (.int .i64 c) ∧ Below W.heap.size W w' := h ▸ Or2_any x y b W (k.cell 0) (k.cell 1)
def smk (x : Int) : Int := bif decide (In64 x) then x else 0
theorem Small_v (x c : Int) (o : Bool) (hc : smk x = c) (ho : decide (In64 x) = o) (ix : InI x) (w : World) :
    Calls Try.prog 110 #[wI x] w fun e w' => e = .returned (.tuple #[.int .i64 c, .bool o]) ∧ Below w.heap.size w w' := by
  have T := Small_any x w ix o ho
  unfold smk at hc; rw [ho] at hc; rw [hc] at T; exact T
@[go_sem] theorem eq4_self (a b c d : Int) : eq4 a b c d a b c d = true := by unfold eq4; simp
@[go_sem] theorem eq4_00 : eq4 (wd0 0) (wd1 0) (wd2 0) (wd3 0) 0 0 0 0 = true := by decide
/-- two points alike? -/
def eqP (ax ay bx b_y : Int) : Bool := ax == bx && ay == b_y
theorem run_eqP0 (a b c d : Int) (w : World) :
    (Op.equalIn 10000 24 (.agg #[.int .i64 a, .int .i64 b]) (.agg #[.int .i64 c, .int .i64 d])).run Try.prog w = .ok (eqP a b c d) w := by
  unfold eqP
  by_cases h0 : a = c <;> by_cases h1 : b = d
  all_goals go_simp
@[go_sem] theorem run_eqlP (a b c d : Int) (w : World) :
    (binOp .eql 24 (.agg #[.int .i64 a, .int .i64 b]) (.agg #[.int .i64 c, .int .i64 d])).run Try.prog w = .ok (.bool (eqP a b c d)) w := by
  rw [run_eql_struct, run_eqP0]; rfl
@[go_sem] theorem run_neqP (a b c d : Int) (w : World) :
    (binOp .neq 24 (.agg #[.int .i64 a, .int .i64 b]) (.agg #[.int .i64 c, .int .i64 d])).run Try.prog w = .ok (.bool (!eqP a b c d)) w := by
  rw [run_neq_struct, run_eqP0]; rfl
end Go.Proofs.Ytlcbomjdbdgbmaa

namespace Go.Proofs.Ytlcbomjdbdgbmaa
open Go.RowKit

set_option maxRecDepth 100000 in
set_option maxHeartbeats 4000000 in

theorem crtimes_is (x : Int) (y : Int)  (R0 : Int) (hR0 : mulv x y = R0) (_ix : InI x) (_iy : InI y)  (w : World)  :
    Calls Try.prog 106 #[.agg #[.int .u64 (wd0 x), .int .u64 (wd1 x), .int .u64 (wd2 x), .int .u64 (wd3 x)], .agg #[.int .u64 (wd0 y), .int .u64 (wd1 y), .int .u64 (wd2 y), .int .u64 (wd3 y)]] w fun e w' => e = .returned (.agg #[.int .u64 (wd0 R0), .int .u64 (wd1 R0), .int .u64 (wd2 R0), .int .u64 (wd3 R0)]) ∧ Below w.heap.size w w' := by

  have HR0 := Lib.hid hR0
  clear hR0
  go_enter Try.func106, Try.ntmps106
  go_wp2_with fail
  first | refine calls_w ?_ | refine name_world ?_ | refine list_world ?_ | refine post_world ?_
  intro V1 hV1
  have hn : Below w.heap.size w V1 := by rw [hV1]; exact below_a3 _ _ _ _
  have nhb0 := hn
  have k1 : Blk V1 w.heap.size #[.int .u64 (wd0 x), .int .u64 (wd1 x), .int .u64 (wd2 x), .int .u64 (wd3 x)] 35 := by rw [hV1]; exact (((Blk.new _ _ _).alloc _).alloc _)
  have k2 : Blk V1 (w.heap.size + 1) #[.int .u64 (wd0 y), .int .u64 (wd1 y), .int .u64 (wd2 y), .int .u64 (wd3 y)] 35 := by rw [hV1]; exact ((Blk.new1 _ _ _ _).alloc _)
  have k3 : Blk V1 (w.heap.size + 1 + 1) #[.int .u64 0, .int .u64 0, .int .u64 0, .int .u64 0] 35 := by rw [hV1]; exact (Blk.new2 _ _ _ _ _)
  clear hV1
  have hb0 := nhb0
  clear nhb0
  obtain ⟨r1, hr1⟩ : ∃ o_o : Int, mulv x y = o_o := ⟨_, rfl⟩
  have Hr1 := Lib.hid hr1
  clear hr1
  obtain ⟨z2, hz2⟩ : ∃ o_o : Bool, okI (x * y) = o_o := ⟨_, rfl⟩
  have Hz2 := Lib.hid hz2
  clear hz2
  refine (Mul_v x y r1 z2 Hr1.out Hz2.out _ix _iy _).mono ?_
  rintro e U2 ⟨rfl, hn⟩
  clear k1 k2
  replace k3 := k3.of hn
  replace hb0 := hb0.trans (hn.mono hb0.size)
  clear hn
  have c3_0 : U2.cell? ⟨(w.heap.size + 1 + 1), 0, none⟩ = some (.int .u64 0) := k3.cell 0
  have c3_1 : U2.cell? ⟨(w.heap.size + 1 + 1), 1, none⟩ = some (.int .u64 0) := k3.cell 1
  have c3_2 : U2.cell? ⟨(w.heap.size + 1 + 1), 2, none⟩ = some (.int .u64 0) := k3.cell 2
  have c3_3 : U2.cell? ⟨(w.heap.size + 1 + 1), 3, none⟩ = some (.int .u64 0) := k3.cell 3
  have f3_0 := k3.free 0
  have f3_1 := k3.free 1
  have f3_2 := k3.free 2
  have f3_3 := k3.free 3
  have l3 := k3.lt
  have l3_0 : w.heap.size < U2.heap.size := by have := k3.lt; omega
  have l3_1 : w.heap.size + 1 < U2.heap.size := by have := k3.lt; omega
  have e0 : r1 = R0 := by rw [← HR0.out]; (try rw [Hr1.out]); (try rw [Hz2.out]); all_goals first | rfl | simp
  subst e0
  go_wp2
  clear c3_0 c3_1 c3_2 c3_3 f3_0 f3_1 f3_2 f3_3 l3 l3_0 l3_1
  first | refine post_world ?_
  intro V3 hV3
  have D1 := Lib.hid k3.lt
  have D2 := Lib.hid hb0.size
  have nk3 : Blk V3 (w.heap.size + 1 + 1) #[.int .u64 (wd0 r1), .int .u64 (wd1 r1), .int .u64 (wd2 r1), .int .u64 (wd3 r1)] 35 := by rw [hV3]; exact ((blk_full _ [.int .u64 (wd0 r1), .int .u64 (wd1 r1), .int .u64 (wd2 r1), .int .u64 (wd3 r1)] k3 rfl).alloc _)
  have nhb0 : Below w.heap.size w V3 := by rw [hV3]; exact (blw_al (blw_setL hb0 (by omega) 0 [.int .u64 (wd0 r1), .int .u64 (wd1 r1), .int .u64 (wd2 r1), .int .u64 (wd3 r1)]) _)
  clear k3
  clear hb0
  clear hV3
  have k3 := nk3
  clear nk3
  have hb0 := nhb0
  clear nhb0
  have g3_0 : V3.cell? ⟨(w.heap.size + 1 + 1), 0, none⟩ = some (.int .u64 (wd0 r1)) := k3.cell 0
  have g3_1 : V3.cell? ⟨(w.heap.size + 1 + 1), 1, none⟩ = some (.int .u64 (wd1 r1)) := k3.cell 1
  have g3_2 : V3.cell? ⟨(w.heap.size + 1 + 1), 2, none⟩ = some (.int .u64 (wd2 r1)) := k3.cell 2
  have g3_3 : V3.cell? ⟨(w.heap.size + 1 + 1), 3, none⟩ = some (.int .u64 (wd3 r1)) := k3.cell 3
  clear k3
  simp [bodyPost, results, Try.results106, go_sem, g3_0, g3_1, g3_2, g3_3]
  first | exact hb0 | exact ⟨rfl, hb0⟩

set_option maxRecDepth 100000 in
set_option maxHeartbeats 4000000 in

theorem crless_is (x : Int) (y : Int)  (R0 : Int) (hR0 : subv x y = R0) (_ix : InI x) (_iy : InI y)  (w : World)  :
    Calls Try.prog 108 #[.agg #[.int .u64 (wd0 x), .int .u64 (wd1 x), .int .u64 (wd2 x), .int .u64 (wd3 x)], .agg #[.int .u64 (wd0 y), .int .u64 (wd1 y), .int .u64 (wd2 y), .int .u64 (wd3 y)]] w fun e w' => e = .returned (.agg #[.int .u64 (wd0 R0), .int .u64 (wd1 R0), .int .u64 (wd2 R0), .int .u64 (wd3 R0)]) ∧ Below w.heap.size w w' := by

  have HR0 := Lib.hid hR0
  clear hR0
  go_enter Try.func108, Try.ntmps108
  go_wp2_with fail
  first | refine calls_w ?_ | refine name_world ?_ | refine list_world ?_ | refine post_world ?_
  intro V1 hV1
  have hn : Below w.heap.size w V1 := by rw [hV1]; exact below_a3 _ _ _ _
  have nhb0 := hn
  have k1 : Blk V1 w.heap.size #[.int .u64 (wd0 x), .int .u64 (wd1 x), .int .u64 (wd2 x), .int .u64 (wd3 x)] 35 := by rw [hV1]; exact (((Blk.new _ _ _).alloc _).alloc _)
  have k2 : Blk V1 (w.heap.size + 1) #[.int .u64 (wd0 y), .int .u64 (wd1 y), .int .u64 (wd2 y), .int .u64 (wd3 y)] 35 := by rw [hV1]; exact ((Blk.new1 _ _ _ _).alloc _)
  have k3 : Blk V1 (w.heap.size + 1 + 1) #[.int .u64 0, .int .u64 0, .int .u64 0, .int .u64 0] 35 := by rw [hV1]; exact (Blk.new2 _ _ _ _ _)
  clear hV1
  have hb0 := nhb0
  clear nhb0
  obtain ⟨r1, hr1⟩ : ∃ o_o : Int, subv x y = o_o := ⟨_, rfl⟩
  have Hr1 := Lib.hid hr1
  clear hr1
  obtain ⟨z2, hz2⟩ : ∃ o_o : Bool, okI (x - y) = o_o := ⟨_, rfl⟩
  have Hz2 := Lib.hid hz2
  clear hz2
  refine (Sub_v x y r1 z2 Hr1.out Hz2.out _ix _iy _).mono ?_
  rintro e U2 ⟨rfl, hn⟩
  clear k1 k2
  replace k3 := k3.of hn
  replace hb0 := hb0.trans (hn.mono hb0.size)
  clear hn
  have c3_0 : U2.cell? ⟨(w.heap.size + 1 + 1), 0, none⟩ = some (.int .u64 0) := k3.cell 0
  have c3_1 : U2.cell? ⟨(w.heap.size + 1 + 1), 1, none⟩ = some (.int .u64 0) := k3.cell 1
  have c3_2 : U2.cell? ⟨(w.heap.size + 1 + 1), 2, none⟩ = some (.int .u64 0) := k3.cell 2
  have c3_3 : U2.cell? ⟨(w.heap.size + 1 + 1), 3, none⟩ = some (.int .u64 0) := k3.cell 3
  have f3_0 := k3.free 0
  have f3_1 := k3.free 1
  have f3_2 := k3.free 2
  have f3_3 := k3.free 3
  have l3 := k3.lt
  have l3_0 : w.heap.size < U2.heap.size := by have := k3.lt; omega
  have l3_1 : w.heap.size + 1 < U2.heap.size := by have := k3.lt; omega
  have e0 : r1 = R0 := by rw [← HR0.out]; (try rw [Hr1.out]); (try rw [Hz2.out]); all_goals first | rfl | simp
  subst e0
  go_wp2
  clear c3_0 c3_1 c3_2 c3_3 f3_0 f3_1 f3_2 f3_3 l3 l3_0 l3_1
  first | refine post_world ?_
  intro V3 hV3
  have D1 := Lib.hid k3.lt
  have D2 := Lib.hid hb0.size
  have nk3 : Blk V3 (w.heap.size + 1 + 1) #[.int .u64 (wd0 r1), .int .u64 (wd1 r1), .int .u64 (wd2 r1), .int .u64 (wd3 r1)] 35 := by rw [hV3]; exact ((blk_full _ [.int .u64 (wd0 r1), .int .u64 (wd1 r1), .int .u64 (wd2 r1), .int .u64 (wd3 r1)] k3 rfl).alloc _)
  have nhb0 : Below w.heap.size w V3 := by rw [hV3]; exact (blw_al (blw_setL hb0 (by omega) 0 [.int .u64 (wd0 r1), .int .u64 (wd1 r1), .int .u64 (wd2 r1), .int .u64 (wd3 r1)]) _)
  clear k3
  clear hb0
  clear hV3
  have k3 := nk3
  clear nk3
  have hb0 := nhb0
  clear nhb0
  have g3_0 : V3.cell? ⟨(w.heap.size + 1 + 1), 0, none⟩ = some (.int .u64 (wd0 r1)) := k3.cell 0
  have g3_1 : V3.cell? ⟨(w.heap.size + 1 + 1), 1, none⟩ = some (.int .u64 (wd1 r1)) := k3.cell 1
  have g3_2 : V3.cell? ⟨(w.heap.size + 1 + 1), 2, none⟩ = some (.int .u64 (wd2 r1)) := k3.cell 2
  have g3_3 : V3.cell? ⟨(w.heap.size + 1 + 1), 3, none⟩ = some (.int .u64 (wd3 r1)) := k3.cell 3
  clear k3
  simp [bodyPost, results, Try.results108, go_sem, g3_0, g3_1, g3_2, g3_3]
  first | exact hb0 | exact ⟨rfl, hb0⟩

set_option maxRecDepth 100000 in
set_option maxHeartbeats 4000000 in

theorem crplus_is (x : Int) (y : Int)  (R0 : Int) (hR0 : addv x y = R0) (_ix : InI x) (_iy : InI y)  (w : World)  :
    Calls Try.prog 133 #[.agg #[.int .u64 (wd0 x), .int .u64 (wd1 x), .int .u64 (wd2 x), .int .u64 (wd3 x)], .agg #[.int .u64 (wd0 y), .int .u64 (wd1 y), .int .u64 (wd2 y), .int .u64 (wd3 y)]] w fun e w' => e = .returned (.agg #[.int .u64 (wd0 R0), .int .u64 (wd1 R0), .int .u64 (wd2 R0), .int .u64 (wd3 R0)]) ∧ Below w.heap.size w w' := by

  have HR0 := Lib.hid hR0
  clear hR0
  go_enter Try.func133, Try.ntmps133
  go_wp2_with fail
  first | refine calls_w ?_ | refine name_world ?_ | refine list_world ?_ | refine post_world ?_
  intro V1 hV1
  have hn : Below w.heap.size w V1 := by rw [hV1]; exact below_a3 _ _ _ _
  have nhb0 := hn
  have k1 : Blk V1 w.heap.size #[.int .u64 (wd0 x), .int .u64 (wd1 x), .int .u64 (wd2 x), .int .u64 (wd3 x)] 35 := by rw [hV1]; exact (((Blk.new _ _ _).alloc _).alloc _)
  have k2 : Blk V1 (w.heap.size + 1) #[.int .u64 (wd0 y), .int .u64 (wd1 y), .int .u64 (wd2 y), .int .u64 (wd3 y)] 35 := by rw [hV1]; exact ((Blk.new1 _ _ _ _).alloc _)
  have k3 : Blk V1 (w.heap.size + 1 + 1) #[.int .u64 0, .int .u64 0, .int .u64 0, .int .u64 0] 35 := by rw [hV1]; exact (Blk.new2 _ _ _ _ _)
  clear hV1
  have hb0 := nhb0
  clear nhb0
  obtain ⟨r1, hr1⟩ : ∃ o_o : Int, addv x y = o_o := ⟨_, rfl⟩
  have Hr1 := Lib.hid hr1
  clear hr1
  obtain ⟨z2, hz2⟩ : ∃ o_o : Bool, okI (x + y) = o_o := ⟨_, rfl⟩
  have Hz2 := Lib.hid hz2
  clear hz2
  refine (Add_v x y r1 z2 Hr1.out Hz2.out _ix _iy _).mono ?_
  rintro e U2 ⟨rfl, hn⟩
  clear k1 k2
  replace k3 := k3.of hn
  replace hb0 := hb0.trans (hn.mono hb0.size)
  clear hn
  have c3_0 : U2.cell? ⟨(w.heap.size + 1 + 1), 0, none⟩ = some (.int .u64 0) := k3.cell 0
  have c3_1 : U2.cell? ⟨(w.heap.size + 1 + 1), 1, none⟩ = some (.int .u64 0) := k3.cell 1
  have c3_2 : U2.cell? ⟨(w.heap.size + 1 + 1), 2, none⟩ = some (.int .u64 0) := k3.cell 2
  have c3_3 : U2.cell? ⟨(w.heap.size + 1 + 1), 3, none⟩ = some (.int .u64 0) := k3.cell 3
  have f3_0 := k3.free 0
  have f3_1 := k3.free 1
  have f3_2 := k3.free 2
  have f3_3 := k3.free 3
  have l3 := k3.lt
  have l3_0 : w.heap.size < U2.heap.size := by have := k3.lt; omega
  have l3_1 : w.heap.size + 1 < U2.heap.size := by have := k3.lt; omega
  have e0 : r1 = R0 := by rw [← HR0.out]; (try rw [Hr1.out]); (try rw [Hz2.out]); all_goals first | rfl | simp
  subst e0
  go_wp2
  clear c3_0 c3_1 c3_2 c3_3 f3_0 f3_1 f3_2 f3_3 l3 l3_0 l3_1
  first | refine post_world ?_
  intro V3 hV3
  have D1 := Lib.hid k3.lt
  have D2 := Lib.hid hb0.size
  have nk3 : Blk V3 (w.heap.size + 1 + 1) #[.int .u64 (wd0 r1), .int .u64 (wd1 r1), .int .u64 (wd2 r1), .int .u64 (wd3 r1)] 35 := by rw [hV3]; exact ((blk_full _ [.int .u64 (wd0 r1), .int .u64 (wd1 r1), .int .u64 (wd2 r1), .int .u64 (wd3 r1)] k3 rfl).alloc _)
  have nhb0 : Below w.heap.size w V3 := by rw [hV3]; exact (blw_al (blw_setL hb0 (by omega) 0 [.int .u64 (wd0 r1), .int .u64 (wd1 r1), .int .u64 (wd2 r1), .int .u64 (wd3 r1)]) _)
  clear k3
  clear hb0
  clear hV3
  have k3 := nk3
  clear nk3
  have hb0 := nhb0
  clear nhb0
  have g3_0 : V3.cell? ⟨(w.heap.size + 1 + 1), 0, none⟩ = some (.int .u64 (wd0 r1)) := k3.cell 0
  have g3_1 : V3.cell? ⟨(w.heap.size + 1 + 1), 1, none⟩ = some (.int .u64 (wd1 r1)) := k3.cell 1
  have g3_2 : V3.cell? ⟨(w.heap.size + 1 + 1), 2, none⟩ = some (.int .u64 (wd2 r1)) := k3.cell 2
  have g3_3 : V3.cell? ⟨(w.heap.size + 1 + 1), 3, none⟩ = some (.int .u64 (wd3 r1)) := k3.cell 3
  clear k3
  simp [bodyPost, results, Try.results133, go_sem, g3_0, g3_1, g3_2, g3_3]
  first | exact hb0 | exact ⟨rfl, hb0⟩

def sgR (ax : Int) (ay : Int) (bx : Int) (b_y : Int) : Bool := (bif (rp ax ay) then (rp bx b_y) else false)

set_option maxRecDepth 100000 in
set_option maxHeartbeats 4000000 in

theorem SegRight_is (ax : Int) (ay : Int) (bx : Int) (b_y : Int)  (R0 : Bool) (hR0 : sgR ax ay bx b_y = R0) (_iax : In64 ax) (_iay : In64 ay) (_ibx : In64 bx) (_ib_y : In64 b_y)  (w : World)  :
    Calls Try.prog 53 #[.agg #[.int .i64 ax, .int .i64 ay, .int .i64 bx, .int .i64 b_y]] w fun e w' => e = .returned (.bool R0) ∧ Below w.heap.size w w' := by

  have HR0 := Lib.hid hR0
  clear hR0
  go_enter Try.func53, Try.ntmps53
  go_wp2_with fail
  first | refine calls_w ?_ | refine name_world ?_ | refine list_world ?_ | refine post_world ?_
  intro V1 hV1
  have hn : Below w.heap.size w V1 := by rw [hV1]; exact below_a1 _ _
  have nhb0 := hn
  have k1 : Blk V1 w.heap.size #[.int .i64 ax, .int .i64 ay, .int .i64 bx, .int .i64 b_y] 50 := by rw [hV1]; exact (Blk.new _ _ _)
  clear hV1
  have hb0 := nhb0
  clear nhb0
  obtain ⟨z1, hz1⟩ : ∃ o_o : Bool, rp ax ay = o_o := ⟨_, rfl⟩
  have Hz1 := Lib.hid hz1
  clear hz1
  refine (PtRight_v ax ay z1 Hz1.out _).mono ?_
  rintro e U2 ⟨rfl, hn⟩
  replace k1 := k1.of hn
  replace hb0 := hb0.trans (hn.mono hb0.size)
  clear hn
  cases z1
  · have e0 : false = R0 := by rw [← HR0.out]; unfold sgR; (try rw [Hz1.out]); all_goals first | rfl | simp
    subst e0
    go_wp2
    first | go_ret | go_ret2
    exact ⟨by first | rfl | simp, hb0⟩
  · have c1_2 : U2.cell? ⟨w.heap.size, 2, none⟩ = some (.int .i64 bx) := k1.cell 2
    have c1_3 : U2.cell? ⟨w.heap.size, 3, none⟩ = some (.int .i64 b_y) := k1.cell 3
    have l1 := k1.lt
    go_wp2_with fail
    clear c1_2 c1_3 l1
    obtain ⟨z2, hz2⟩ : ∃ o_o : Bool, rp bx b_y = o_o := ⟨_, rfl⟩
    have Hz2 := Lib.hid hz2
    clear hz2
    refine (PtRight_v bx b_y z2 Hz2.out _).mono ?_
    rintro e U3 ⟨rfl, hn⟩
    clear k1
    replace hb0 := hb0.trans (hn.mono hb0.size)
    clear hn
    have e0 : z2 = R0 := by rw [← HR0.out]; unfold sgR; (try rw [Hz1.out]); (try rw [Hz2.out]); all_goals first | rfl | simp
    subst e0
    go_wp2
    first | go_ret | go_ret2
    exact ⟨by first | rfl | simp, hb0⟩

def lwx (ax : Int) (ay : Int) (bx : Int) (b_y : Int) : Int := (bif decide ((cmpP bx b_y ax ay) < 0) then bx else ax)

def lwy (ax : Int) (ay : Int) (bx : Int) (b_y : Int) : Int := (bif decide ((cmpP bx b_y ax ay) < 0) then b_y else ay)

def hgx (ax : Int) (ay : Int) (bx : Int) (b_y : Int) : Int := (bif decide ((cmpP bx b_y ax ay) < 0) then ax else bx)

def hgy (ax : Int) (ay : Int) (bx : Int) (b_y : Int) : Int := (bif decide ((cmpP bx b_y ax ay) < 0) then ay else b_y)

theorem lwx_in (ax : Int) (ay : Int) (bx : Int) (b_y : Int) (_iax : In64 ax) (_iay : In64 ay) (_ibx : In64 bx) (_ib_y : In64 b_y) : In64 (lwx ax ay bx b_y) := by
  unfold lwx
  exact (cond_64 _ibx _iax)

theorem lwy_in (ax : Int) (ay : Int) (bx : Int) (b_y : Int) (_iax : In64 ax) (_iay : In64 ay) (_ibx : In64 bx) (_ib_y : In64 b_y) : In64 (lwy ax ay bx b_y) := by
  unfold lwy
  exact (cond_64 _ib_y _iay)

theorem hgx_in (ax : Int) (ay : Int) (bx : Int) (b_y : Int) (_iax : In64 ax) (_iay : In64 ay) (_ibx : In64 bx) (_ib_y : In64 b_y) : In64 (hgx ax ay bx b_y) := by
  unfold hgx
  exact (cond_64 _iax _ibx)

theorem hgy_in (ax : Int) (ay : Int) (bx : Int) (b_y : Int) (_iax : In64 ax) (_iay : In64 ay) (_ibx : In64 bx) (_ib_y : In64 b_y) : In64 (hgy ax ay bx b_y) := by
  unfold hgy
  exact (cond_64 _iay _ib_y)

set_option maxRecDepth 100000 in
set_option maxHeartbeats 4000000 in

theorem Ends_is (ax : Int) (ay : Int) (bx : Int) (b_y : Int)  (R0 : Int) (R1 : Int) (R2 : Int) (R3 : Int) (hR0 : lwx ax ay bx b_y = R0) (hR1 : lwy ax ay bx b_y = R1) (hR2 : hgx ax ay bx b_y = R2) (hR3 : hgy ax ay bx b_y = R3) (_iax : In64 ax) (_iay : In64 ay) (_ibx : In64 bx) (_ib_y : In64 b_y)  (w : World)  :
    Calls Try.prog 64 #[.agg #[.int .i64 ax, .int .i64 ay, .int .i64 bx, .int .i64 b_y]] w fun e w' => e = .returned (.tuple #[.agg #[.int .i64 R0, .int .i64 R1], .agg #[.int .i64 R2, .int .i64 R3]]) ∧ Below w.heap.size w w' := by

  have HR0 := Lib.hid hR0
  clear hR0
  have HR1 := Lib.hid hR1
  clear hR1
  have HR2 := Lib.hid hR2
  clear hR2
  have HR3 := Lib.hid hR3
  clear hR3
  go_enter Try.func64, Try.ntmps64
  go_wp2_with fail
  first | refine calls_w ?_ | refine name_world ?_ | refine list_world ?_ | refine post_world ?_
  intro V1 hV1
  have hn : Below w.heap.size w V1 := by rw [hV1]; exact below_a3 _ _ _ _
  have nhb0 := hn
  have k1 : Blk V1 w.heap.size #[.int .i64 ax, .int .i64 ay, .int .i64 bx, .int .i64 b_y] 50 := by rw [hV1]; exact (((Blk.new _ _ _).alloc _).alloc _)
  have k2 : Blk V1 (w.heap.size + 1) #[.int .i64 0, .int .i64 0] 24 := by rw [hV1]; exact ((Blk.new1 _ _ _ _).alloc _)
  have k3 : Blk V1 (w.heap.size + 1 + 1) #[.int .i64 0, .int .i64 0] 24 := by rw [hV1]; exact (Blk.new2 _ _ _ _ _)
  clear hV1
  have hb0 := nhb0
  clear nhb0
  obtain ⟨r1, hr1⟩ : ∃ o_o : Int, cmpP bx b_y ax ay = o_o := ⟨_, rfl⟩
  have Hr1 := Lib.hid hr1
  clear hr1
  refine (PtCmp_v bx b_y ax ay r1 Hr1.out _).mono ?_
  rintro e U2 ⟨rfl, hn⟩
  replace k1 := k1.of hn
  replace k2 := k2.of hn
  replace k3 := k3.of hn
  replace hb0 := hb0.trans (hn.mono hb0.size)
  clear hn
  obtain ⟨z2, hz2⟩ : ∃ o_o : Bool, decide (r1 < 0) = o_o := ⟨_, rfl⟩
  cases z2
  · go_wp2_with fail
    have c1_0 : U2.cell? ⟨w.heap.size, 0, none⟩ = some (.int .i64 ax) := k1.cell 0
    have c1_1 : U2.cell? ⟨w.heap.size, 1, none⟩ = some (.int .i64 ay) := k1.cell 1
    have c1_2 : U2.cell? ⟨w.heap.size, 2, none⟩ = some (.int .i64 bx) := k1.cell 2
    have c1_3 : U2.cell? ⟨w.heap.size, 3, none⟩ = some (.int .i64 b_y) := k1.cell 3
    have l1 := k1.lt
    have c2_0 : U2.cell? ⟨(w.heap.size + 1), 0, none⟩ = some (.int .i64 0) := k2.cell 0
    have c2_1 : U2.cell? ⟨(w.heap.size + 1), 1, none⟩ = some (.int .i64 0) := k2.cell 1
    have f2_0 := k2.free 0
    have f2_1 := k2.free 1
    have l2 := k2.lt
    have c3_0 : U2.cell? ⟨(w.heap.size + 1 + 1), 0, none⟩ = some (.int .i64 0) := k3.cell 0
    have c3_1 : U2.cell? ⟨(w.heap.size + 1 + 1), 1, none⟩ = some (.int .i64 0) := k3.cell 1
    have f3_0 := k3.free 0
    have f3_1 := k3.free 1
    have l3 := k3.lt
    have p1_2 : w.heap.size ≠ (w.heap.size + 1) := (by omega)
    have p1_3 : w.heap.size ≠ (w.heap.size + 1 + 1) := (by omega)
    have p2_3 : (w.heap.size + 1) ≠ (w.heap.size + 1 + 1) := (by omega)
    have Kk1 := Lib.hid k1
    clear k1
    have Kk2 := Lib.hid k2
    clear k2
    have Kk3 := Lib.hid k3
    clear k3
    go_region
    first | refine name_q ?_ | refine calls_w ?_ | refine name_world ?_ | refine list_world ?_ | refine post_world ?_
    intro U3 hU3
    clear c1_0 c1_1 c1_2 c1_3 l1 c2_0 c2_1 f2_0 f2_1 l2 c3_0 c3_1 f3_0 f3_1 l3 p1_2 p1_3 p2_3
    have k1 : Blk U3 w.heap.size #[.int .i64 ax, .int .i64 ay, .int .i64 bx, .int .i64 b_y] 50 := by rw [hU3]; exact Blk.drew (blk_setL (blk_setL Kk1.out (by omega) 0 [.int .i64 ax, .int .i64 ay]) (by omega) 0 [.int .i64 bx, .int .i64 b_y])
    clear Kk1
    have k2 : Blk U3 (w.heap.size + 1) #[.int .i64 ax, .int .i64 ay] 24 := by rw [hU3]; exact Blk.drew (blk_setL (blk_full _ [.int .i64 ax, .int .i64 ay] Kk2.out rfl) (by omega) 0 [.int .i64 bx, .int .i64 b_y])
    clear Kk2
    have k3 : Blk U3 (w.heap.size + 1 + 1) #[.int .i64 bx, .int .i64 b_y] 24 := by rw [hU3]; exact Blk.drew (blk_full _ [.int .i64 bx, .int .i64 b_y] (blk_setL Kk3.out (by omega) 0 [.int .i64 ax, .int .i64 ay]) rfl)
    clear Kk3
    replace hb0 : Below w.heap.size w U3 := by rw [hU3]; exact Below.drew (blw_setL (blw_setL hb0 (by omega) 0 [.int .i64 ax, .int .i64 ay]) (by omega) 0 [.int .i64 bx, .int .i64 b_y])
    clear hU3
    have e0 : ax = R0 := by rw [← HR0.out]; unfold lwx; (try rw [Hr1.out]); (try rw [hz2]); all_goals first | rfl | simp
    have e1 : ay = R1 := by rw [← HR1.out]; unfold lwy; (try rw [Hr1.out]); (try rw [hz2]); all_goals first | rfl | simp
    have e2 : bx = R2 := by rw [← HR2.out]; unfold hgx; (try rw [Hr1.out]); (try rw [hz2]); all_goals first | rfl | simp
    have e3 : b_y = R3 := by rw [← HR3.out]; unfold hgy; (try rw [Hr1.out]); (try rw [hz2]); all_goals first | rfl | simp
    subst e0
    subst e1
    subst e2
    subst e3
    go_wp2
    have g2_0 : U3.cell? ⟨(w.heap.size + 1), 0, none⟩ = some (.int .i64 ax) := k2.cell 0
    have g2_1 : U3.cell? ⟨(w.heap.size + 1), 1, none⟩ = some (.int .i64 ay) := k2.cell 1
    have g3_0 : U3.cell? ⟨(w.heap.size + 1 + 1), 0, none⟩ = some (.int .i64 bx) := k3.cell 0
    have g3_1 : U3.cell? ⟨(w.heap.size + 1 + 1), 1, none⟩ = some (.int .i64 b_y) := k3.cell 1
    clear k1 k2 k3
    simp [bodyPost, results, Try.results64, go_sem, g2_0, g2_1, g3_0, g3_1]
    first | exact hb0 | exact ⟨rfl, hb0⟩
  · go_wp2_with fail
    have c1_0 : U2.cell? ⟨w.heap.size, 0, none⟩ = some (.int .i64 ax) := k1.cell 0
    have c1_1 : U2.cell? ⟨w.heap.size, 1, none⟩ = some (.int .i64 ay) := k1.cell 1
    have c1_2 : U2.cell? ⟨w.heap.size, 2, none⟩ = some (.int .i64 bx) := k1.cell 2
    have c1_3 : U2.cell? ⟨w.heap.size, 3, none⟩ = some (.int .i64 b_y) := k1.cell 3
    have l1 := k1.lt
    have c2_0 : U2.cell? ⟨(w.heap.size + 1), 0, none⟩ = some (.int .i64 0) := k2.cell 0
    have c2_1 : U2.cell? ⟨(w.heap.size + 1), 1, none⟩ = some (.int .i64 0) := k2.cell 1
    have f2_0 := k2.free 0
    have f2_1 := k2.free 1
    have l2 := k2.lt
    have c3_0 : U2.cell? ⟨(w.heap.size + 1 + 1), 0, none⟩ = some (.int .i64 0) := k3.cell 0
    have c3_1 : U2.cell? ⟨(w.heap.size + 1 + 1), 1, none⟩ = some (.int .i64 0) := k3.cell 1
    have f3_0 := k3.free 0
    have f3_1 := k3.free 1
    have l3 := k3.lt
    have p1_2 : w.heap.size ≠ (w.heap.size + 1) := (by omega)
    have p1_3 : w.heap.size ≠ (w.heap.size + 1 + 1) := (by omega)
    have p2_3 : (w.heap.size + 1) ≠ (w.heap.size + 1 + 1) := (by omega)
    have Kk1 := Lib.hid k1
    clear k1
    have Kk2 := Lib.hid k2
    clear k2
    have Kk3 := Lib.hid k3
    clear k3
    go_region
    first | refine name_q ?_ | refine calls_w ?_ | refine name_world ?_ | refine list_world ?_ | refine post_world ?_
    intro U4 hU4
    clear c1_0 c1_1 c1_2 c1_3 l1 c2_0 c2_1 f2_0 f2_1 l2 c3_0 c3_1 f3_0 f3_1 l3 p1_2 p1_3 p2_3
    have k1 : Blk U4 w.heap.size #[.int .i64 ax, .int .i64 ay, .int .i64 bx, .int .i64 b_y] 50 := by rw [hU4]; exact Blk.drew (blk_setL (blk_setL Kk1.out (by omega) 0 [.int .i64 bx, .int .i64 b_y]) (by omega) 0 [.int .i64 ax, .int .i64 ay])
    clear Kk1
    have k2 : Blk U4 (w.heap.size + 1) #[.int .i64 bx, .int .i64 b_y] 24 := by rw [hU4]; exact Blk.drew (blk_setL (blk_full _ [.int .i64 bx, .int .i64 b_y] Kk2.out rfl) (by omega) 0 [.int .i64 ax, .int .i64 ay])
    clear Kk2
    have k3 : Blk U4 (w.heap.size + 1 + 1) #[.int .i64 ax, .int .i64 ay] 24 := by rw [hU4]; exact Blk.drew (blk_full _ [.int .i64 ax, .int .i64 ay] (blk_setL Kk3.out (by omega) 0 [.int .i64 bx, .int .i64 b_y]) rfl)
    clear Kk3
    replace hb0 : Below w.heap.size w U4 := by rw [hU4]; exact Below.drew (blw_setL (blw_setL hb0 (by omega) 0 [.int .i64 bx, .int .i64 b_y]) (by omega) 0 [.int .i64 ax, .int .i64 ay])
    clear hU4
    have e0 : bx = R0 := by rw [← HR0.out]; unfold lwx; (try rw [Hr1.out]); (try rw [hz2]); all_goals first | rfl | simp
    have e1 : b_y = R1 := by rw [← HR1.out]; unfold lwy; (try rw [Hr1.out]); (try rw [hz2]); all_goals first | rfl | simp
    have e2 : ax = R2 := by rw [← HR2.out]; unfold hgx; (try rw [Hr1.out]); (try rw [hz2]); all_goals first | rfl | simp
    have e3 : ay = R3 := by rw [← HR3.out]; unfold hgy; (try rw [Hr1.out]); (try rw [hz2]); all_goals first | rfl | simp
    subst e0
    subst e1
    subst e2
    subst e3
    go_wp2
    have g2_0 : U4.cell? ⟨(w.heap.size + 1), 0, none⟩ = some (.int .i64 bx) := k2.cell 0
    have g2_1 : U4.cell? ⟨(w.heap.size + 1), 1, none⟩ = some (.int .i64 b_y) := k2.cell 1
    have g3_0 : U4.cell? ⟨(w.heap.size + 1 + 1), 0, none⟩ = some (.int .i64 ax) := k3.cell 0
    have g3_1 : U4.cell? ⟨(w.heap.size + 1 + 1), 1, none⟩ = some (.int .i64 ay) := k3.cell 1
    clear k1 k2 k3
    simp [bodyPost, results, Try.results64, go_sem, g2_0, g2_1, g3_0, g3_1]
    first | exact hb0 | exact ⟨rfl, hb0⟩
end Go.Proofs.Ytlcbomjdbdgbmaa

namespace Go.Proofs.Ytlcbomjdbdgbmaa
open Go.RowKit

def atx (x : Int) (y : Int) : Int := (bif (rp x y) then x else 0)

def aty (x : Int) (y : Int) : Int := (bif (rp x y) then y else 0)

def atw (x : Int) (y : Int) : Int := (bif (rp x y) then 1 else 0)

theorem atx_in (x : Int) (y : Int) (_ix : In64 x) (_iy : In64 y) : InI (atx x y) := by
  unfold atx
  exact (cond_in (in64_I' _ix) in_0)

theorem aty_in (x : Int) (y : Int) (_ix : In64 x) (_iy : In64 y) : InI (aty x y) := by
  unfold aty
  exact (cond_in (in64_I' _iy) in_0)

theorem atw_in (x : Int) (y : Int) (_ix : In64 x) (_iy : In64 y) : InI (atw x y) := by
  unfold atw
  exact (cond_in (by unfold InI b255; omega) in_0)

set_option maxRecDepth 100000 in
set_option maxHeartbeats 4000000 in

theorem crAt_is (x : Int) (y : Int)  (R0 : Int) (R1 : Int) (R2 : Int) (hR0 : atx x y = R0) (hR1 : aty x y = R1) (hR2 : atw x y = R2) (_ix : In64 x) (_iy : In64 y)  (w : World)  :
    Calls Try.prog 47 #[.agg #[.int .i64 x, .int .i64 y]] w fun e w' => e = .returned (.agg #[.int .u64 (wd0 R0), .int .u64 (wd1 R0), .int .u64 (wd2 R0), .int .u64 (wd3 R0), .int .u64 (wd0 R1), .int .u64 (wd1 R1), .int .u64 (wd2 R1), .int .u64 (wd3 R1), .int .u64 (wd0 R2), .int .u64 (wd1 R2), .int .u64 (wd2 R2), .int .u64 (wd3 R2)]) ∧ Below w.heap.size w w' := by

  have HR0 := Lib.hid hR0
  clear hR0
  have HR1 := Lib.hid hR1
  clear hR1
  have HR2 := Lib.hid hR2
  clear hR2
  go_enter Try.func47, Try.ntmps47
  go_wp2_with fail
  first | refine calls_w ?_ | refine name_world ?_ | refine list_world ?_ | refine post_world ?_
  intro V1 hV1
  have hn : Below w.heap.size w V1 := by rw [hV1]; exact below_a2 _ _ _
  have nhb0 := hn
  have k1 : Blk V1 w.heap.size #[.int .i64 x, .int .i64 y] 24 := by rw [hV1]; exact ((Blk.new _ _ _).alloc _)
  have k2 : Blk V1 (w.heap.size + 1) #[.int .u64 0, .int .u64 0, .int .u64 0, .int .u64 0, .int .u64 0, .int .u64 0, .int .u64 0, .int .u64 0, .int .u64 0, .int .u64 0, .int .u64 0, .int .u64 0] 67 := by rw [hV1]; exact (Blk.new1 _ _ _ _)
  clear hV1
  have hb0 := nhb0
  clear nhb0
  obtain ⟨z1, hz1⟩ : ∃ o_o : Bool, rp x y = o_o := ⟨_, rfl⟩
  have Hz1 := Lib.hid hz1
  clear hz1
  refine (PtRight_v x y z1 Hz1.out _).mono ?_
  rintro e U2 ⟨rfl, hn⟩
  replace k1 := k1.of hn
  replace k2 := k2.of hn
  replace hb0 := hb0.trans (hn.mono hb0.size)
  clear hn
  cases z1
  · have c2_0 : U2.cell? ⟨(w.heap.size + 1), 0, none⟩ = some (.int .u64 0) := k2.cell 0
    have c2_1 : U2.cell? ⟨(w.heap.size + 1), 1, none⟩ = some (.int .u64 0) := k2.cell 1
    have c2_2 : U2.cell? ⟨(w.heap.size + 1), 2, none⟩ = some (.int .u64 0) := k2.cell 2
    have c2_3 : U2.cell? ⟨(w.heap.size + 1), 3, none⟩ = some (.int .u64 0) := k2.cell 3
    have c2_4 : U2.cell? ⟨(w.heap.size + 1), 4, none⟩ = some (.int .u64 0) := k2.cell 4
    have c2_5 : U2.cell? ⟨(w.heap.size + 1), 5, none⟩ = some (.int .u64 0) := k2.cell 5
    have c2_6 : U2.cell? ⟨(w.heap.size + 1), 6, none⟩ = some (.int .u64 0) := k2.cell 6
    have c2_7 : U2.cell? ⟨(w.heap.size + 1), 7, none⟩ = some (.int .u64 0) := k2.cell 7
    have c2_8 : U2.cell? ⟨(w.heap.size + 1), 8, none⟩ = some (.int .u64 0) := k2.cell 8
    have c2_9 : U2.cell? ⟨(w.heap.size + 1), 9, none⟩ = some (.int .u64 0) := k2.cell 9
    have c2_10 : U2.cell? ⟨(w.heap.size + 1), 10, none⟩ = some (.int .u64 0) := k2.cell 10
    have c2_11 : U2.cell? ⟨(w.heap.size + 1), 11, none⟩ = some (.int .u64 0) := k2.cell 11
    have f2_0 := k2.free 0
    have f2_1 := k2.free 1
    have f2_2 := k2.free 2
    have f2_3 := k2.free 3
    have f2_4 := k2.free 4
    have f2_5 := k2.free 5
    have f2_6 := k2.free 6
    have f2_7 := k2.free 7
    have f2_8 := k2.free 8
    have f2_9 := k2.free 9
    have f2_10 := k2.free 10
    have f2_11 := k2.free 11
    have l2 := k2.lt
    have e0 : 0 = R0 := by rw [← HR0.out]; unfold atx; (try rw [Hz1.out]); all_goals first | rfl | simp
    have e1 : 0 = R1 := by rw [← HR1.out]; unfold aty; (try rw [Hz1.out]); all_goals first | rfl | simp
    have e2 : 0 = R2 := by rw [← HR2.out]; unfold atw; (try rw [Hz1.out]); all_goals first | rfl | simp
    subst e0
    subst e1
    subst e2
    go_wp2
    clear c2_0 c2_1 c2_2 c2_3 c2_4 c2_5 c2_6 c2_7 c2_8 c2_9 c2_10 c2_11 f2_0 f2_1 f2_2 f2_3 f2_4 f2_5 f2_6 f2_7 f2_8 f2_9 f2_10 f2_11 l2
    first | refine post_world ?_
    intro V3 hV3
    have D1 := Lib.hid k1.lt
    have D2 := Lib.hid k2.lt
    have D3 := Lib.hid hb0.size
    clear k1
    have nk2 : Blk V3 (w.heap.size + 1) #[.int .u64 0, .int .u64 0, .int .u64 0, .int .u64 0, .int .u64 0, .int .u64 0, .int .u64 0, .int .u64 0, .int .u64 0, .int .u64 0, .int .u64 0, .int .u64 0] 67 := by rw [hV3]; exact (blk_full _ [.int .u64 0, .int .u64 0, .int .u64 0, .int .u64 0, .int .u64 0, .int .u64 0, .int .u64 0, .int .u64 0, .int .u64 0, .int .u64 0, .int .u64 0, .int .u64 0] k2 rfl)
    have nhb0 : Below w.heap.size w V3 := by rw [hV3]; exact (blw_setL hb0 (by omega) 0 [.int .u64 0, .int .u64 0, .int .u64 0, .int .u64 0, .int .u64 0, .int .u64 0, .int .u64 0, .int .u64 0, .int .u64 0, .int .u64 0, .int .u64 0, .int .u64 0])
    clear k2
    clear hb0
    clear hV3
    have k2 := nk2
    clear nk2
    have hb0 := nhb0
    clear nhb0
    have g2_0 : V3.cell? ⟨(w.heap.size + 1), 0, none⟩ = some (.int .u64 0) := k2.cell 0
    have g2_1 : V3.cell? ⟨(w.heap.size + 1), 1, none⟩ = some (.int .u64 0) := k2.cell 1
    have g2_2 : V3.cell? ⟨(w.heap.size + 1), 2, none⟩ = some (.int .u64 0) := k2.cell 2
    have g2_3 : V3.cell? ⟨(w.heap.size + 1), 3, none⟩ = some (.int .u64 0) := k2.cell 3
    have g2_4 : V3.cell? ⟨(w.heap.size + 1), 4, none⟩ = some (.int .u64 0) := k2.cell 4
    have g2_5 : V3.cell? ⟨(w.heap.size + 1), 5, none⟩ = some (.int .u64 0) := k2.cell 5
    have g2_6 : V3.cell? ⟨(w.heap.size + 1), 6, none⟩ = some (.int .u64 0) := k2.cell 6
    have g2_7 : V3.cell? ⟨(w.heap.size + 1), 7, none⟩ = some (.int .u64 0) := k2.cell 7
    have g2_8 : V3.cell? ⟨(w.heap.size + 1), 8, none⟩ = some (.int .u64 0) := k2.cell 8
    have g2_9 : V3.cell? ⟨(w.heap.size + 1), 9, none⟩ = some (.int .u64 0) := k2.cell 9
    have g2_10 : V3.cell? ⟨(w.heap.size + 1), 10, none⟩ = some (.int .u64 0) := k2.cell 10
    have g2_11 : V3.cell? ⟨(w.heap.size + 1), 11, none⟩ = some (.int .u64 0) := k2.cell 11
    clear k2
    simp [bodyPost, results, Try.results47, go_sem, g2_0, g2_1, g2_2, g2_3, g2_4, g2_5, g2_6, g2_7, g2_8, g2_9, g2_10, g2_11, wd0_0, wd1_0, wd2_0, wd3_0]
    first | exact hb0 | exact ⟨rfl, hb0⟩
  · go_wp2_with fail
    have c1_0 : U2.cell? ⟨w.heap.size, 0, none⟩ = some (.int .i64 x) := k1.cell 0
    have c1_1 : U2.cell? ⟨w.heap.size, 1, none⟩ = some (.int .i64 y) := k1.cell 1
    have l1 := k1.lt
    have Kk1 := Lib.hid k1
    clear k1
    have Kk2 := Lib.hid k2
    clear k2
    refine wp_region_up U2.heap.size 5 [(true, 0), (true, 1), (true, 3), (true, 4), (false, 2)] (by kernel_rfl) (by kernel_rfl) (fun _ _ d _ _ h => by cases d <;> exact h) ?_
    have hb : Below U2.heap.size U2 U2.drew := (Below.refl _ _).drew
    iterate 4
      refine wpS_takeL rfl rfl ?_
      go_big_quiet_step (rfl)
      refine wpQuiet_nil ?_
    refine wpS_doL rfl ?_
    intro K hK
    go_wp2_with ((go_at_call 62; (with_reducible refine (Of_v x x rfl _ix _).mono ?_); rintro e w2 ⟨rfl, hn⟩))
    replace hb := hb.trans (hn.mono hb.size)
    refine hK.out _ _ (up_iff.2 hb) ?_
    clear hK K
    clear hn
    refine wpS_nil ?_
    simp only [List.drop_succ_cons, List.drop_zero]
    first | refine calls_w ?_ | refine name_world ?_ | refine list_world ?_ | refine post_world ?_
    intro U4 hU4
    first | subst hU4 | (rw [← hU4] at hb; clear hU4)
    clear c1_0 c1_1 l1
    have k1 := Kk1.out.of hb
    clear Kk1
    have k2 := Kk2.out.of hb
    clear Kk2
    replace hb0 := hb0.trans (hb.mono hb0.size)
    clear hb
    go_wp2_with fail
    refine (Of_v y y rfl _iy _).mono ?_
    rintro e U5 ⟨rfl, hn⟩
    clear k1
    replace k2 := k2.of hn
    replace hb0 := hb0.trans (hn.mono hb0.size)
    clear hn
    go_wp2_with fail
    refine (Of_v 1 1 rfl (by unfold In64; omega) _).mono ?_
    rintro e U6 ⟨rfl, hn⟩
    replace k2 := k2.of hn
    replace hb0 := hb0.trans (hn.mono hb0.size)
    clear hn
    have c2_0 : U6.cell? ⟨(w.heap.size + 1), 0, none⟩ = some (.int .u64 0) := k2.cell 0
    have c2_1 : U6.cell? ⟨(w.heap.size + 1), 1, none⟩ = some (.int .u64 0) := k2.cell 1
    have c2_2 : U6.cell? ⟨(w.heap.size + 1), 2, none⟩ = some (.int .u64 0) := k2.cell 2
    have c2_3 : U6.cell? ⟨(w.heap.size + 1), 3, none⟩ = some (.int .u64 0) := k2.cell 3
    have c2_4 : U6.cell? ⟨(w.heap.size + 1), 4, none⟩ = some (.int .u64 0) := k2.cell 4
    have c2_5 : U6.cell? ⟨(w.heap.size + 1), 5, none⟩ = some (.int .u64 0) := k2.cell 5
    have c2_6 : U6.cell? ⟨(w.heap.size + 1), 6, none⟩ = some (.int .u64 0) := k2.cell 6
    have c2_7 : U6.cell? ⟨(w.heap.size + 1), 7, none⟩ = some (.int .u64 0) := k2.cell 7
    have c2_8 : U6.cell? ⟨(w.heap.size + 1), 8, none⟩ = some (.int .u64 0) := k2.cell 8
    have c2_9 : U6.cell? ⟨(w.heap.size + 1), 9, none⟩ = some (.int .u64 0) := k2.cell 9
    have c2_10 : U6.cell? ⟨(w.heap.size + 1), 10, none⟩ = some (.int .u64 0) := k2.cell 10
    have c2_11 : U6.cell? ⟨(w.heap.size + 1), 11, none⟩ = some (.int .u64 0) := k2.cell 11
    have f2_0 := k2.free 0
    have f2_1 := k2.free 1
    have f2_2 := k2.free 2
    have f2_3 := k2.free 3
    have f2_4 := k2.free 4
    have f2_5 := k2.free 5
    have f2_6 := k2.free 6
    have f2_7 := k2.free 7
    have f2_8 := k2.free 8
    have f2_9 := k2.free 9
    have f2_10 := k2.free 10
    have f2_11 := k2.free 11
    have l2 := k2.lt
    have e0 : x = R0 := by rw [← HR0.out]; unfold atx; (try rw [Hz1.out]); all_goals first | rfl | simp
    have e1 : y = R1 := by rw [← HR1.out]; unfold aty; (try rw [Hz1.out]); all_goals first | rfl | simp
    have e2 : 1 = R2 := by rw [← HR2.out]; unfold atw; (try rw [Hz1.out]); all_goals first | rfl | simp
    subst e0
    subst e1
    subst e2
    go_wp2
    clear c2_0 c2_1 c2_2 c2_3 c2_4 c2_5 c2_6 c2_7 c2_8 c2_9 c2_10 c2_11 f2_0 f2_1 f2_2 f2_3 f2_4 f2_5 f2_6 f2_7 f2_8 f2_9 f2_10 f2_11 l2
    first | refine post_world ?_
    intro V7 hV7
    have D4 := Lib.hid k2.lt
    have D5 := Lib.hid hb0.size
    have nk2 : Blk V7 (w.heap.size + 1) #[.int .u64 (wd0 x), .int .u64 (wd1 x), .int .u64 (wd2 x), .int .u64 (wd3 x), .int .u64 (wd0 y), .int .u64 (wd1 y), .int .u64 (wd2 y), .int .u64 (wd3 y), .int .u64 (wd0 1), .int .u64 (wd1 1), .int .u64 (wd2 1), .int .u64 (wd3 1)] 67 := by rw [hV7]; exact (blk_full _ [.int .u64 (wd0 x), .int .u64 (wd1 x), .int .u64 (wd2 x), .int .u64 (wd3 x), .int .u64 (wd0 y), .int .u64 (wd1 y), .int .u64 (wd2 y), .int .u64 (wd3 y), .int .u64 (wd0 1), .int .u64 (wd1 1), .int .u64 (wd2 1), .int .u64 (wd3 1)] k2 rfl)
    have nhb0 : Below w.heap.size w V7 := by rw [hV7]; exact (blw_setL hb0 (by omega) 0 [.int .u64 (wd0 x), .int .u64 (wd1 x), .int .u64 (wd2 x), .int .u64 (wd3 x), .int .u64 (wd0 y), .int .u64 (wd1 y), .int .u64 (wd2 y), .int .u64 (wd3 y), .int .u64 (wd0 1), .int .u64 (wd1 1), .int .u64 (wd2 1), .int .u64 (wd3 1)])
    clear k2
    clear hb0
    clear hV7
    have k2 := nk2
    clear nk2
    have hb0 := nhb0
    clear nhb0
    have g2_0 : V7.cell? ⟨(w.heap.size + 1), 0, none⟩ = some (.int .u64 (wd0 x)) := k2.cell 0
    have g2_1 : V7.cell? ⟨(w.heap.size + 1), 1, none⟩ = some (.int .u64 (wd1 x)) := k2.cell 1
    have g2_2 : V7.cell? ⟨(w.heap.size + 1), 2, none⟩ = some (.int .u64 (wd2 x)) := k2.cell 2
    have g2_3 : V7.cell? ⟨(w.heap.size + 1), 3, none⟩ = some (.int .u64 (wd3 x)) := k2.cell 3
    have g2_4 : V7.cell? ⟨(w.heap.size + 1), 4, none⟩ = some (.int .u64 (wd0 y)) := k2.cell 4
    have g2_5 : V7.cell? ⟨(w.heap.size + 1), 5, none⟩ = some (.int .u64 (wd1 y)) := k2.cell 5
    have g2_6 : V7.cell? ⟨(w.heap.size + 1), 6, none⟩ = some (.int .u64 (wd2 y)) := k2.cell 6
    have g2_7 : V7.cell? ⟨(w.heap.size + 1), 7, none⟩ = some (.int .u64 (wd3 y)) := k2.cell 7
    have g2_8 : V7.cell? ⟨(w.heap.size + 1), 8, none⟩ = some (.int .u64 (wd0 1)) := k2.cell 8
    have g2_9 : V7.cell? ⟨(w.heap.size + 1), 9, none⟩ = some (.int .u64 (wd1 1)) := k2.cell 9
    have g2_10 : V7.cell? ⟨(w.heap.size + 1), 10, none⟩ = some (.int .u64 (wd2 1)) := k2.cell 10
    have g2_11 : V7.cell? ⟨(w.heap.size + 1), 11, none⟩ = some (.int .u64 (wd3 1)) := k2.cell 11
    clear k2
    simp [bodyPost, results, Try.results47, go_sem, g2_0, g2_1, g2_2, g2_3, g2_4, g2_5, g2_6, g2_7, g2_8, g2_9, g2_10, g2_11]
    first | exact hb0 | exact ⟨rfl, hb0⟩

theorem alCr1_0 : AllocRuns Try.prog 35 #[.int .u64 0, .int .u64 0, .int .u64 0, .int .u64 0] := fun w => by kernel_rfl

def spR (x : Int) (y : Int) (v : Int) : Bool := (bif decide ((v.sign) ≤ 0) then false else (bif decide (0 < (cmpI v (mulv 35184372088832 35184372088832))) then false else (bif decide (0 ≤ (cmpI x (subv 0 (mulv v 2199023255552)))) then (bif decide ((cmpI x (mulv v 2199023255552)) ≤ 0) then (bif decide (0 ≤ (cmpI y (subv 0 (mulv v 2199023255552)))) then decide ((cmpI y (mulv v 2199023255552)) ≤ 0) else false) else false) else false)))

set_option maxRecDepth 100000 in
set_option maxHeartbeats 4000000 in

theorem SpRight_is (x : Int) (y : Int) (v : Int)  (R0 : Bool) (hR0 : spR x y v = R0) (_ix : InI x) (_iy : InI y) (_iv : InI v)  (w : World)  :
    Calls Try.prog 59 #[.agg #[.int .u64 (wd0 x), .int .u64 (wd1 x), .int .u64 (wd2 x), .int .u64 (wd3 x), .int .u64 (wd0 y), .int .u64 (wd1 y), .int .u64 (wd2 y), .int .u64 (wd3 y), .int .u64 (wd0 v), .int .u64 (wd1 v), .int .u64 (wd2 v), .int .u64 (wd3 v)]] w fun e w' => e = .returned (.bool R0) ∧ Below w.heap.size w w' := by

  have HR0 := Lib.hid hR0
  clear hR0
  go_enter Try.func59, Try.ntmps59
  go_wp2_with fail
  first | refine calls_w ?_ | refine name_world ?_ | refine list_world ?_ | refine post_world ?_
  intro V1 hV1
  have hn : Below w.heap.size w V1 := by rw [hV1]; exact below_a1 _ _
  have nhb0 := hn
  have k1 : Blk V1 w.heap.size #[.int .u64 (wd0 x), .int .u64 (wd1 x), .int .u64 (wd2 x), .int .u64 (wd3 x), .int .u64 (wd0 y), .int .u64 (wd1 y), .int .u64 (wd2 y), .int .u64 (wd3 y), .int .u64 (wd0 v), .int .u64 (wd1 v), .int .u64 (wd2 v), .int .u64 (wd3 v)] 67 := by rw [hV1]; exact (Blk.new _ _ _)
  clear hV1
  have hb0 := nhb0
  clear nhb0
  obtain ⟨r1, hr1⟩ : ∃ o_o : Int, v.sign = o_o := ⟨_, rfl⟩
  have Hr1 := Lib.hid hr1
  clear hr1
  obtain ⟨z2, hz2⟩ : ∃ o_o : Bool, decide (r1 ≤ 0) = o_o := ⟨_, rfl⟩
  cases z2
  · obtain ⟨r3, hr3⟩ : ∃ o_o : Int, mulv 35184372088832 35184372088832 = o_o := ⟨_, rfl⟩
    have Hr3 := Lib.hid hr3
    clear hr3
    have c1_8 : V1.cell? ⟨w.heap.size, 8, none⟩ = some (.int .u64 (wd0 v)) := k1.cell 8
    have c1_9 : V1.cell? ⟨w.heap.size, 9, none⟩ = some (.int .u64 (wd1 v)) := k1.cell 9
    have c1_10 : V1.cell? ⟨w.heap.size, 10, none⟩ = some (.int .u64 (wd2 v)) := k1.cell 10
    have c1_11 : V1.cell? ⟨w.heap.size, 11, none⟩ = some (.int .u64 (wd3 v)) := k1.cell 11
    have l1 := k1.lt
    have Kk1 := Lib.hid k1
    clear k1
    refine wp_region_up V1.heap.size 10 [(true, 0), (true, 1), (false, 2), (true, 3), (true, 4), (true, 5), (true, 6), (false, 7), (false, 8), (false, 9)] (by kernel_rfl) (by kernel_rfl) (fun _ _ d _ _ h => by cases d <;> exact h) ?_
    have hb : Below V1.heap.size V1 V1.drew := (Below.refl _ _).drew
    iterate 2
      refine wpS_takeL rfl rfl ?_
      go_big_quiet_step (rfl)
      refine wpQuiet_nil ?_
    refine wpS_doL rfl ?_
    intro K hK
    go_wp2_with ((first | (go_at_call 22; (with_reducible refine (Sign_v v r1 Hr1.out _iv _).mono ?_); rintro e w2 ⟨rfl, hn⟩) | (go_at_call 62; (with_reducible refine (Of_v 35184372088832 35184372088832 rfl (by unfold In64; omega) _).mono ?_); rintro e w2 ⟨rfl, hn⟩) | (go_at_call 106; (with_reducible refine (crtimes_is 35184372088832 35184372088832 r3 Hr3.out (by unfold InI b255; omega) (by unfold InI b255; omega)  _).mono ?_); rintro e w2 ⟨rfl, hn⟩)))
    replace hb := hb.trans (hn.mono hb.size)
    refine hK.out _ _ (up_iff.2 hb) ?_
    clear hK K
    clear hn
    iterate 4
      refine wpS_takeL rfl rfl ?_
      go_big_quiet_step (rfl)
      refine wpQuiet_nil ?_
    refine wpS_doL rfl ?_
    intro K hK
    go_wp2_with ((first | (go_at_call 22; (with_reducible refine (Sign_v v r1 Hr1.out _iv _).mono ?_); rintro e w2 ⟨rfl, hn⟩) | (go_at_call 62; (with_reducible refine (Of_v 35184372088832 35184372088832 rfl (by unfold In64; omega) _).mono ?_); rintro e w2 ⟨rfl, hn⟩) | (go_at_call 106; (with_reducible refine (crtimes_is 35184372088832 35184372088832 r3 Hr3.out (by unfold InI b255; omega) (by unfold InI b255; omega)  _).mono ?_); rintro e w2 ⟨rfl, hn⟩)))
    try replace hb := hb.trans (hn.mono hb.size)
    refine hK.out _ _ (up_iff.2 hb) ?_
    clear hK K
    try clear hn
    refine wpS_doL rfl ?_
    intro K hK
    go_wp2_with ((first | (go_at_call 22; (with_reducible refine (Sign_v v r1 Hr1.out _iv _).mono ?_); rintro e w2 ⟨rfl, hn⟩) | (go_at_call 62; (with_reducible refine (Of_v 35184372088832 35184372088832 rfl (by unfold In64; omega) _).mono ?_); rintro e w2 ⟨rfl, hn⟩) | (go_at_call 106; (with_reducible refine (crtimes_is 35184372088832 35184372088832 r3 Hr3.out (by unfold InI b255; omega) (by unfold InI b255; omega)  _).mono ?_); rintro e w2 ⟨rfl, hn⟩)))
    try replace hb := hb.trans (hn.mono hb.size)
    refine hK.out _ _ (up_iff.2 hb) ?_
    clear hK K
    try clear hn
    refine wpS_doL rfl ?_
    intro K hK
    go_wp2_with ((first | (go_at_call 22; (with_reducible refine (Sign_v v r1 Hr1.out _iv _).mono ?_); rintro e w2 ⟨rfl, hn⟩) | (go_at_call 62; (with_reducible refine (Of_v 35184372088832 35184372088832 rfl (by unfold In64; omega) _).mono ?_); rintro e w2 ⟨rfl, hn⟩) | (go_at_call 106; (with_reducible refine (crtimes_is 35184372088832 35184372088832 r3 Hr3.out (by unfold InI b255; omega) (by unfold InI b255; omega)  _).mono ?_); rintro e w2 ⟨rfl, hn⟩)))
    try replace hb := hb.trans (hn.mono hb.size)
    refine hK.out _ _ (up_iff.2 hb) ?_
    clear hK K
    try clear hn
    refine wpS_nil ?_
    simp only [List.drop_succ_cons, List.drop_zero]
    first | refine calls_w ?_ | refine name_world ?_ | refine list_world ?_ | refine post_world ?_
    intro U2 hU2
    first | subst hU2 | (rw [← hU2] at hb; clear hU2)
    clear c1_8 c1_9 c1_10 c1_11 l1
    have k1 := Kk1.out.of hb
    clear Kk1
    replace hb0 := hb0.trans (hb.mono hb0.size)
    clear hb
    go_wp2_with fail
    obtain ⟨r4, hr4⟩ : ∃ o_o : Int, cmpI v r3 = o_o := ⟨_, rfl⟩
    have Hr4 := Lib.hid hr4
    clear hr4
    refine (Cmp_v v r3 r4 Hr4.out _iv (Hr3.out ▸ mulv_in 35184372088832 35184372088832) _).mono ?_
    rintro e U3 ⟨rfl, hn⟩
    replace k1 := k1.of hn
    replace hb0 := hb0.trans (hn.mono hb0.size)
    clear hn
    obtain ⟨z5, hz5⟩ : ∃ o_o : Bool, decide (0 < r4) = o_o := ⟨_, rfl⟩
    cases z5
    · go_wp2_with fail
      obtain ⟨r6, hr6⟩ : ∃ o_o : Int, mulv v 2199023255552 = o_o := ⟨_, rfl⟩
      have Hr6 := Lib.hid hr6
      clear hr6
      have c1_8 : U3.cell? ⟨w.heap.size, 8, none⟩ = some (.int .u64 (wd0 v)) := k1.cell 8
      have c1_9 : U3.cell? ⟨w.heap.size, 9, none⟩ = some (.int .u64 (wd1 v)) := k1.cell 9
      have c1_10 : U3.cell? ⟨w.heap.size, 10, none⟩ = some (.int .u64 (wd2 v)) := k1.cell 10
      have c1_11 : U3.cell? ⟨w.heap.size, 11, none⟩ = some (.int .u64 (wd3 v)) := k1.cell 11
      have l1 := k1.lt
      have Kk1 := Lib.hid k1
      clear k1
      refine wp_region_float1 5 4 [(true, 0), (true, 1), (false, 2), (false, 3)] (by kernel_rfl) (by kernel_rfl) (fun _ _ d _ _ => by cases d <;> exact Iff.rfl) rfl rfl rfl alCr1_0 ?_
      have hb : Below U3.heap.size U3 U3.drew := (Below.refl _ _).drew
      iterate 2
        refine wpF_take rfl rfl ?_
        go_big_quiet_step (rfl)
        refine wpQuiet_nil ?_
      refine wpF_do rfl ?_
      intro w1 hg K hK
      replace hb := hb.trans (hg.mono hb.size)
      clear hg
      go_wp2_with ((first | (go_at_call 62; (with_reducible refine (Of_v 2199023255552 2199023255552 rfl (by unfold In64; omega) _).mono ?_); rintro e w2 ⟨rfl, hn⟩) | (go_at_call 106; (with_reducible refine (crtimes_is v 2199023255552 r6 Hr6.out _iv (by unfold InI b255; omega)  _).mono ?_); rintro e w2 ⟨rfl, hn⟩)))
      refine hK.out _ _ hn ?_
      replace hb := hb.trans (hn.mono hb.size)
      clear hK K
      clear hn
      refine wpF_do rfl ?_
      intro w1 hg K hK
      replace hb := hb.trans (hg.mono hb.size)
      clear hg
      go_wp2_with ((first | (go_at_call 62; (with_reducible refine (Of_v 2199023255552 2199023255552 rfl (by unfold In64; omega) _).mono ?_); rintro e w2 ⟨rfl, hn⟩) | (go_at_call 106; (with_reducible refine (crtimes_is v 2199023255552 r6 Hr6.out _iv (by unfold InI b255; omega)  _).mono ?_); rintro e w2 ⟨rfl, hn⟩)))
      refine hK.out _ _ hn ?_
      replace hb := hb.trans (hn.mono hb.size)
      clear hK K
      clear hn
      refine wpF_nil ?_
      clear hb
      intro w1 hg hb b1 lb1 nb1
      clear hg
      simp only [Act.put, ptrTo, List.setIfInBounds_toArray, List.set_cons_succ, List.set_cons_zero]
      simp only [List.drop_succ_cons, List.drop_zero]
      clear c1_8 c1_9 c1_10 c1_11 l1
      first | refine calls_w ?_ | refine name_world ?_ | refine list_world ?_ | refine post_world ?_
      intro U4 hU4
      subst hU4
      have D1 := Lib.hid Kk1.out.lt
      have D2 := Lib.hid hb0.size
      have k2 : Blk U4 b1 #[.int .u64 0, .int .u64 0, .int .u64 0, .int .u64 0] 35 := nb1
      have k1 := Kk1.out.of hb
      clear Kk1
      have D3 := Lib.hid lb1
      clear nb1 lb1
      replace hb0 := hb0.trans (hb.mono hb0.size)
      clear hb
      generalize b1 = q2 at *
      have c2_0 : U4.cell? ⟨q2, 0, none⟩ = some (.int .u64 0) := k2.cell 0
      have c2_1 : U4.cell? ⟨q2, 1, none⟩ = some (.int .u64 0) := k2.cell 1
      have c2_2 : U4.cell? ⟨q2, 2, none⟩ = some (.int .u64 0) := k2.cell 2
      have c2_3 : U4.cell? ⟨q2, 3, none⟩ = some (.int .u64 0) := k2.cell 3
      have f2_0 := k2.free 0
      have f2_1 := k2.free 1
      have f2_2 := k2.free 2
      have f2_3 := k2.free 3
      have l2 := k2.lt
      go_wp2_with fail
      clear c2_0 c2_1 c2_2 c2_3 f2_0 f2_1 f2_2 f2_3 l2
      first | refine calls_w ?_ | refine name_world ?_ | refine list_world ?_ | refine post_world ?_
      intro V5 hV5
      have D4 := Lib.hid k1.lt
      have D5 := Lib.hid k2.lt
      have D6 := Lib.hid hb0.size
      have nk1 : Blk V5 w.heap.size #[.int .u64 (wd0 x), .int .u64 (wd1 x), .int .u64 (wd2 x), .int .u64 (wd3 x), .int .u64 (wd0 y), .int .u64 (wd1 y), .int .u64 (wd2 y), .int .u64 (wd3 y), .int .u64 (wd0 v), .int .u64 (wd1 v), .int .u64 (wd2 v), .int .u64 (wd3 v)] 67 := by rw [hV5]; exact (blk_setL k1 (by have := D1.out; have := D3.out; omega) 0 [.int .u64 (wd0 r6), .int .u64 (wd1 r6), .int .u64 (wd2 r6), .int .u64 (wd3 r6)])
      have nk2 : Blk V5 q2 #[.int .u64 (wd0 r6), .int .u64 (wd1 r6), .int .u64 (wd2 r6), .int .u64 (wd3 r6)] 35 := by rw [hV5]; exact (blk_full _ [.int .u64 (wd0 r6), .int .u64 (wd1 r6), .int .u64 (wd2 r6), .int .u64 (wd3 r6)] k2 rfl)
      have nhb0 : Below w.heap.size w V5 := by rw [hV5]; exact (blw_setL hb0 (by have := D2.out; have := D3.out; omega) 0 [.int .u64 (wd0 r6), .int .u64 (wd1 r6), .int .u64 (wd2 r6), .int .u64 (wd3 r6)])
      clear k1 k2
      clear hb0
      clear hV5
      have k1 := nk1
      clear nk1
      have k2 := nk2
      clear nk2
      have hb0 := nhb0
      clear nhb0
      obtain ⟨r7, hr7⟩ : ∃ o_o : Int, subv 0 r6 = o_o := ⟨_, rfl⟩
      have Hr7 := Lib.hid hr7
      clear hr7
      refine (args_eq (a' := #[.agg #[.int .u64 0, .int .u64 0, .int .u64 0, .int .u64 0], .agg #[.int .u64 (wd0 r6), .int .u64 (wd1 r6), .int .u64 (wd2 r6), .int .u64 (wd3 r6)]]) (crless_is 0 r6 r7 Hr7.out (by unfold InI b255; omega) (Hr6.out ▸ mulv_in v 2199023255552)  _) (by kernel_rfl)).mono ?_
      rintro e U6 ⟨rfl, hn⟩
      replace k1 := k1.of hn
      replace k2 := k2.of hn
      replace hb0 := hb0.trans (hn.mono hb0.size)
      clear hn
      have c1_0 : U6.cell? ⟨w.heap.size, 0, none⟩ = some (.int .u64 (wd0 x)) := k1.cell 0
      have c1_1 : U6.cell? ⟨w.heap.size, 1, none⟩ = some (.int .u64 (wd1 x)) := k1.cell 1
      have c1_2 : U6.cell? ⟨w.heap.size, 2, none⟩ = some (.int .u64 (wd2 x)) := k1.cell 2
      have c1_3 : U6.cell? ⟨w.heap.size, 3, none⟩ = some (.int .u64 (wd3 x)) := k1.cell 3
      have l1 := k1.lt
      go_wp2_with fail
      clear c1_0 c1_1 c1_2 c1_3 l1
      first | refine calls_w ?_ | refine name_world ?_ | refine list_world ?_ | refine post_world ?_
      intro V7 hV7
      have D7 := Lib.hid k1.lt
      have D8 := Lib.hid k2.lt
      have D9 := Lib.hid hb0.size
      have hn : Below U6.heap.size U6 V7 := by rw [hV7]; exact below_a1 _ _
      have nk1 := k1.of hn
      have nk2 := k2.of hn
      have nhb0 := hb0.trans (hn.mono hb0.size)
      clear hn
      have k3 : Blk V7 U6.heap.size #[.int .u64 (wd0 r7), .int .u64 (wd1 r7), .int .u64 (wd2 r7), .int .u64 (wd3 r7)] 35 := by rw [hV7]; exact (Blk.new _ _ _)
      clear k1 k2
      clear hb0
      clear hV7
      have k1 := nk1
      clear nk1
      have k2 := nk2
      clear nk2
      have hb0 := nhb0
      clear nhb0
      obtain ⟨r8, hr8⟩ : ∃ o_o : Int, cmpI x r7 = o_o := ⟨_, rfl⟩
      have Hr8 := Lib.hid hr8
      clear hr8
      refine (Cmp_v x r7 r8 Hr8.out _ix (Hr7.out ▸ subv_in 0 r6) _).mono ?_
      rintro e U8 ⟨rfl, hn⟩
      replace k1 := k1.of hn
      replace k2 := k2.of hn
      replace k3 := k3.of hn
      replace hb0 := hb0.trans (hn.mono hb0.size)
      clear hn
      obtain ⟨z9, hz9⟩ : ∃ o_o : Bool, decide (0 ≤ r8) = o_o := ⟨_, rfl⟩
      cases z9
      · have e0 : false = R0 := by rw [← HR0.out]; unfold spR; (try rw [Hr1.out]); (try rw [hz2]); (try rw [Hr3.out]); (try rw [Hr4.out]); (try rw [hz5]); (try rw [Hr6.out]); (try rw [Hr7.out]); (try rw [Hr8.out]); (try rw [hz9]); all_goals first | rfl | simp
        subst e0
        go_wp2
        first | go_ret | go_ret2
        exact ⟨by first | rfl | simp, hb0⟩
      · have c1_0 : U8.cell? ⟨w.heap.size, 0, none⟩ = some (.int .u64 (wd0 x)) := k1.cell 0
        have c1_1 : U8.cell? ⟨w.heap.size, 1, none⟩ = some (.int .u64 (wd1 x)) := k1.cell 1
        have c1_2 : U8.cell? ⟨w.heap.size, 2, none⟩ = some (.int .u64 (wd2 x)) := k1.cell 2
        have c1_3 : U8.cell? ⟨w.heap.size, 3, none⟩ = some (.int .u64 (wd3 x)) := k1.cell 3
        have l1 := k1.lt
        have c2_0 : U8.cell? ⟨q2, 0, none⟩ = some (.int .u64 (wd0 r6)) := k2.cell 0
        have c2_1 : U8.cell? ⟨q2, 1, none⟩ = some (.int .u64 (wd1 r6)) := k2.cell 1
        have c2_2 : U8.cell? ⟨q2, 2, none⟩ = some (.int .u64 (wd2 r6)) := k2.cell 2
        have c2_3 : U8.cell? ⟨q2, 3, none⟩ = some (.int .u64 (wd3 r6)) := k2.cell 3
        have l2 := k2.lt
        go_wp2_with fail
        clear c1_0 c1_1 c1_2 c1_3 l1 c2_0 c2_1 c2_2 c2_3 l2
        obtain ⟨r10, hr10⟩ : ∃ o_o : Int, cmpI x r6 = o_o := ⟨_, rfl⟩
        have Hr10 := Lib.hid hr10
        clear hr10
        refine (Cmp_v x r6 r10 Hr10.out _ix (Hr6.out ▸ mulv_in v 2199023255552) _).mono ?_
        rintro e U9 ⟨rfl, hn⟩
        replace k1 := k1.of hn
        replace k2 := k2.of hn
        replace k3 := k3.of hn
        replace hb0 := hb0.trans (hn.mono hb0.size)
        clear hn
        obtain ⟨z11, hz11⟩ : ∃ o_o : Bool, decide (r10 ≤ 0) = o_o := ⟨_, rfl⟩
        cases z11
        · have e0 : false = R0 := by rw [← HR0.out]; unfold spR; (try rw [Hr1.out]); (try rw [hz2]); (try rw [Hr3.out]); (try rw [Hr4.out]); (try rw [hz5]); (try rw [Hr6.out]); (try rw [Hr7.out]); (try rw [Hr8.out]); (try rw [hz9]); (try rw [Hr10.out]); (try rw [hz11]); all_goals first | rfl | simp
          subst e0
          go_wp2
          first | go_ret | go_ret2
          exact ⟨by first | rfl | simp, hb0⟩
        · have c1_4 : U9.cell? ⟨w.heap.size, 4, none⟩ = some (.int .u64 (wd0 y)) := k1.cell 4
          have c1_5 : U9.cell? ⟨w.heap.size, 5, none⟩ = some (.int .u64 (wd1 y)) := k1.cell 5
          have c1_6 : U9.cell? ⟨w.heap.size, 6, none⟩ = some (.int .u64 (wd2 y)) := k1.cell 6
          have c1_7 : U9.cell? ⟨w.heap.size, 7, none⟩ = some (.int .u64 (wd3 y)) := k1.cell 7
          have l1 := k1.lt
          have c3_0 : U9.cell? ⟨U6.heap.size, 0, none⟩ = some (.int .u64 (wd0 r7)) := k3.cell 0
          have c3_1 : U9.cell? ⟨U6.heap.size, 1, none⟩ = some (.int .u64 (wd1 r7)) := k3.cell 1
          have c3_2 : U9.cell? ⟨U6.heap.size, 2, none⟩ = some (.int .u64 (wd2 r7)) := k3.cell 2
          have c3_3 : U9.cell? ⟨U6.heap.size, 3, none⟩ = some (.int .u64 (wd3 r7)) := k3.cell 3
          have l3 := k3.lt
          go_wp2_with fail
          clear c1_4 c1_5 c1_6 c1_7 l1 c3_0 c3_1 c3_2 c3_3 l3
          obtain ⟨r12, hr12⟩ : ∃ o_o : Int, cmpI y r7 = o_o := ⟨_, rfl⟩
          have Hr12 := Lib.hid hr12
          clear hr12
          refine (Cmp_v y r7 r12 Hr12.out _iy (Hr7.out ▸ subv_in 0 r6) _).mono ?_
          rintro e U10 ⟨rfl, hn⟩
          clear k3
          replace k1 := k1.of hn
          replace k2 := k2.of hn
          replace hb0 := hb0.trans (hn.mono hb0.size)
          clear hn
          obtain ⟨z13, hz13⟩ : ∃ o_o : Bool, decide (0 ≤ r12) = o_o := ⟨_, rfl⟩
          cases z13
          · have e0 : false = R0 := by rw [← HR0.out]; unfold spR; (try rw [Hr1.out]); (try rw [hz2]); (try rw [Hr3.out]); (try rw [Hr4.out]); (try rw [hz5]); (try rw [Hr6.out]); (try rw [Hr7.out]); (try rw [Hr8.out]); (try rw [hz9]); (try rw [Hr10.out]); (try rw [hz11]); (try rw [Hr12.out]); (try rw [hz13]); all_goals first | rfl | simp
            subst e0
            go_wp2
            first | go_ret | go_ret2
            exact ⟨by first | rfl | simp, hb0⟩
          · have c1_4 : U10.cell? ⟨w.heap.size, 4, none⟩ = some (.int .u64 (wd0 y)) := k1.cell 4
            have c1_5 : U10.cell? ⟨w.heap.size, 5, none⟩ = some (.int .u64 (wd1 y)) := k1.cell 5
            have c1_6 : U10.cell? ⟨w.heap.size, 6, none⟩ = some (.int .u64 (wd2 y)) := k1.cell 6
            have c1_7 : U10.cell? ⟨w.heap.size, 7, none⟩ = some (.int .u64 (wd3 y)) := k1.cell 7
            have l1 := k1.lt
            have c2_0 : U10.cell? ⟨q2, 0, none⟩ = some (.int .u64 (wd0 r6)) := k2.cell 0
            have c2_1 : U10.cell? ⟨q2, 1, none⟩ = some (.int .u64 (wd1 r6)) := k2.cell 1
            have c2_2 : U10.cell? ⟨q2, 2, none⟩ = some (.int .u64 (wd2 r6)) := k2.cell 2
            have c2_3 : U10.cell? ⟨q2, 3, none⟩ = some (.int .u64 (wd3 r6)) := k2.cell 3
            have l2 := k2.lt
            go_wp2_with fail
            clear c1_4 c1_5 c1_6 c1_7 l1 c2_0 c2_1 c2_2 c2_3 l2
            obtain ⟨r14, hr14⟩ : ∃ o_o : Int, cmpI y r6 = o_o := ⟨_, rfl⟩
            have Hr14 := Lib.hid hr14
            clear hr14
            refine (Cmp_v y r6 r14 Hr14.out _iy (Hr6.out ▸ mulv_in v 2199023255552) _).mono ?_
            rintro e U11 ⟨rfl, hn⟩
            clear k1 k2
            replace hb0 := hb0.trans (hn.mono hb0.size)
            clear hn
            have e0 : decide (r14 ≤ 0) = R0 := by rw [← HR0.out]; unfold spR; (try rw [Hr1.out]); (try rw [hz2]); (try rw [Hr3.out]); (try rw [Hr4.out]); (try rw [hz5]); (try rw [Hr6.out]); (try rw [Hr7.out]); (try rw [Hr8.out]); (try rw [hz9]); (try rw [Hr10.out]); (try rw [hz11]); (try rw [Hr12.out]); (try rw [hz13]); (try rw [Hr14.out]); all_goals first | rfl | simp
            subst e0
            go_wp2
            first | go_ret | go_ret2
            exact ⟨by first | rfl | simp, hb0⟩
    · have e0 : false = R0 := by rw [← HR0.out]; unfold spR; (try rw [Hr1.out]); (try rw [hz2]); (try rw [Hr3.out]); (try rw [Hr4.out]); (try rw [hz5]); all_goals first | rfl | simp
      subst e0
      go_wp2
      first | go_ret | go_ret2
      exact ⟨by first | rfl | simp, hb0⟩
  · have c1_8 : V1.cell? ⟨w.heap.size, 8, none⟩ = some (.int .u64 (wd0 v)) := k1.cell 8
    have c1_9 : V1.cell? ⟨w.heap.size, 9, none⟩ = some (.int .u64 (wd1 v)) := k1.cell 9
    have c1_10 : V1.cell? ⟨w.heap.size, 10, none⟩ = some (.int .u64 (wd2 v)) := k1.cell 10
    have c1_11 : V1.cell? ⟨w.heap.size, 11, none⟩ = some (.int .u64 (wd3 v)) := k1.cell 11
    have l1 := k1.lt
    have Kk1 := Lib.hid k1
    clear k1
    refine wp_region_up V1.heap.size 10 [(true, 0), (true, 1), (false, 2), (true, 3), (true, 4), (true, 5), (true, 6), (false, 7), (false, 8), (false, 9)] (by kernel_rfl) (by kernel_rfl) (fun _ _ d _ _ h => by cases d <;> exact h) ?_
    have hb : Below V1.heap.size V1 V1.drew := (Below.refl _ _).drew
    iterate 2
      refine wpS_takeL rfl rfl ?_
      go_big_quiet_step (rfl)
      refine wpQuiet_nil ?_
    refine wpS_doL rfl ?_
    intro K hK
    go_wp2_with ((go_at_call 22; (with_reducible refine (Sign_v v r1 Hr1.out _iv _).mono ?_); rintro e w2 ⟨rfl, hn⟩))
    replace hb := hb.trans (hn.mono hb.size)
    refine hK.out _ _ (up_iff.2 hb) ?_
    clear hK K
    clear hn
    iterate 4
      refine wpS_takeL rfl rfl ?_
      go_big_quiet_step (rfl)
      refine wpQuiet_nil ?_
    refine wpS_doL rfl ?_
    intro K hK
    go_wp2_with ((go_at_call 22; (with_reducible refine (Sign_v v r1 Hr1.out _iv _).mono ?_); rintro e w2 ⟨rfl, hn⟩))
    try replace hb := hb.trans (hn.mono hb.size)
    refine hK.out _ _ (up_iff.2 hb) ?_
    clear hK K
    try clear hn
    refine wpS_doL rfl ?_
    intro K hK
    go_wp2_with ((go_at_call 22; (with_reducible refine (Sign_v v r1 Hr1.out _iv _).mono ?_); rintro e w2 ⟨rfl, hn⟩))
    try replace hb := hb.trans (hn.mono hb.size)
    refine hK.out _ _ (up_iff.2 hb) ?_
    clear hK K
    try clear hn
    refine wpS_doL rfl ?_
    intro K hK
    go_wp2_with ((go_at_call 22; (with_reducible refine (Sign_v v r1 Hr1.out _iv _).mono ?_); rintro e w2 ⟨rfl, hn⟩))
    try replace hb := hb.trans (hn.mono hb.size)
    refine hK.out _ _ (up_iff.2 hb) ?_
    clear hK K
    try clear hn
    refine wpS_nil ?_
    simp only [List.drop_succ_cons, List.drop_zero]
    first | refine calls_w ?_ | refine name_world ?_ | refine list_world ?_ | refine post_world ?_
    intro U12 hU12
    first | subst hU12 | (rw [← hU12] at hb; clear hU12)
    clear c1_8 c1_9 c1_10 c1_11 l1
    have k1 := Kk1.out.of hb
    clear Kk1
    replace hb0 := hb0.trans (hb.mono hb0.size)
    clear hb
    have e0 : false = R0 := by rw [← HR0.out]; unfold spR; (try rw [Hr1.out]); (try rw [hz2]); all_goals first | rfl | simp
    subst e0
    go_wp2
    first | go_ret | go_ret2
    exact ⟨by first | rfl | simp, hb0⟩

def wyx (ax : Int) (ay : Int) (bx : Int) (b_y : Int) : Int := ((wrap64 ((hgx ax ay bx b_y) - (lwx ax ay bx b_y))))

def wyy (ax : Int) (ay : Int) (bx : Int) (b_y : Int) : Int := ((wrap64 ((hgy ax ay bx b_y) - (lwy ax ay bx b_y))))

theorem wyx_in (ax : Int) (ay : Int) (bx : Int) (b_y : Int) (_iax : In64 ax) (_iay : In64 ay) (_ibx : In64 bx) (_ib_y : In64 b_y) : InI (wyx ax ay bx b_y) := by
  unfold wyx
  exact (in64_I' (wrap64_in _))

theorem wyy_in (ax : Int) (ay : Int) (bx : Int) (b_y : Int) (_iax : In64 ax) (_iay : In64 ay) (_ibx : In64 bx) (_ib_y : In64 b_y) : InI (wyy ax ay bx b_y) := by
  unfold wyy
  exact (in64_I' (wrap64_in _))

set_option maxRecDepth 100000 in
set_option maxHeartbeats 4000000 in

theorem crway_is (ax : Int) (ay : Int) (bx : Int) (b_y : Int)  (R0 : Int) (R1 : Int) (hR0 : wyx ax ay bx b_y = R0) (hR1 : wyy ax ay bx b_y = R1) (_iax : In64 ax) (_iay : In64 ay) (_ibx : In64 bx) (_ib_y : In64 b_y)  (w : World)  :
    Calls Try.prog 111 #[.agg #[.int .i64 ax, .int .i64 ay, .int .i64 bx, .int .i64 b_y]] w fun e w' => e = .returned (.tuple #[.agg #[.int .u64 (wd0 R0), .int .u64 (wd1 R0), .int .u64 (wd2 R0), .int .u64 (wd3 R0)], .agg #[.int .u64 (wd0 R1), .int .u64 (wd1 R1), .int .u64 (wd2 R1), .int .u64 (wd3 R1)]]) ∧ Below w.heap.size w w' := by

  have HR0 := Lib.hid hR0
  clear hR0
  have HR1 := Lib.hid hR1
  clear hR1
  go_enter Try.func111, Try.ntmps111
  go_wp2_with fail
  first | refine calls_w ?_ | refine name_world ?_ | refine list_world ?_ | refine post_world ?_
  intro V1 hV1
  have hn : Below w.heap.size w V1 := by rw [hV1]; exact below_a3 _ _ _ _
  have nhb0 := hn
  have k1 : Blk V1 w.heap.size #[.int .i64 ax, .int .i64 ay, .int .i64 bx, .int .i64 b_y] 50 := by rw [hV1]; exact (((Blk.new _ _ _).alloc _).alloc _)
  have k2 : Blk V1 (w.heap.size + 1) #[.int .u64 0, .int .u64 0, .int .u64 0, .int .u64 0] 35 := by rw [hV1]; exact ((Blk.new1 _ _ _ _).alloc _)
  have k3 : Blk V1 (w.heap.size + 1 + 1) #[.int .u64 0, .int .u64 0, .int .u64 0, .int .u64 0] 35 := by rw [hV1]; exact (Blk.new2 _ _ _ _ _)
  clear hV1
  have hb0 := nhb0
  clear nhb0
  obtain ⟨r1, hr1⟩ : ∃ o_o : Int, lwx ax ay bx b_y = o_o := ⟨_, rfl⟩
  have Hr1 := Lib.hid hr1
  clear hr1
  obtain ⟨r2, hr2⟩ : ∃ o_o : Int, lwy ax ay bx b_y = o_o := ⟨_, rfl⟩
  have Hr2 := Lib.hid hr2
  clear hr2
  obtain ⟨r3, hr3⟩ : ∃ o_o : Int, hgx ax ay bx b_y = o_o := ⟨_, rfl⟩
  have Hr3 := Lib.hid hr3
  clear hr3
  obtain ⟨r4, hr4⟩ : ∃ o_o : Int, hgy ax ay bx b_y = o_o := ⟨_, rfl⟩
  have Hr4 := Lib.hid hr4
  clear hr4
  refine (Ends_is ax ay bx b_y r1 r2 r3 r4 Hr1.out Hr2.out Hr3.out Hr4.out _iax _iay _ibx _ib_y  _).mono ?_
  rintro e U2 ⟨rfl, hn⟩
  clear k1
  replace k2 := k2.of hn
  replace k3 := k3.of hn
  replace hb0 := hb0.trans (hn.mono hb0.size)
  clear hn
  go_wp2_with fail
  first | refine calls_w ?_ | refine name_world ?_ | refine list_world ?_ | refine post_world ?_
  intro V3 hV3
  have D1 := Lib.hid k2.lt
  have D2 := Lib.hid k3.lt
  have D3 := Lib.hid hb0.size
  have hn : Below U2.heap.size U2 V3 := by rw [hV3]; exact below_a2 _ _ _
  have nk2 := k2.of hn
  have nk3 := k3.of hn
  have nhb0 := hb0.trans (hn.mono hb0.size)
  clear hn
  have k4 : Blk V3 U2.heap.size #[.int .i64 r1, .int .i64 r2] 24 := by rw [hV3]; exact ((Blk.new _ _ _).alloc _)
  have k5 : Blk V3 (U2.heap.size + 1) #[.int .i64 r3, .int .i64 r4] 24 := by rw [hV3]; exact (Blk.new1 _ _ _ _)
  clear k2 k3
  clear hb0
  clear hV3
  have k2 := nk2
  clear nk2
  have k3 := nk3
  clear nk3
  have hb0 := nhb0
  clear nhb0
  obtain ⟨r5, hr5⟩ : ∃ o_o : Int, (wrap64 (r3 - r1)) = o_o := ⟨_, rfl⟩
  have Hr5 := Lib.hid hr5
  clear hr5
  obtain ⟨r6, hr6⟩ : ∃ o_o : Int, (wrap64 (r4 - r2)) = o_o := ⟨_, rfl⟩
  have Hr6 := Lib.hid hr6
  clear hr6
  have c2_0 : V3.cell? ⟨(w.heap.size + 1), 0, none⟩ = some (.int .u64 0) := k2.cell 0
  have c2_1 : V3.cell? ⟨(w.heap.size + 1), 1, none⟩ = some (.int .u64 0) := k2.cell 1
  have c2_2 : V3.cell? ⟨(w.heap.size + 1), 2, none⟩ = some (.int .u64 0) := k2.cell 2
  have c2_3 : V3.cell? ⟨(w.heap.size + 1), 3, none⟩ = some (.int .u64 0) := k2.cell 3
  have f2_0 := k2.free 0
  have f2_1 := k2.free 1
  have f2_2 := k2.free 2
  have f2_3 := k2.free 3
  have l2 := k2.lt
  have c3_0 : V3.cell? ⟨(w.heap.size + 1 + 1), 0, none⟩ = some (.int .u64 0) := k3.cell 0
  have c3_1 : V3.cell? ⟨(w.heap.size + 1 + 1), 1, none⟩ = some (.int .u64 0) := k3.cell 1
  have c3_2 : V3.cell? ⟨(w.heap.size + 1 + 1), 2, none⟩ = some (.int .u64 0) := k3.cell 2
  have c3_3 : V3.cell? ⟨(w.heap.size + 1 + 1), 3, none⟩ = some (.int .u64 0) := k3.cell 3
  have f3_0 := k3.free 0
  have f3_1 := k3.free 1
  have f3_2 := k3.free 2
  have f3_3 := k3.free 3
  have l3 := k3.lt
  have c4_0 : V3.cell? ⟨U2.heap.size, 0, none⟩ = some (.int .i64 r1) := k4.cell 0
  have c4_1 : V3.cell? ⟨U2.heap.size, 1, none⟩ = some (.int .i64 r2) := k4.cell 1
  have l4 := k4.lt
  have c5_0 : V3.cell? ⟨(U2.heap.size + 1), 0, none⟩ = some (.int .i64 r3) := k5.cell 0
  have c5_1 : V3.cell? ⟨(U2.heap.size + 1), 1, none⟩ = some (.int .i64 r4) := k5.cell 1
  have l5 := k5.lt
  have p2_3 : (w.heap.size + 1) ≠ (w.heap.size + 1 + 1) := (by omega)
  have p4_2 : U2.heap.size ≠ (w.heap.size + 1) := (by have := D1.out; omega)
  have p4_3 : U2.heap.size ≠ (w.heap.size + 1 + 1) := (by have := D2.out; omega)
  have p5_2 : (U2.heap.size + 1) ≠ (w.heap.size + 1) := (by have := D1.out; omega)
  have p5_3 : (U2.heap.size + 1) ≠ (w.heap.size + 1 + 1) := (by have := D2.out; omega)
  have Kk2 := Lib.hid k2
  clear k2
  have Kk3 := Lib.hid k3
  clear k3
  have Kk4 := Lib.hid k4
  clear k4
  have Kk5 := Lib.hid k5
  clear k5
  refine wp_region_G 12 [(0, 0), (0, 1), (0, 2), (0, 3), (0, 4), (2, 6), (0, 7), (2, 8), (0, 9), (0, 10), (1, 5), (1, 11), (3, 12), (3, 13)] (by kernel_rfl) (by kernel_rfl) (fun _ _ d _ _ => by cases d <;> exact Iff.rfl) ?_
  have hb : Below V3.heap.size V3 V3.drew := (Below.refl _ _).drew
  iterate 5
    refine wpG_take0 rfl rfl ?_
    go_big_quiet_step (rfl)
    refine wpQuiet_nil ?_
  refine wpG_take2 rfl rfl ?_
  go_big_quiet_step (rfl)
  refine wpQuiet_nil ?_
  refine wpG_take0 rfl rfl ?_
  go_big_quiet_step (rfl)
  refine wpQuiet_nil ?_
  refine wpG_take2 rfl rfl ?_
  go_big_quiet_step (rfl)
  refine wpQuiet_nil ?_
  iterate 2
    refine wpG_take0 rfl rfl ?_
    go_big_quiet_step (rfl)
    refine wpQuiet_nil ?_
  refine wpG_do1 rfl ?_
  intro K hK
  go_wp2_with ((first | (go_at_call 62; (with_reducible refine (Of_v (wrap64 (r3 - r1)) r5 Hr5.out (wrap64_in _) _).mono ?_); rintro e w2 ⟨rfl, hn⟩) | (go_at_call 62; (with_reducible refine (Of_v (wrap64 (r4 - r2)) r6 Hr6.out (wrap64_in _) _).mono ?_); rintro e w2 ⟨rfl, hn⟩)))
  replace hb := hb.trans (hn.mono hb.size)
  refine hK.out _ _ (up_iff.2 hb) ?_
  clear hK K
  clear hn
  refine wpG_do1 rfl ?_
  intro K hK
  go_wp2_with ((first | (go_at_call 62; (with_reducible refine (Of_v (wrap64 (r3 - r1)) r5 Hr5.out (wrap64_in _) _).mono ?_); rintro e w2 ⟨rfl, hn⟩) | (go_at_call 62; (with_reducible refine (Of_v (wrap64 (r4 - r2)) r6 Hr6.out (wrap64_in _) _).mono ?_); rintro e w2 ⟨rfl, hn⟩)))
  replace hb := hb.trans (hn.mono hb.size)
  refine hK.out _ _ (up_iff.2 hb) ?_
  clear hK K
  clear hn
  have Mk2 := Kk2.out.of hb
  have Mk2_0 := Mk2.cell 0
  have Nk2_0 := Mk2.free 0
  have Mk2_1 := Mk2.cell 1
  have Nk2_1 := Mk2.free 1
  have Mk2_2 := Mk2.cell 2
  have Nk2_2 := Mk2.free 2
  have Mk2_3 := Mk2.cell 3
  have Nk2_3 := Mk2.free 3
  have Mk3 := Kk3.out.of hb
  have Mk3_0 := Mk3.cell 0
  have Nk3_0 := Mk3.free 0
  have Mk3_1 := Mk3.cell 1
  have Nk3_1 := Mk3.free 1
  have Mk3_2 := Mk3.cell 2
  have Nk3_2 := Mk3.free 2
  have Mk3_3 := Mk3.cell 3
  have Nk3_3 := Mk3.free 3
  simp only [List.getElem?_toArray, List.getElem?_cons_zero, List.getElem?_cons_succ] at Mk2_0 Mk2_1 Mk2_2 Mk2_3 Mk3_0 Mk3_1 Mk3_2 Mk3_3
  refine wpG_do3 rfl ?_
  intro K hK
  go_wp2_with (fail)
  refine hK.out _ _ ?_
  clear hK K
  refine wpG_do3 rfl ?_
  intro K hK
  go_wp2_with (fail)
  refine hK.out _ _ ?_
  clear hK K
  refine wpG_nil ?_
  refine list_world ?_
  intro U4 hU4
  clear c2_0 c2_1 c2_2 c2_3 f2_0 f2_1 f2_2 f2_3 l2 c3_0 c3_1 c3_2 c3_3 f3_0 f3_1 f3_2 f3_3 l3 c4_0 c4_1 l4 c5_0 c5_1 l5 p2_3 p4_2 p4_3 p5_2 p5_3 Mk2 Mk2_0 Nk2_0 Mk2_1 Nk2_1 Mk2_2 Nk2_2 Mk2_3 Nk2_3 Mk3 Mk3_0 Nk3_0 Mk3_1 Nk3_1 Mk3_2 Nk3_2 Mk3_3 Nk3_3
  have D4 := Lib.hid Kk2.out.lt
  have D5 := Lib.hid Kk3.out.lt
  have D6 := Lib.hid Kk4.out.lt
  have D7 := Lib.hid Kk5.out.lt
  have D8 := Lib.hid hb0.size
  have k2 : Blk U4 (w.heap.size + 1) #[.int .u64 (wd0 r5), .int .u64 (wd1 r5), .int .u64 (wd2 r5), .int .u64 (wd3 r5)] 35 := by rw [hU4]; exact (blk_setL (blk_full _ [.int .u64 (wd0 r5), .int .u64 (wd1 r5), .int .u64 (wd2 r5), .int .u64 (wd3 r5)] (Kk2.out.of hb) rfl) (by omega) 0 [.int .u64 (wd0 r6), .int .u64 (wd1 r6), .int .u64 (wd2 r6), .int .u64 (wd3 r6)])
  have k3 : Blk U4 (w.heap.size + 1 + 1) #[.int .u64 (wd0 r6), .int .u64 (wd1 r6), .int .u64 (wd2 r6), .int .u64 (wd3 r6)] 35 := by rw [hU4]; exact (blk_full _ [.int .u64 (wd0 r6), .int .u64 (wd1 r6), .int .u64 (wd2 r6), .int .u64 (wd3 r6)] (blk_setL (Kk3.out.of hb) (by omega) 0 [.int .u64 (wd0 r5), .int .u64 (wd1 r5), .int .u64 (wd2 r5), .int .u64 (wd3 r5)]) rfl)
  have k4 : Blk U4 U2.heap.size #[.int .i64 r1, .int .i64 r2] 24 := by rw [hU4]; exact (blk_setL (blk_setL (Kk4.out.of hb) (by have := D1.out; omega) 0 [.int .u64 (wd0 r5), .int .u64 (wd1 r5), .int .u64 (wd2 r5), .int .u64 (wd3 r5)]) (by have := D2.out; omega) 0 [.int .u64 (wd0 r6), .int .u64 (wd1 r6), .int .u64 (wd2 r6), .int .u64 (wd3 r6)])
  have k5 : Blk U4 (U2.heap.size + 1) #[.int .i64 r3, .int .i64 r4] 24 := by rw [hU4]; exact (blk_setL (blk_setL (Kk5.out.of hb) (by have := D1.out; omega) 0 [.int .u64 (wd0 r5), .int .u64 (wd1 r5), .int .u64 (wd2 r5), .int .u64 (wd3 r5)]) (by have := D2.out; omega) 0 [.int .u64 (wd0 r6), .int .u64 (wd1 r6), .int .u64 (wd2 r6), .int .u64 (wd3 r6)])
  replace hb0 : Below w.heap.size w U4 := by rw [hU4]; exact (blw_setL (blw_setL (hb0.trans (hb.mono hb0.size)) (by omega) 0 [.int .u64 (wd0 r5), .int .u64 (wd1 r5), .int .u64 (wd2 r5), .int .u64 (wd3 r5)]) (by omega) 0 [.int .u64 (wd0 r6), .int .u64 (wd1 r6), .int .u64 (wd2 r6), .int .u64 (wd3 r6)])
  clear hU4 hb Kk2 Kk3 Kk4 Kk5
  have e0 : r5 = R0 := by rw [← HR0.out]; unfold wyx; (try rw [Hr1.out]); (try rw [Hr2.out]); (try rw [Hr3.out]); (try rw [Hr4.out]); (try rw [Hr5.out]); (try rw [Hr6.out]); all_goals first | rfl | simp
  have e1 : r6 = R1 := by rw [← HR1.out]; unfold wyy; (try rw [Hr1.out]); (try rw [Hr2.out]); (try rw [Hr3.out]); (try rw [Hr4.out]); (try rw [Hr5.out]); (try rw [Hr6.out]); all_goals first | rfl | simp
  subst e0
  subst e1
  go_wp2
  have g2_0 : U4.cell? ⟨(w.heap.size + 1), 0, none⟩ = some (.int .u64 (wd0 r5)) := k2.cell 0
  have g2_1 : U4.cell? ⟨(w.heap.size + 1), 1, none⟩ = some (.int .u64 (wd1 r5)) := k2.cell 1
  have g2_2 : U4.cell? ⟨(w.heap.size + 1), 2, none⟩ = some (.int .u64 (wd2 r5)) := k2.cell 2
  have g2_3 : U4.cell? ⟨(w.heap.size + 1), 3, none⟩ = some (.int .u64 (wd3 r5)) := k2.cell 3
  have g3_0 : U4.cell? ⟨(w.heap.size + 1 + 1), 0, none⟩ = some (.int .u64 (wd0 r6)) := k3.cell 0
  have g3_1 : U4.cell? ⟨(w.heap.size + 1 + 1), 1, none⟩ = some (.int .u64 (wd1 r6)) := k3.cell 1
  have g3_2 : U4.cell? ⟨(w.heap.size + 1 + 1), 2, none⟩ = some (.int .u64 (wd2 r6)) := k3.cell 2
  have g3_3 : U4.cell? ⟨(w.heap.size + 1 + 1), 3, none⟩ = some (.int .u64 (wd3 r6)) := k3.cell 3
  clear k2 k3 k4 k5
  simp [bodyPost, results, Try.results111, go_sem, g2_0, g2_1, g2_2, g2_3, g3_0, g3_1, g3_2, g3_3]
  first | exact hb0 | exact ⟨rfl, hb0⟩

def dotB (ax : Int) (ay : Int) (bx : Int) (b_y : Int) : Bool := (bif (ax == bx) then (bif (ay == b_y) then true else false) else false)

set_option maxRecDepth 100000 in
set_option maxHeartbeats 4000000 in

theorem dot_is (ax : Int) (ay : Int) (bx : Int) (b_y : Int)  (R0 : Bool) (hR0 : dotB ax ay bx b_y = R0) (_iax : In64 ax) (_iay : In64 ay) (_ibx : In64 bx) (_ib_y : In64 b_y)  (w : World)  :
    Calls Try.prog 101 #[.agg #[.int .i64 ax, .int .i64 ay, .int .i64 bx, .int .i64 b_y]] w fun e w' => e = .returned (.bool R0) ∧ Below w.heap.size w w' := by

  have HR0 := Lib.hid hR0
  clear hR0
  obtain ⟨z1, hz1⟩ : ∃ o_o : Bool, (ax == bx) = o_o := ⟨_, rfl⟩
  cases z1
  · have nz1 : ¬ ax = bx := by simpa using hz1
    go_enter Try.func101, Try.ntmps101
    have e0 : false = R0 := by rw [← HR0.out]; unfold dotB; (try rw [hz1]); all_goals first | rfl | simp
    subst e0
    go_wp2
    first | refine post_world ?_
    intro V1 hV1
    have hn : Below w.heap.size w V1 := by rw [hV1]; exact below_a1 _ _
    have nhb0 := hn
    clear hV1
    have hb0 := nhb0
    clear nhb0
    simp [bodyPost, results, Try.results101, go_sem]
    first | exact hb0 | exact ⟨rfl, hb0⟩
  · have qz1 : ax = bx := by simpa using hz1
    clear hz1
    subst qz1
    obtain ⟨z2, hz2⟩ : ∃ o_o : Bool, (ay == b_y) = o_o := ⟨_, rfl⟩
    cases z2
    · have nz2 : ¬ ay = b_y := by simpa using hz2
      go_enter Try.func101, Try.ntmps101
      have e0 : false = R0 := by rw [← HR0.out]; unfold dotB; (try rw [hz2]); all_goals first | rfl | simp
      subst e0
      go_wp2
      first | refine post_world ?_
      intro V2 hV2
      have hn : Below w.heap.size w V2 := by rw [hV2]; exact below_a1 _ _
      have nhb0 := hn
      clear hV2
      have hb0 := nhb0
      clear nhb0
      simp [bodyPost, results, Try.results101, go_sem]
      first | exact hb0 | exact ⟨rfl, hb0⟩
    · have qz2 : ay = b_y := by simpa using hz2
      clear hz2
      subst qz2
      go_enter Try.func101, Try.ntmps101
      have e0 : true = R0 := by rw [← HR0.out]; unfold dotB; all_goals first | rfl | simp
      subst e0
      go_wp2
      first | refine post_world ?_
      intro V3 hV3
      have hn : Below w.heap.size w V3 := by rw [hV3]; exact below_a1 _ _
      have nhb0 := hn
      clear hV3
      have hb0 := nhb0
      clear nhb0
      simp [bodyPost, results, Try.results101, go_sem]
      first | exact hb0 | exact ⟨rfl, hb0⟩
end Go.Proofs.Ytlcbomjdbdgbmaa

namespace Go.Proofs.Ytlcbomjdbdgbmaa
open Go.RowKit

def spC (x : Int) (y : Int) (v : Int) (x2 : Int) (y2 : Int) (v2 : Int) : Int := (bif (spR x y v) then (bif (spR x2 y2 v2) then (or2 (cmpI (mulv x v2) (mulv x2 v)) (cmpI (mulv y v2) (mulv y2 v))) else 0) else 0)

set_option maxRecDepth 100000 in
set_option maxHeartbeats 4000000 in

theorem SpCmp_is (x : Int) (y : Int) (v : Int) (x2 : Int) (y2 : Int) (v2 : Int)  (R0 : Int) (hR0 : spC x y v x2 y2 v2 = R0) (_ix : InI x) (_iy : InI y) (_iv : InI v) (_ix2 : InI x2) (_iy2 : InI y2) (_iv2 : InI v2)  (w : World)  :
    Calls Try.prog 58 #[.agg #[.int .u64 (wd0 x), .int .u64 (wd1 x), .int .u64 (wd2 x), .int .u64 (wd3 x), .int .u64 (wd0 y), .int .u64 (wd1 y), .int .u64 (wd2 y), .int .u64 (wd3 y), .int .u64 (wd0 v), .int .u64 (wd1 v), .int .u64 (wd2 v), .int .u64 (wd3 v)], .agg #[.int .u64 (wd0 x2), .int .u64 (wd1 x2), .int .u64 (wd2 x2), .int .u64 (wd3 x2), .int .u64 (wd0 y2), .int .u64 (wd1 y2), .int .u64 (wd2 y2), .int .u64 (wd3 y2), .int .u64 (wd0 v2), .int .u64 (wd1 v2), .int .u64 (wd2 v2), .int .u64 (wd3 v2)]] w fun e w' => e = .returned (.int .i64 R0) ∧ Below w.heap.size w w' := by

  have HR0 := Lib.hid hR0
  clear hR0
  go_enter Try.func58, Try.ntmps58
  go_wp2_with fail
  first | refine calls_w ?_ | refine name_world ?_ | refine list_world ?_ | refine post_world ?_
  intro V1 hV1
  have hn : Below w.heap.size w V1 := by rw [hV1]; exact below_a2 _ _ _
  have nhb0 := hn
  have k1 : Blk V1 w.heap.size #[.int .u64 (wd0 x), .int .u64 (wd1 x), .int .u64 (wd2 x), .int .u64 (wd3 x), .int .u64 (wd0 y), .int .u64 (wd1 y), .int .u64 (wd2 y), .int .u64 (wd3 y), .int .u64 (wd0 v), .int .u64 (wd1 v), .int .u64 (wd2 v), .int .u64 (wd3 v)] 67 := by rw [hV1]; exact ((Blk.new _ _ _).alloc _)
  have k2 : Blk V1 (w.heap.size + 1) #[.int .u64 (wd0 x2), .int .u64 (wd1 x2), .int .u64 (wd2 x2), .int .u64 (wd3 x2), .int .u64 (wd0 y2), .int .u64 (wd1 y2), .int .u64 (wd2 y2), .int .u64 (wd3 y2), .int .u64 (wd0 v2), .int .u64 (wd1 v2), .int .u64 (wd2 v2), .int .u64 (wd3 v2)] 67 := by rw [hV1]; exact (Blk.new1 _ _ _ _)
  clear hV1
  have hb0 := nhb0
  clear nhb0
  obtain ⟨z1, hz1⟩ : ∃ o_o : Bool, spR x y v = o_o := ⟨_, rfl⟩
  have Hz1 := Lib.hid hz1
  clear hz1
  refine (SpRight_is x y v z1 Hz1.out _ix _iy _iv  _).mono ?_
  rintro e U2 ⟨rfl, hn⟩
  replace k1 := k1.of hn
  replace k2 := k2.of hn
  replace hb0 := hb0.trans (hn.mono hb0.size)
  clear hn
  cases z1
  · have e0 : 0 = R0 := by rw [← HR0.out]; unfold spC; (try rw [Hz1.out]); all_goals first | rfl | simp
    subst e0
    go_wp2
    first | go_ret | go_ret2
    exact ⟨by first | rfl | simp, hb0⟩
  · have c2_0 : U2.cell? ⟨(w.heap.size + 1), 0, none⟩ = some (.int .u64 (wd0 x2)) := k2.cell 0
    have c2_1 : U2.cell? ⟨(w.heap.size + 1), 1, none⟩ = some (.int .u64 (wd1 x2)) := k2.cell 1
    have c2_2 : U2.cell? ⟨(w.heap.size + 1), 2, none⟩ = some (.int .u64 (wd2 x2)) := k2.cell 2
    have c2_3 : U2.cell? ⟨(w.heap.size + 1), 3, none⟩ = some (.int .u64 (wd3 x2)) := k2.cell 3
    have c2_4 : U2.cell? ⟨(w.heap.size + 1), 4, none⟩ = some (.int .u64 (wd0 y2)) := k2.cell 4
    have c2_5 : U2.cell? ⟨(w.heap.size + 1), 5, none⟩ = some (.int .u64 (wd1 y2)) := k2.cell 5
    have c2_6 : U2.cell? ⟨(w.heap.size + 1), 6, none⟩ = some (.int .u64 (wd2 y2)) := k2.cell 6
    have c2_7 : U2.cell? ⟨(w.heap.size + 1), 7, none⟩ = some (.int .u64 (wd3 y2)) := k2.cell 7
    have c2_8 : U2.cell? ⟨(w.heap.size + 1), 8, none⟩ = some (.int .u64 (wd0 v2)) := k2.cell 8
    have c2_9 : U2.cell? ⟨(w.heap.size + 1), 9, none⟩ = some (.int .u64 (wd1 v2)) := k2.cell 9
    have c2_10 : U2.cell? ⟨(w.heap.size + 1), 10, none⟩ = some (.int .u64 (wd2 v2)) := k2.cell 10
    have c2_11 : U2.cell? ⟨(w.heap.size + 1), 11, none⟩ = some (.int .u64 (wd3 v2)) := k2.cell 11
    have l2 := k2.lt
    go_wp2_with fail
    clear c2_0 c2_1 c2_2 c2_3 c2_4 c2_5 c2_6 c2_7 c2_8 c2_9 c2_10 c2_11 l2
    obtain ⟨z2, hz2⟩ : ∃ o_o : Bool, spR x2 y2 v2 = o_o := ⟨_, rfl⟩
    have Hz2 := Lib.hid hz2
    clear hz2
    refine (SpRight_is x2 y2 v2 z2 Hz2.out _ix2 _iy2 _iv2  _).mono ?_
    rintro e U3 ⟨rfl, hn⟩
    replace k1 := k1.of hn
    replace k2 := k2.of hn
    replace hb0 := hb0.trans (hn.mono hb0.size)
    clear hn
    cases z2
    · have e0 : 0 = R0 := by rw [← HR0.out]; unfold spC; (try rw [Hz1.out]); (try rw [Hz2.out]); all_goals first | rfl | simp
      subst e0
      go_wp2
      first | go_ret | go_ret2
      exact ⟨by first | rfl | simp, hb0⟩
    · go_wp2_with fail
      obtain ⟨r3, hr3⟩ : ∃ o_o : Int, mulv x v2 = o_o := ⟨_, rfl⟩
      have Hr3 := Lib.hid hr3
      clear hr3
      obtain ⟨r4, hr4⟩ : ∃ o_o : Int, mulv x2 v = o_o := ⟨_, rfl⟩
      have Hr4 := Lib.hid hr4
      clear hr4
      obtain ⟨r5, hr5⟩ : ∃ o_o : Int, cmpI r3 r4 = o_o := ⟨_, rfl⟩
      have Hr5 := Lib.hid hr5
      clear hr5
      obtain ⟨r6, hr6⟩ : ∃ o_o : Int, mulv y v2 = o_o := ⟨_, rfl⟩
      have Hr6 := Lib.hid hr6
      clear hr6
      have c1_0 : U3.cell? ⟨w.heap.size, 0, none⟩ = some (.int .u64 (wd0 x)) := k1.cell 0
      have c1_1 : U3.cell? ⟨w.heap.size, 1, none⟩ = some (.int .u64 (wd1 x)) := k1.cell 1
      have c1_2 : U3.cell? ⟨w.heap.size, 2, none⟩ = some (.int .u64 (wd2 x)) := k1.cell 2
      have c1_3 : U3.cell? ⟨w.heap.size, 3, none⟩ = some (.int .u64 (wd3 x)) := k1.cell 3
      have c1_4 : U3.cell? ⟨w.heap.size, 4, none⟩ = some (.int .u64 (wd0 y)) := k1.cell 4
      have c1_5 : U3.cell? ⟨w.heap.size, 5, none⟩ = some (.int .u64 (wd1 y)) := k1.cell 5
      have c1_6 : U3.cell? ⟨w.heap.size, 6, none⟩ = some (.int .u64 (wd2 y)) := k1.cell 6
      have c1_7 : U3.cell? ⟨w.heap.size, 7, none⟩ = some (.int .u64 (wd3 y)) := k1.cell 7
      have c1_8 : U3.cell? ⟨w.heap.size, 8, none⟩ = some (.int .u64 (wd0 v)) := k1.cell 8
      have c1_9 : U3.cell? ⟨w.heap.size, 9, none⟩ = some (.int .u64 (wd1 v)) := k1.cell 9
      have c1_10 : U3.cell? ⟨w.heap.size, 10, none⟩ = some (.int .u64 (wd2 v)) := k1.cell 10
      have c1_11 : U3.cell? ⟨w.heap.size, 11, none⟩ = some (.int .u64 (wd3 v)) := k1.cell 11
      have l1 := k1.lt
      have c2_0 : U3.cell? ⟨(w.heap.size + 1), 0, none⟩ = some (.int .u64 (wd0 x2)) := k2.cell 0
      have c2_1 : U3.cell? ⟨(w.heap.size + 1), 1, none⟩ = some (.int .u64 (wd1 x2)) := k2.cell 1
      have c2_2 : U3.cell? ⟨(w.heap.size + 1), 2, none⟩ = some (.int .u64 (wd2 x2)) := k2.cell 2
      have c2_3 : U3.cell? ⟨(w.heap.size + 1), 3, none⟩ = some (.int .u64 (wd3 x2)) := k2.cell 3
      have c2_4 : U3.cell? ⟨(w.heap.size + 1), 4, none⟩ = some (.int .u64 (wd0 y2)) := k2.cell 4
      have c2_5 : U3.cell? ⟨(w.heap.size + 1), 5, none⟩ = some (.int .u64 (wd1 y2)) := k2.cell 5
      have c2_6 : U3.cell? ⟨(w.heap.size + 1), 6, none⟩ = some (.int .u64 (wd2 y2)) := k2.cell 6
      have c2_7 : U3.cell? ⟨(w.heap.size + 1), 7, none⟩ = some (.int .u64 (wd3 y2)) := k2.cell 7
      have c2_8 : U3.cell? ⟨(w.heap.size + 1), 8, none⟩ = some (.int .u64 (wd0 v2)) := k2.cell 8
      have c2_9 : U3.cell? ⟨(w.heap.size + 1), 9, none⟩ = some (.int .u64 (wd1 v2)) := k2.cell 9
      have c2_10 : U3.cell? ⟨(w.heap.size + 1), 10, none⟩ = some (.int .u64 (wd2 v2)) := k2.cell 10
      have c2_11 : U3.cell? ⟨(w.heap.size + 1), 11, none⟩ = some (.int .u64 (wd3 v2)) := k2.cell 11
      have l2 := k2.lt
      have Kk1 := Lib.hid k1
      clear k1
      have Kk2 := Lib.hid k2
      clear k2
      refine wp_region_up U3.heap.size 20 [(true, 0), (true, 1), (true, 2), (true, 3), (true, 5), (true, 6), (true, 7), (true, 8), (true, 11), (true, 12), (true, 13), (true, 14), (true, 16), (true, 17), (true, 18), (true, 19), (false, 4), (false, 9), (false, 10), (false, 15)] (by kernel_rfl) (by kernel_rfl) (fun _ _ d _ _ h => by cases d <;> exact h) ?_
      have hb : Below U3.heap.size U3 U3.drew := (Below.refl _ _).drew
      iterate 16
        refine wpS_takeL rfl rfl ?_
        go_big_quiet_step (rfl)
        refine wpQuiet_nil ?_
      refine wpS_doL rfl ?_
      intro K hK
      go_wp2_with ((first | (go_at_call 106; (with_reducible refine (crtimes_is x v2 r3 Hr3.out _ix _iv2  _).mono ?_); rintro e w2 ⟨rfl, hn⟩) | (go_at_call 106; (with_reducible refine (crtimes_is x2 v r4 Hr4.out _ix2 _iv  _).mono ?_); rintro e w2 ⟨rfl, hn⟩) | (go_at_call 107; (with_reducible refine (Cmp_v r3 r4 r5 Hr5.out (Hr3.out ▸ mulv_in x v2) (Hr4.out ▸ mulv_in x2 v) _).mono ?_); rintro e w2 ⟨rfl, hn⟩) | (go_at_call 106; (with_reducible refine (crtimes_is y v2 r6 Hr6.out _iy _iv2  _).mono ?_); rintro e w2 ⟨rfl, hn⟩)))
      replace hb := hb.trans (hn.mono hb.size)
      refine hK.out _ _ (up_iff.2 hb) ?_
      clear hK K
      clear hn
      refine wpS_doL rfl ?_
      intro K hK
      go_wp2_with ((first | (go_at_call 106; (with_reducible refine (crtimes_is x v2 r3 Hr3.out _ix _iv2  _).mono ?_); rintro e w2 ⟨rfl, hn⟩) | (go_at_call 106; (with_reducible refine (crtimes_is x2 v r4 Hr4.out _ix2 _iv  _).mono ?_); rintro e w2 ⟨rfl, hn⟩) | (go_at_call 107; (with_reducible refine (Cmp_v r3 r4 r5 Hr5.out (Hr3.out ▸ mulv_in x v2) (Hr4.out ▸ mulv_in x2 v) _).mono ?_); rintro e w2 ⟨rfl, hn⟩) | (go_at_call 106; (with_reducible refine (crtimes_is y v2 r6 Hr6.out _iy _iv2  _).mono ?_); rintro e w2 ⟨rfl, hn⟩)))
      replace hb := hb.trans (hn.mono hb.size)
      refine hK.out _ _ (up_iff.2 hb) ?_
      clear hK K
      clear hn
      refine wpS_doL rfl ?_
      intro K hK
      go_wp2_with ((first | (go_at_call 106; (with_reducible refine (crtimes_is x v2 r3 Hr3.out _ix _iv2  _).mono ?_); rintro e w2 ⟨rfl, hn⟩) | (go_at_call 106; (with_reducible refine (crtimes_is x2 v r4 Hr4.out _ix2 _iv  _).mono ?_); rintro e w2 ⟨rfl, hn⟩) | (go_at_call 107; (with_reducible refine (Cmp_v r3 r4 r5 Hr5.out (Hr3.out ▸ mulv_in x v2) (Hr4.out ▸ mulv_in x2 v) _).mono ?_); rintro e w2 ⟨rfl, hn⟩) | (go_at_call 106; (with_reducible refine (crtimes_is y v2 r6 Hr6.out _iy _iv2  _).mono ?_); rintro e w2 ⟨rfl, hn⟩)))
      replace hb := hb.trans (hn.mono hb.size)
      refine hK.out _ _ (up_iff.2 hb) ?_
      clear hK K
      clear hn
      refine wpS_doL rfl ?_
      intro K hK
      go_wp2_with ((first | (go_at_call 106; (with_reducible refine (crtimes_is x v2 r3 Hr3.out _ix _iv2  _).mono ?_); rintro e w2 ⟨rfl, hn⟩) | (go_at_call 106; (with_reducible refine (crtimes_is x2 v r4 Hr4.out _ix2 _iv  _).mono ?_); rintro e w2 ⟨rfl, hn⟩) | (go_at_call 107; (with_reducible refine (Cmp_v r3 r4 r5 Hr5.out (Hr3.out ▸ mulv_in x v2) (Hr4.out ▸ mulv_in x2 v) _).mono ?_); rintro e w2 ⟨rfl, hn⟩) | (go_at_call 106; (with_reducible refine (crtimes_is y v2 r6 Hr6.out _iy _iv2  _).mono ?_); rintro e w2 ⟨rfl, hn⟩)))
      replace hb := hb.trans (hn.mono hb.size)
      refine hK.out _ _ (up_iff.2 hb) ?_
      clear hK K
      clear hn
      refine wpS_nil ?_
      simp only [List.drop_succ_cons, List.drop_zero]
      first | refine calls_w ?_ | refine name_world ?_ | refine list_world ?_ | refine post_world ?_
      intro U4 hU4
      first | subst hU4 | (rw [← hU4] at hb; clear hU4)
      clear c1_0 c1_1 c1_2 c1_3 c1_4 c1_5 c1_6 c1_7 c1_8 c1_9 c1_10 c1_11 l1 c2_0 c2_1 c2_2 c2_3 c2_4 c2_5 c2_6 c2_7 c2_8 c2_9 c2_10 c2_11 l2
      have k1 := Kk1.out.of hb
      clear Kk1
      have k2 := Kk2.out.of hb
      clear Kk2
      replace hb0 := hb0.trans (hb.mono hb0.size)
      clear hb
      go_wp2_with fail
      obtain ⟨r7, hr7⟩ : ∃ o_o : Int, mulv y2 v = o_o := ⟨_, rfl⟩
      have Hr7 := Lib.hid hr7
      clear hr7
      refine (crtimes_is y2 v r7 Hr7.out _iy2 _iv  _).mono ?_
      rintro e U5 ⟨rfl, hn⟩
      clear k1 k2
      replace hb0 := hb0.trans (hn.mono hb0.size)
      clear hn
      go_wp2_with fail
      obtain ⟨r8, hr8⟩ : ∃ o_o : Int, cmpI r6 r7 = o_o := ⟨_, rfl⟩
      have Hr8 := Lib.hid hr8
      clear hr8
      refine (Cmp_v r6 r7 r8 Hr8.out (Hr6.out ▸ mulv_in y v2) (Hr7.out ▸ mulv_in y2 v) _).mono ?_
      rintro e U6 ⟨rfl, hn⟩
      replace hb0 := hb0.trans (hn.mono hb0.size)
      clear hn
      go_wp2_with fail
      first | refine calls_w ?_ | refine name_world ?_ | refine list_world ?_ | refine post_world ?_
      intro V7 hV7
      have D1 := Lib.hid hb0.size
      have hn : Below U6.heap.size U6 V7 := by rw [hV7]; exact below_a1 _ _
      have nhb0 := hb0.trans (hn.mono hb0.size)
      clear hn
      have k3 : Blk V7 U6.heap.size #[.int .i64 r5, .int .i64 r8] 3 := by rw [hV7]; exact (Blk.new _ _ _)
      clear hb0
      clear hV7
      have hb0 := nhb0
      clear nhb0
      obtain ⟨r9, hr9⟩ : ∃ o_o : Int, or2 r5 r8 = o_o := ⟨_, rfl⟩
      have Hr9 := Lib.hid hr9
      clear hr9
      refine (Or2_v r5 r8 r9 Hr9.out k3).mono ?_
      rintro e U8 ⟨rfl, hn⟩
      clear k3
      replace hb0 := hb0.trans (hn.mono hb0.size)
      clear hn
      have e0 : r9 = R0 := by rw [← HR0.out]; unfold spC; (try rw [Hz1.out]); (try rw [Hz2.out]); (try rw [Hr3.out]); (try rw [Hr4.out]); (try rw [Hr5.out]); (try rw [Hr6.out]); (try rw [Hr7.out]); (try rw [Hr8.out]); (try rw [Hr9.out]); all_goals first | rfl | simp
      subst e0
      go_wp2
      first | go_ret | go_ret2
      exact ⟨by first | rfl | simp, hb0⟩

def whx (x : Int) (y : Int) (v : Int) : Int := (bif (spR x y v) then (bif (((dvr x v).sign) == 0) then (bif (((dvr y v).sign) == 0) then (smk (dvq x v)) else 0) else 0) else 0)

def why (x : Int) (y : Int) (v : Int) : Int := (bif (spR x y v) then (bif (((dvr x v).sign) == 0) then (bif (((dvr y v).sign) == 0) then (smk (dvq y v)) else 0) else 0) else 0)

def whk (x : Int) (y : Int) (v : Int) : Bool := (bif (spR x y v) then (bif (((dvr x v).sign) == 0) then (bif (((dvr y v).sign) == 0) then true else false) else false) else false)

set_option maxRecDepth 100000 in
set_option maxHeartbeats 4000000 in

theorem Whole_is (x : Int) (y : Int) (v : Int)  (R0 : Int) (R1 : Int) (R2 : Bool) (hR0 : whx x y v = R0) (hR1 : why x y v = R1) (hR2 : whk x y v = R2) (_ix : InI x) (_iy : InI y) (_iv : InI v)  (w : World)  :
    Calls Try.prog 60 #[.agg #[.int .u64 (wd0 x), .int .u64 (wd1 x), .int .u64 (wd2 x), .int .u64 (wd3 x), .int .u64 (wd0 y), .int .u64 (wd1 y), .int .u64 (wd2 y), .int .u64 (wd3 y), .int .u64 (wd0 v), .int .u64 (wd1 v), .int .u64 (wd2 v), .int .u64 (wd3 v)]] w fun e w' => e = .returned (.tuple #[.agg #[.int .i64 R0, .int .i64 R1], .bool R2]) ∧ Below w.heap.size w w' := by

  have HR0 := Lib.hid hR0
  clear hR0
  have HR1 := Lib.hid hR1
  clear hR1
  have HR2 := Lib.hid hR2
  clear hR2
  go_enter Try.func60, Try.ntmps60
  go_wp2_with fail
  first | refine calls_w ?_ | refine name_world ?_ | refine list_world ?_ | refine post_world ?_
  intro V1 hV1
  have hn : Below w.heap.size w V1 := by rw [hV1]; exact below_a2 _ _ _
  have nhb0 := hn
  have k1 : Blk V1 w.heap.size #[.int .u64 (wd0 x), .int .u64 (wd1 x), .int .u64 (wd2 x), .int .u64 (wd3 x), .int .u64 (wd0 y), .int .u64 (wd1 y), .int .u64 (wd2 y), .int .u64 (wd3 y), .int .u64 (wd0 v), .int .u64 (wd1 v), .int .u64 (wd2 v), .int .u64 (wd3 v)] 67 := by rw [hV1]; exact ((Blk.new _ _ _).alloc _)
  have k2 : Blk V1 (w.heap.size + 1) #[.int .i64 0, .int .i64 0] 24 := by rw [hV1]; exact (Blk.new1 _ _ _ _)
  clear hV1
  have hb0 := nhb0
  clear nhb0
  obtain ⟨z1, hz1⟩ : ∃ o_o : Bool, spR x y v = o_o := ⟨_, rfl⟩
  have Hz1 := Lib.hid hz1
  clear hz1
  refine (SpRight_is x y v z1 Hz1.out _ix _iy _iv  _).mono ?_
  rintro e U2 ⟨rfl, hn⟩
  replace k1 := k1.of hn
  replace k2 := k2.of hn
  replace hb0 := hb0.trans (hn.mono hb0.size)
  clear hn
  cases z1
  · have c2_0 : U2.cell? ⟨(w.heap.size + 1), 0, none⟩ = some (.int .i64 0) := k2.cell 0
    have c2_1 : U2.cell? ⟨(w.heap.size + 1), 1, none⟩ = some (.int .i64 0) := k2.cell 1
    have f2_0 := k2.free 0
    have f2_1 := k2.free 1
    have l2 := k2.lt
    have e0 : 0 = R0 := by rw [← HR0.out]; unfold whx; (try rw [Hz1.out]); all_goals first | rfl | simp
    have e1 : 0 = R1 := by rw [← HR1.out]; unfold why; (try rw [Hz1.out]); all_goals first | rfl | simp
    have e2 : false = R2 := by rw [← HR2.out]; unfold whk; (try rw [Hz1.out]); all_goals first | rfl | simp
    subst e0
    subst e1
    subst e2
    go_wp2
    clear c2_0 c2_1 f2_0 f2_1 l2
    first | refine post_world ?_
    intro V3 hV3
    have D1 := Lib.hid k1.lt
    have D2 := Lib.hid k2.lt
    have D3 := Lib.hid hb0.size
    clear k1
    have nk2 : Blk V3 (w.heap.size + 1) #[.int .i64 0, .int .i64 0] 24 := by rw [hV3]; exact (blk_full _ [.int .i64 0, .int .i64 0] k2 rfl)
    have nhb0 : Below w.heap.size w V3 := by rw [hV3]; exact (blw_setL hb0 (by omega) 0 [.int .i64 0, .int .i64 0])
    clear k2
    clear hb0
    clear hV3
    have k2 := nk2
    clear nk2
    have hb0 := nhb0
    clear nhb0
    have g2_0 : V3.cell? ⟨(w.heap.size + 1), 0, none⟩ = some (.int .i64 0) := k2.cell 0
    have g2_1 : V3.cell? ⟨(w.heap.size + 1), 1, none⟩ = some (.int .i64 0) := k2.cell 1
    clear k2
    simp [bodyPost, results, Try.results60, go_sem, g2_0, g2_1]
    first | exact hb0 | exact ⟨rfl, hb0⟩
  · have c1_0 : U2.cell? ⟨w.heap.size, 0, none⟩ = some (.int .u64 (wd0 x)) := k1.cell 0
    have c1_1 : U2.cell? ⟨w.heap.size, 1, none⟩ = some (.int .u64 (wd1 x)) := k1.cell 1
    have c1_2 : U2.cell? ⟨w.heap.size, 2, none⟩ = some (.int .u64 (wd2 x)) := k1.cell 2
    have c1_3 : U2.cell? ⟨w.heap.size, 3, none⟩ = some (.int .u64 (wd3 x)) := k1.cell 3
    have c1_8 : U2.cell? ⟨w.heap.size, 8, none⟩ = some (.int .u64 (wd0 v)) := k1.cell 8
    have c1_9 : U2.cell? ⟨w.heap.size, 9, none⟩ = some (.int .u64 (wd1 v)) := k1.cell 9
    have c1_10 : U2.cell? ⟨w.heap.size, 10, none⟩ = some (.int .u64 (wd2 v)) := k1.cell 10
    have c1_11 : U2.cell? ⟨w.heap.size, 11, none⟩ = some (.int .u64 (wd3 v)) := k1.cell 11
    have l1 := k1.lt
    go_wp2_with fail
    clear c1_0 c1_1 c1_2 c1_3 c1_8 c1_9 c1_10 c1_11 l1
    obtain ⟨r2, hr2⟩ : ∃ o_o : Int, dvq x v = o_o := ⟨_, rfl⟩
    have Hr2 := Lib.hid hr2
    clear hr2
    obtain ⟨r3, hr3⟩ : ∃ o_o : Int, dvr x v = o_o := ⟨_, rfl⟩
    have Hr3 := Lib.hid hr3
    clear hr3
    obtain ⟨z4, hz4⟩ : ∃ o_o : Bool, dvOk x v = o_o := ⟨_, rfl⟩
    have Hz4 := Lib.hid hz4
    clear hz4
    refine (Div_v x v r2 r3 z4 Hr2.out Hr3.out Hz4.out _ix _iv _).mono ?_
    rintro e U4 ⟨rfl, hn⟩
    replace k1 := k1.of hn
    replace k2 := k2.of hn
    replace hb0 := hb0.trans (hn.mono hb0.size)
    clear hn
    have c1_4 : U4.cell? ⟨w.heap.size, 4, none⟩ = some (.int .u64 (wd0 y)) := k1.cell 4
    have c1_5 : U4.cell? ⟨w.heap.size, 5, none⟩ = some (.int .u64 (wd1 y)) := k1.cell 5
    have c1_6 : U4.cell? ⟨w.heap.size, 6, none⟩ = some (.int .u64 (wd2 y)) := k1.cell 6
    have c1_7 : U4.cell? ⟨w.heap.size, 7, none⟩ = some (.int .u64 (wd3 y)) := k1.cell 7
    have c1_8 : U4.cell? ⟨w.heap.size, 8, none⟩ = some (.int .u64 (wd0 v)) := k1.cell 8
    have c1_9 : U4.cell? ⟨w.heap.size, 9, none⟩ = some (.int .u64 (wd1 v)) := k1.cell 9
    have c1_10 : U4.cell? ⟨w.heap.size, 10, none⟩ = some (.int .u64 (wd2 v)) := k1.cell 10
    have c1_11 : U4.cell? ⟨w.heap.size, 11, none⟩ = some (.int .u64 (wd3 v)) := k1.cell 11
    have l1 := k1.lt
    go_wp2_with fail
    clear c1_4 c1_5 c1_6 c1_7 c1_8 c1_9 c1_10 c1_11 l1
    first | refine calls_w ?_ | refine name_world ?_ | refine list_world ?_ | refine post_world ?_
    intro V5 hV5
    clear k1
    have D4 := Lib.hid k2.lt
    have D5 := Lib.hid hb0.size
    have hn : Below U4.heap.size U4 V5 := by rw [hV5]; exact below_a2 _ _ _
    have nk2 := k2.of hn
    have nhb0 := hb0.trans (hn.mono hb0.size)
    clear hn
    have k3 : Blk V5 U4.heap.size #[.int .u64 (wd0 r2), .int .u64 (wd1 r2), .int .u64 (wd2 r2), .int .u64 (wd3 r2)] 35 := by rw [hV5]; exact ((Blk.new _ _ _).alloc _)
    have k4 : Blk V5 (U4.heap.size + 1) #[.int .u64 (wd0 r3), .int .u64 (wd1 r3), .int .u64 (wd2 r3), .int .u64 (wd3 r3)] 35 := by rw [hV5]; exact (Blk.new1 _ _ _ _)
    clear k2
    clear hb0
    clear hV5
    have k2 := nk2
    clear nk2
    have hb0 := nhb0
    clear nhb0
    obtain ⟨r5, hr5⟩ : ∃ o_o : Int, dvq y v = o_o := ⟨_, rfl⟩
    have Hr5 := Lib.hid hr5
    clear hr5
    obtain ⟨r6, hr6⟩ : ∃ o_o : Int, dvr y v = o_o := ⟨_, rfl⟩
    have Hr6 := Lib.hid hr6
    clear hr6
    obtain ⟨z7, hz7⟩ : ∃ o_o : Bool, dvOk y v = o_o := ⟨_, rfl⟩
    have Hz7 := Lib.hid hz7
    clear hz7
    refine (Div_v y v r5 r6 z7 Hr5.out Hr6.out Hz7.out _iy _iv _).mono ?_
    rintro e U6 ⟨rfl, hn⟩
    replace k2 := k2.of hn
    replace k3 := k3.of hn
    replace k4 := k4.of hn
    replace hb0 := hb0.trans (hn.mono hb0.size)
    clear hn
    have c4_0 : U6.cell? ⟨(U4.heap.size + 1), 0, none⟩ = some (.int .u64 (wd0 r3)) := k4.cell 0
    have c4_1 : U6.cell? ⟨(U4.heap.size + 1), 1, none⟩ = some (.int .u64 (wd1 r3)) := k4.cell 1
    have c4_2 : U6.cell? ⟨(U4.heap.size + 1), 2, none⟩ = some (.int .u64 (wd2 r3)) := k4.cell 2
    have c4_3 : U6.cell? ⟨(U4.heap.size + 1), 3, none⟩ = some (.int .u64 (wd3 r3)) := k4.cell 3
    have l4 := k4.lt
    have l4_0 : U4.heap.size < U6.heap.size := by have := k4.lt; omega
    go_wp2_with fail
    clear c4_0 c4_1 c4_2 c4_3 l4 l4_0
    first | refine calls_w ?_ | refine name_world ?_ | refine list_world ?_ | refine post_world ?_
    intro V7 hV7
    clear k4
    have D6 := Lib.hid k2.lt
    have D7 := Lib.hid k3.lt
    have D8 := Lib.hid hb0.size
    have hn : Below U6.heap.size U6 V7 := by rw [hV7]; exact below_a2 _ _ _
    have nk2 := k2.of hn
    have nk3 := k3.of hn
    have nhb0 := hb0.trans (hn.mono hb0.size)
    clear hn
    have k5 : Blk V7 U6.heap.size #[.int .u64 (wd0 r5), .int .u64 (wd1 r5), .int .u64 (wd2 r5), .int .u64 (wd3 r5)] 35 := by rw [hV7]; exact ((Blk.new _ _ _).alloc _)
    have k6 : Blk V7 (U6.heap.size + 1) #[.int .u64 (wd0 r6), .int .u64 (wd1 r6), .int .u64 (wd2 r6), .int .u64 (wd3 r6)] 35 := by rw [hV7]; exact (Blk.new1 _ _ _ _)
    clear k2 k3
    clear hb0
    clear hV7
    have k2 := nk2
    clear nk2
    have k3 := nk3
    clear nk3
    have hb0 := nhb0
    clear nhb0
    obtain ⟨r8, hr8⟩ : ∃ o_o : Int, r3.sign = o_o := ⟨_, rfl⟩
    have Hr8 := Lib.hid hr8
    clear hr8
    refine (Sign_v r3 r8 Hr8.out (Hr3.out ▸ dvr_in _ix _iv) _).mono ?_
    rintro e U8 ⟨rfl, hn⟩
    replace k2 := k2.of hn
    replace k3 := k3.of hn
    replace k5 := k5.of hn
    replace k6 := k6.of hn
    replace hb0 := hb0.trans (hn.mono hb0.size)
    clear hn
    obtain ⟨z9, hz9⟩ : ∃ o_o : Bool, (r8 == 0) = o_o := ⟨_, rfl⟩
    cases z9
    · have nz9 : ¬ r8 = 0 := by simpa using hz9
      have c2_0 : U8.cell? ⟨(w.heap.size + 1), 0, none⟩ = some (.int .i64 0) := k2.cell 0
      have c2_1 : U8.cell? ⟨(w.heap.size + 1), 1, none⟩ = some (.int .i64 0) := k2.cell 1
      have f2_0 := k2.free 0
      have f2_1 := k2.free 1
      have l2 := k2.lt
      have e0 : 0 = R0 := by rw [← HR0.out]; unfold whx; (try rw [Hz1.out]); (try rw [Hr2.out]); (try rw [Hr3.out]); (try rw [Hz4.out]); (try rw [Hr5.out]); (try rw [Hr6.out]); (try rw [Hz7.out]); (try rw [Hr8.out]); (try rw [hz9]); all_goals first | rfl | simp
      have e1 : 0 = R1 := by rw [← HR1.out]; unfold why; (try rw [Hz1.out]); (try rw [Hr2.out]); (try rw [Hr3.out]); (try rw [Hz4.out]); (try rw [Hr5.out]); (try rw [Hr6.out]); (try rw [Hz7.out]); (try rw [Hr8.out]); (try rw [hz9]); all_goals first | rfl | simp
      have e2 : false = R2 := by rw [← HR2.out]; unfold whk; (try rw [Hz1.out]); (try rw [Hr2.out]); (try rw [Hr3.out]); (try rw [Hz4.out]); (try rw [Hr5.out]); (try rw [Hr6.out]); (try rw [Hz7.out]); (try rw [Hr8.out]); (try rw [hz9]); all_goals first | rfl | simp
      subst e0
      subst e1
      subst e2
      go_wp2
      clear c2_0 c2_1 f2_0 f2_1 l2
      first | refine post_world ?_
      intro V9 hV9
      clear k6
      have D9 := Lib.hid k2.lt
      have D10 := Lib.hid k3.lt
      have D11 := Lib.hid k5.lt
      have D12 := Lib.hid hb0.size
      clear k3 k5
      have nk2 : Blk V9 (w.heap.size + 1) #[.int .i64 0, .int .i64 0] 24 := by rw [hV9]; exact (blk_full _ [.int .i64 0, .int .i64 0] k2 rfl)
      have nhb0 : Below w.heap.size w V9 := by rw [hV9]; exact (blw_setL hb0 (by omega) 0 [.int .i64 0, .int .i64 0])
      clear k2
      clear hb0
      clear hV9
      have k2 := nk2
      clear nk2
      have hb0 := nhb0
      clear nhb0
      have g2_0 : V9.cell? ⟨(w.heap.size + 1), 0, none⟩ = some (.int .i64 0) := k2.cell 0
      have g2_1 : V9.cell? ⟨(w.heap.size + 1), 1, none⟩ = some (.int .i64 0) := k2.cell 1
      clear k2
      simp [bodyPost, results, Try.results60, go_sem, g2_0, g2_1]
      first | exact hb0 | exact ⟨rfl, hb0⟩
    · obtain rfl : r8 = 0 := by simpa using hz9
      clear hz9
      have c6_0 : U8.cell? ⟨(U6.heap.size + 1), 0, none⟩ = some (.int .u64 (wd0 r6)) := k6.cell 0
      have c6_1 : U8.cell? ⟨(U6.heap.size + 1), 1, none⟩ = some (.int .u64 (wd1 r6)) := k6.cell 1
      have c6_2 : U8.cell? ⟨(U6.heap.size + 1), 2, none⟩ = some (.int .u64 (wd2 r6)) := k6.cell 2
      have c6_3 : U8.cell? ⟨(U6.heap.size + 1), 3, none⟩ = some (.int .u64 (wd3 r6)) := k6.cell 3
      have l6 := k6.lt
      go_wp2_with fail
      clear c6_0 c6_1 c6_2 c6_3 l6
      obtain ⟨r10, hr10⟩ : ∃ o_o : Int, r6.sign = o_o := ⟨_, rfl⟩
      have Hr10 := Lib.hid hr10
      clear hr10
      refine (Sign_v r6 r10 Hr10.out (Hr6.out ▸ dvr_in _iy _iv) _).mono ?_
      rintro e U10 ⟨rfl, hn⟩
      clear k6
      replace k2 := k2.of hn
      replace k3 := k3.of hn
      replace k5 := k5.of hn
      replace hb0 := hb0.trans (hn.mono hb0.size)
      clear hn
      obtain ⟨z11, hz11⟩ : ∃ o_o : Bool, (r10 == 0) = o_o := ⟨_, rfl⟩
      cases z11
      · have nz11 : ¬ r10 = 0 := by simpa using hz11
        have c2_0 : U10.cell? ⟨(w.heap.size + 1), 0, none⟩ = some (.int .i64 0) := k2.cell 0
        have c2_1 : U10.cell? ⟨(w.heap.size + 1), 1, none⟩ = some (.int .i64 0) := k2.cell 1
        have f2_0 := k2.free 0
        have f2_1 := k2.free 1
        have l2 := k2.lt
        have e0 : 0 = R0 := by rw [← HR0.out]; unfold whx; (try rw [Hz1.out]); (try rw [Hr2.out]); (try rw [Hr3.out]); (try rw [Hz4.out]); (try rw [Hr5.out]); (try rw [Hr6.out]); (try rw [Hz7.out]); (try rw [Hr8.out]); (try rw [Hr10.out]); (try rw [hz11]); all_goals first | rfl | simp
        have e1 : 0 = R1 := by rw [← HR1.out]; unfold why; (try rw [Hz1.out]); (try rw [Hr2.out]); (try rw [Hr3.out]); (try rw [Hz4.out]); (try rw [Hr5.out]); (try rw [Hr6.out]); (try rw [Hz7.out]); (try rw [Hr8.out]); (try rw [Hr10.out]); (try rw [hz11]); all_goals first | rfl | simp
        have e2 : false = R2 := by rw [← HR2.out]; unfold whk; (try rw [Hz1.out]); (try rw [Hr2.out]); (try rw [Hr3.out]); (try rw [Hz4.out]); (try rw [Hr5.out]); (try rw [Hr6.out]); (try rw [Hz7.out]); (try rw [Hr8.out]); (try rw [Hr10.out]); (try rw [hz11]); all_goals first | rfl | simp
        subst e0
        subst e1
        subst e2
        go_wp2
        clear c2_0 c2_1 f2_0 f2_1 l2
        first | refine post_world ?_
        intro V11 hV11
        have D13 := Lib.hid k2.lt
        have D14 := Lib.hid k3.lt
        have D15 := Lib.hid k5.lt
        have D16 := Lib.hid hb0.size
        clear k3 k5
        have nk2 : Blk V11 (w.heap.size + 1) #[.int .i64 0, .int .i64 0] 24 := by rw [hV11]; exact (blk_full _ [.int .i64 0, .int .i64 0] k2 rfl)
        have nhb0 : Below w.heap.size w V11 := by rw [hV11]; exact (blw_setL hb0 (by omega) 0 [.int .i64 0, .int .i64 0])
        clear k2
        clear hb0
        clear hV11
        have k2 := nk2
        clear nk2
        have hb0 := nhb0
        clear nhb0
        have g2_0 : V11.cell? ⟨(w.heap.size + 1), 0, none⟩ = some (.int .i64 0) := k2.cell 0
        have g2_1 : V11.cell? ⟨(w.heap.size + 1), 1, none⟩ = some (.int .i64 0) := k2.cell 1
        clear k2
        simp [bodyPost, results, Try.results60, go_sem, g2_0, g2_1]
        first | exact hb0 | exact ⟨rfl, hb0⟩
      · obtain rfl : r10 = 0 := by simpa using hz11
        clear hz11
        have c3_0 : U10.cell? ⟨U4.heap.size, 0, none⟩ = some (.int .u64 (wd0 r2)) := k3.cell 0
        have c3_1 : U10.cell? ⟨U4.heap.size, 1, none⟩ = some (.int .u64 (wd1 r2)) := k3.cell 1
        have c3_2 : U10.cell? ⟨U4.heap.size, 2, none⟩ = some (.int .u64 (wd2 r2)) := k3.cell 2
        have c3_3 : U10.cell? ⟨U4.heap.size, 3, none⟩ = some (.int .u64 (wd3 r2)) := k3.cell 3
        have l3 := k3.lt
        go_wp2_with fail
        clear c3_0 c3_1 c3_2 c3_3 l3
        obtain ⟨r12, hr12⟩ : ∃ o_o : Int, smk r2 = o_o := ⟨_, rfl⟩
        have Hr12 := Lib.hid hr12
        clear hr12
        obtain ⟨z13, hz13⟩ : ∃ o_o : Bool, decide (In64 r2) = o_o := ⟨_, rfl⟩
        have Hz13 := Lib.hid hz13
        clear hz13
        refine (Small_v r2 r12 z13 Hr12.out Hz13.out (Hr2.out ▸ dvq_in _ix _iv) _).mono ?_
        rintro e U12 ⟨rfl, hn⟩
        clear k3
        replace k2 := k2.of hn
        replace k5 := k5.of hn
        replace hb0 := hb0.trans (hn.mono hb0.size)
        clear hn
        have c5_0 : U12.cell? ⟨U6.heap.size, 0, none⟩ = some (.int .u64 (wd0 r5)) := k5.cell 0
        have c5_1 : U12.cell? ⟨U6.heap.size, 1, none⟩ = some (.int .u64 (wd1 r5)) := k5.cell 1
        have c5_2 : U12.cell? ⟨U6.heap.size, 2, none⟩ = some (.int .u64 (wd2 r5)) := k5.cell 2
        have c5_3 : U12.cell? ⟨U6.heap.size, 3, none⟩ = some (.int .u64 (wd3 r5)) := k5.cell 3
        have l5 := k5.lt
        go_wp2_with fail
        clear c5_0 c5_1 c5_2 c5_3 l5
        obtain ⟨r14, hr14⟩ : ∃ o_o : Int, smk r5 = o_o := ⟨_, rfl⟩
        have Hr14 := Lib.hid hr14
        clear hr14
        obtain ⟨z15, hz15⟩ : ∃ o_o : Bool, decide (In64 r5) = o_o := ⟨_, rfl⟩
        have Hz15 := Lib.hid hz15
        clear hz15
        refine (Small_v r5 r14 z15 Hr14.out Hz15.out (Hr5.out ▸ dvq_in _iy _iv) _).mono ?_
        rintro e U13 ⟨rfl, hn⟩
        clear k5
        replace k2 := k2.of hn
        replace hb0 := hb0.trans (hn.mono hb0.size)
        clear hn
        have c2_0 : U13.cell? ⟨(w.heap.size + 1), 0, none⟩ = some (.int .i64 0) := k2.cell 0
        have c2_1 : U13.cell? ⟨(w.heap.size + 1), 1, none⟩ = some (.int .i64 0) := k2.cell 1
        have f2_0 := k2.free 0
        have f2_1 := k2.free 1
        have l2 := k2.lt
        have e0 : r12 = R0 := by rw [← HR0.out]; unfold whx; (try rw [Hz1.out]); (try rw [Hr2.out]); (try rw [Hr3.out]); (try rw [Hz4.out]); (try rw [Hr5.out]); (try rw [Hr6.out]); (try rw [Hz7.out]); (try rw [Hr8.out]); (try rw [Hr10.out]); (try rw [Hr12.out]); (try rw [Hz13.out]); (try rw [Hr14.out]); (try rw [Hz15.out]); all_goals first | rfl | simp
        have e1 : r14 = R1 := by rw [← HR1.out]; unfold why; (try rw [Hz1.out]); (try rw [Hr2.out]); (try rw [Hr3.out]); (try rw [Hz4.out]); (try rw [Hr5.out]); (try rw [Hr6.out]); (try rw [Hz7.out]); (try rw [Hr8.out]); (try rw [Hr10.out]); (try rw [Hr12.out]); (try rw [Hz13.out]); (try rw [Hr14.out]); (try rw [Hz15.out]); all_goals first | rfl | simp
        have e2 : true = R2 := by rw [← HR2.out]; unfold whk; (try rw [Hz1.out]); (try rw [Hr2.out]); (try rw [Hr3.out]); (try rw [Hz4.out]); (try rw [Hr5.out]); (try rw [Hr6.out]); (try rw [Hz7.out]); (try rw [Hr8.out]); (try rw [Hr10.out]); (try rw [Hr12.out]); (try rw [Hz13.out]); (try rw [Hr14.out]); (try rw [Hz15.out]); all_goals first | rfl | simp
        subst e0
        subst e1
        subst e2
        go_wp2
        clear c2_0 c2_1 f2_0 f2_1 l2
        first | refine post_world ?_
        intro V14 hV14
        have D17 := Lib.hid k2.lt
        have D18 := Lib.hid hb0.size
        have nk2 : Blk V14 (w.heap.size + 1) #[.int .i64 r12, .int .i64 r14] 24 := by rw [hV14]; exact (blk_full _ [.int .i64 r12, .int .i64 r14] k2 rfl)
        have nhb0 : Below w.heap.size w V14 := by rw [hV14]; exact (blw_setL hb0 (by omega) 0 [.int .i64 r12, .int .i64 r14])
        clear k2
        clear hb0
        clear hV14
        have k2 := nk2
        clear nk2
        have hb0 := nhb0
        clear nhb0
        have g2_0 : V14.cell? ⟨(w.heap.size + 1), 0, none⟩ = some (.int .i64 r12) := k2.cell 0
        have g2_1 : V14.cell? ⟨(w.heap.size + 1), 1, none⟩ = some (.int .i64 r14) := k2.cell 1
        clear k2
        simp [bodyPost, results, Try.results60, go_sem, g2_0, g2_1]
        first | exact hb0 | exact ⟨rfl, hb0⟩

def sde (ax : Int) (ay : Int) (bx : Int) (b_y : Int) (x : Int) (y : Int) (v : Int) : Int := ((subv (mulv (wyx ax ay bx b_y) (subv y (mulv (lwy ax ay bx b_y) v))) (mulv (wyy ax ay bx b_y) (subv x (mulv (lwx ax ay bx b_y) v)))).sign)

set_option maxRecDepth 100000 in
set_option maxHeartbeats 4000000 in

theorem crside_is (ax : Int) (ay : Int) (bx : Int) (b_y : Int) (x : Int) (y : Int) (v : Int)  (R0 : Int) (hR0 : sde ax ay bx b_y x y v = R0) (_iax : In64 ax) (_iay : In64 ay) (_ibx : In64 bx) (_ib_y : In64 b_y) (_ix : InI x) (_iy : InI y) (_iv : InI v)  (w : World)  :
    Calls Try.prog 112 #[.agg #[.int .i64 ax, .int .i64 ay, .int .i64 bx, .int .i64 b_y], .agg #[.int .u64 (wd0 x), .int .u64 (wd1 x), .int .u64 (wd2 x), .int .u64 (wd3 x), .int .u64 (wd0 y), .int .u64 (wd1 y), .int .u64 (wd2 y), .int .u64 (wd3 y), .int .u64 (wd0 v), .int .u64 (wd1 v), .int .u64 (wd2 v), .int .u64 (wd3 v)]] w fun e w' => e = .returned (.int .i64 R0) ∧ Below w.heap.size w w' := by

  have HR0 := Lib.hid hR0
  clear hR0
  go_enter Try.func112, Try.ntmps112
  go_wp2_with fail
  first | refine calls_w ?_ | refine name_world ?_ | refine list_world ?_ | refine post_world ?_
  intro V1 hV1
  have hn : Below w.heap.size w V1 := by rw [hV1]; exact below_a2 _ _ _
  have nhb0 := hn
  have k1 : Blk V1 w.heap.size #[.int .i64 ax, .int .i64 ay, .int .i64 bx, .int .i64 b_y] 50 := by rw [hV1]; exact ((Blk.new _ _ _).alloc _)
  have k2 : Blk V1 (w.heap.size + 1) #[.int .u64 (wd0 x), .int .u64 (wd1 x), .int .u64 (wd2 x), .int .u64 (wd3 x), .int .u64 (wd0 y), .int .u64 (wd1 y), .int .u64 (wd2 y), .int .u64 (wd3 y), .int .u64 (wd0 v), .int .u64 (wd1 v), .int .u64 (wd2 v), .int .u64 (wd3 v)] 67 := by rw [hV1]; exact (Blk.new1 _ _ _ _)
  clear hV1
  have hb0 := nhb0
  clear nhb0
  obtain ⟨r1, hr1⟩ : ∃ o_o : Int, lwx ax ay bx b_y = o_o := ⟨_, rfl⟩
  have Hr1 := Lib.hid hr1
  clear hr1
  obtain ⟨r2, hr2⟩ : ∃ o_o : Int, lwy ax ay bx b_y = o_o := ⟨_, rfl⟩
  have Hr2 := Lib.hid hr2
  clear hr2
  obtain ⟨r3, hr3⟩ : ∃ o_o : Int, hgx ax ay bx b_y = o_o := ⟨_, rfl⟩
  have Hr3 := Lib.hid hr3
  clear hr3
  obtain ⟨r4, hr4⟩ : ∃ o_o : Int, hgy ax ay bx b_y = o_o := ⟨_, rfl⟩
  have Hr4 := Lib.hid hr4
  clear hr4
  refine (Ends_is ax ay bx b_y r1 r2 r3 r4 Hr1.out Hr2.out Hr3.out Hr4.out _iax _iay _ibx _ib_y  _).mono ?_
  rintro e U2 ⟨rfl, hn⟩
  replace k1 := k1.of hn
  replace k2 := k2.of hn
  replace hb0 := hb0.trans (hn.mono hb0.size)
  clear hn
  have c1_0 : U2.cell? ⟨w.heap.size, 0, none⟩ = some (.int .i64 ax) := k1.cell 0
  have c1_1 : U2.cell? ⟨w.heap.size, 1, none⟩ = some (.int .i64 ay) := k1.cell 1
  have c1_2 : U2.cell? ⟨w.heap.size, 2, none⟩ = some (.int .i64 bx) := k1.cell 2
  have c1_3 : U2.cell? ⟨w.heap.size, 3, none⟩ = some (.int .i64 b_y) := k1.cell 3
  have l1 := k1.lt
  go_wp2_with fail
  clear c1_0 c1_1 c1_2 c1_3 l1
  first | refine calls_w ?_ | refine name_world ?_ | refine list_world ?_ | refine post_world ?_
  intro V3 hV3
  clear k1
  have D1 := Lib.hid k2.lt
  have D2 := Lib.hid hb0.size
  have hn : Below U2.heap.size U2 V3 := by rw [hV3]; exact below_a2 _ _ _
  have nk2 := k2.of hn
  have nhb0 := hb0.trans (hn.mono hb0.size)
  clear hn
  have k3 : Blk V3 U2.heap.size #[.int .i64 r1, .int .i64 r2] 24 := by rw [hV3]; exact ((Blk.new _ _ _).alloc _)
  have k4 : Blk V3 (U2.heap.size + 1) #[.int .i64 r3, .int .i64 r4] 24 := by rw [hV3]; exact (Blk.new1 _ _ _ _)
  clear k2
  clear hb0
  clear hV3
  have k2 := nk2
  clear nk2
  have hb0 := nhb0
  clear nhb0
  obtain ⟨r5, hr5⟩ : ∃ o_o : Int, wyx ax ay bx b_y = o_o := ⟨_, rfl⟩
  have Hr5 := Lib.hid hr5
  clear hr5
  obtain ⟨r6, hr6⟩ : ∃ o_o : Int, wyy ax ay bx b_y = o_o := ⟨_, rfl⟩
  have Hr6 := Lib.hid hr6
  clear hr6
  refine (crway_is ax ay bx b_y r5 r6 Hr5.out Hr6.out _iax _iay _ibx _ib_y  _).mono ?_
  rintro e U4 ⟨rfl, hn⟩
  clear k4
  replace k2 := k2.of hn
  replace k3 := k3.of hn
  replace hb0 := hb0.trans (hn.mono hb0.size)
  clear hn
  go_wp2_with fail
  first | refine calls_w ?_ | refine name_world ?_ | refine list_world ?_ | refine post_world ?_
  intro V5 hV5
  have D3 := Lib.hid k2.lt
  have D4 := Lib.hid k3.lt
  have D5 := Lib.hid hb0.size
  have hn : Below U4.heap.size U4 V5 := by rw [hV5]; exact below_a2 _ _ _
  have nk2 := k2.of hn
  have nk3 := k3.of hn
  have nhb0 := hb0.trans (hn.mono hb0.size)
  clear hn
  have k5 : Blk V5 U4.heap.size #[.int .u64 (wd0 r5), .int .u64 (wd1 r5), .int .u64 (wd2 r5), .int .u64 (wd3 r5)] 35 := by rw [hV5]; exact ((Blk.new _ _ _).alloc _)
  have k6 : Blk V5 (U4.heap.size + 1) #[.int .u64 (wd0 r6), .int .u64 (wd1 r6), .int .u64 (wd2 r6), .int .u64 (wd3 r6)] 35 := by rw [hV5]; exact (Blk.new1 _ _ _ _)
  clear k2 k3
  clear hb0
  clear hV5
  have k2 := nk2
  clear nk2
  have k3 := nk3
  clear nk3
  have hb0 := nhb0
  clear nhb0
  obtain ⟨r7, hr7⟩ : ∃ o_o : Int, mulv r2 v = o_o := ⟨_, rfl⟩
  have Hr7 := Lib.hid hr7
  clear hr7
  obtain ⟨r8, hr8⟩ : ∃ o_o : Int, subv y r7 = o_o := ⟨_, rfl⟩
  have Hr8 := Lib.hid hr8
  clear hr8
  obtain ⟨r9, hr9⟩ : ∃ o_o : Int, mulv r5 r8 = o_o := ⟨_, rfl⟩
  have Hr9 := Lib.hid hr9
  clear hr9
  obtain ⟨r10, hr10⟩ : ∃ o_o : Int, mulv r1 v = o_o := ⟨_, rfl⟩
  have Hr10 := Lib.hid hr10
  clear hr10
  obtain ⟨r11, hr11⟩ : ∃ o_o : Int, subv x r10 = o_o := ⟨_, rfl⟩
  have Hr11 := Lib.hid hr11
  clear hr11
  have c2_0 : V5.cell? ⟨(w.heap.size + 1), 0, none⟩ = some (.int .u64 (wd0 x)) := k2.cell 0
  have c2_1 : V5.cell? ⟨(w.heap.size + 1), 1, none⟩ = some (.int .u64 (wd1 x)) := k2.cell 1
  have c2_2 : V5.cell? ⟨(w.heap.size + 1), 2, none⟩ = some (.int .u64 (wd2 x)) := k2.cell 2
  have c2_3 : V5.cell? ⟨(w.heap.size + 1), 3, none⟩ = some (.int .u64 (wd3 x)) := k2.cell 3
  have c2_4 : V5.cell? ⟨(w.heap.size + 1), 4, none⟩ = some (.int .u64 (wd0 y)) := k2.cell 4
  have c2_5 : V5.cell? ⟨(w.heap.size + 1), 5, none⟩ = some (.int .u64 (wd1 y)) := k2.cell 5
  have c2_6 : V5.cell? ⟨(w.heap.size + 1), 6, none⟩ = some (.int .u64 (wd2 y)) := k2.cell 6
  have c2_7 : V5.cell? ⟨(w.heap.size + 1), 7, none⟩ = some (.int .u64 (wd3 y)) := k2.cell 7
  have c2_8 : V5.cell? ⟨(w.heap.size + 1), 8, none⟩ = some (.int .u64 (wd0 v)) := k2.cell 8
  have c2_9 : V5.cell? ⟨(w.heap.size + 1), 9, none⟩ = some (.int .u64 (wd1 v)) := k2.cell 9
  have c2_10 : V5.cell? ⟨(w.heap.size + 1), 10, none⟩ = some (.int .u64 (wd2 v)) := k2.cell 10
  have c2_11 : V5.cell? ⟨(w.heap.size + 1), 11, none⟩ = some (.int .u64 (wd3 v)) := k2.cell 11
  have l2 := k2.lt
  have c3_0 : V5.cell? ⟨U2.heap.size, 0, none⟩ = some (.int .i64 r1) := k3.cell 0
  have c3_1 : V5.cell? ⟨U2.heap.size, 1, none⟩ = some (.int .i64 r2) := k3.cell 1
  have l3 := k3.lt
  have c5_0 : V5.cell? ⟨U4.heap.size, 0, none⟩ = some (.int .u64 (wd0 r5)) := k5.cell 0
  have c5_1 : V5.cell? ⟨U4.heap.size, 1, none⟩ = some (.int .u64 (wd1 r5)) := k5.cell 1
  have c5_2 : V5.cell? ⟨U4.heap.size, 2, none⟩ = some (.int .u64 (wd2 r5)) := k5.cell 2
  have c5_3 : V5.cell? ⟨U4.heap.size, 3, none⟩ = some (.int .u64 (wd3 r5)) := k5.cell 3
  have l5 := k5.lt
  have c6_0 : V5.cell? ⟨(U4.heap.size + 1), 0, none⟩ = some (.int .u64 (wd0 r6)) := k6.cell 0
  have c6_1 : V5.cell? ⟨(U4.heap.size + 1), 1, none⟩ = some (.int .u64 (wd1 r6)) := k6.cell 1
  have c6_2 : V5.cell? ⟨(U4.heap.size + 1), 2, none⟩ = some (.int .u64 (wd2 r6)) := k6.cell 2
  have c6_3 : V5.cell? ⟨(U4.heap.size + 1), 3, none⟩ = some (.int .u64 (wd3 r6)) := k6.cell 3
  have l6 := k6.lt
  have Kk2 := Lib.hid k2
  clear k2
  have Kk3 := Lib.hid k3
  clear k3
  have Kk5 := Lib.hid k5
  clear k5
  have Kk6 := Lib.hid k6
  clear k6
  refine wp_region_up V5.heap.size 21 [(true, 0), (true, 1), (true, 2), (true, 3), (true, 4), (true, 6), (true, 7), (true, 11), (true, 12), (true, 13), (true, 14), (true, 15), (true, 17), (true, 18), (false, 5), (false, 8), (false, 9), (false, 10), (false, 16), (false, 19), (false, 20)] (by kernel_rfl) (by kernel_rfl) (fun _ _ d _ _ h => by cases d <;> exact h) ?_
  have hb : Below V5.heap.size V5 V5.drew := (Below.refl _ _).drew
  iterate 14
    refine wpS_takeL rfl rfl ?_
    go_big_quiet_step (rfl)
    refine wpQuiet_nil ?_
  refine wpS_doL rfl ?_
  intro K hK
  go_wp2_with ((first | (go_at_call 62; (with_reducible refine (Of_v r2 r2 rfl (Hr2.out ▸ lwy_in ax ay bx b_y _iax _iay _ibx _ib_y) _).mono ?_); rintro e w2 ⟨rfl, hn⟩) | (go_at_call 106; (with_reducible refine (crtimes_is r2 v r7 Hr7.out (in64_I' (Hr2.out ▸ lwy_in ax ay bx b_y _iax _iay _ibx _ib_y)) _iv  _).mono ?_); rintro e w2 ⟨rfl, hn⟩) | (go_at_call 108; (with_reducible refine (crless_is y r7 r8 Hr8.out _iy (Hr7.out ▸ mulv_in r2 v)  _).mono ?_); rintro e w2 ⟨rfl, hn⟩) | (go_at_call 106; (with_reducible refine (crtimes_is r5 r8 r9 Hr9.out (Hr5.out ▸ wyx_in ax ay bx b_y _iax _iay _ibx _ib_y) (Hr8.out ▸ subv_in y r7)  _).mono ?_); rintro e w2 ⟨rfl, hn⟩) | (go_at_call 62; (with_reducible refine (Of_v r1 r1 rfl (Hr1.out ▸ lwx_in ax ay bx b_y _iax _iay _ibx _ib_y) _).mono ?_); rintro e w2 ⟨rfl, hn⟩) | (go_at_call 106; (with_reducible refine (crtimes_is r1 v r10 Hr10.out (in64_I' (Hr1.out ▸ lwx_in ax ay bx b_y _iax _iay _ibx _ib_y)) _iv  _).mono ?_); rintro e w2 ⟨rfl, hn⟩) | (go_at_call 108; (with_reducible refine (crless_is x r10 r11 Hr11.out _ix (Hr10.out ▸ mulv_in r1 v)  _).mono ?_); rintro e w2 ⟨rfl, hn⟩)))
  replace hb := hb.trans (hn.mono hb.size)
  refine hK.out _ _ (up_iff.2 hb) ?_
  clear hK K
  clear hn
  refine wpS_doL rfl ?_
  intro K hK
  go_wp2_with ((first | (go_at_call 62; (with_reducible refine (Of_v r2 r2 rfl (Hr2.out ▸ lwy_in ax ay bx b_y _iax _iay _ibx _ib_y) _).mono ?_); rintro e w2 ⟨rfl, hn⟩) | (go_at_call 106; (with_reducible refine (crtimes_is r2 v r7 Hr7.out (in64_I' (Hr2.out ▸ lwy_in ax ay bx b_y _iax _iay _ibx _ib_y)) _iv  _).mono ?_); rintro e w2 ⟨rfl, hn⟩) | (go_at_call 108; (with_reducible refine (crless_is y r7 r8 Hr8.out _iy (Hr7.out ▸ mulv_in r2 v)  _).mono ?_); rintro e w2 ⟨rfl, hn⟩) | (go_at_call 106; (with_reducible refine (crtimes_is r5 r8 r9 Hr9.out (Hr5.out ▸ wyx_in ax ay bx b_y _iax _iay _ibx _ib_y) (Hr8.out ▸ subv_in y r7)  _).mono ?_); rintro e w2 ⟨rfl, hn⟩) | (go_at_call 62; (with_reducible refine (Of_v r1 r1 rfl (Hr1.out ▸ lwx_in ax ay bx b_y _iax _iay _ibx _ib_y) _).mono ?_); rintro e w2 ⟨rfl, hn⟩) | (go_at_call 106; (with_reducible refine (crtimes_is r1 v r10 Hr10.out (in64_I' (Hr1.out ▸ lwx_in ax ay bx b_y _iax _iay _ibx _ib_y)) _iv  _).mono ?_); rintro e w2 ⟨rfl, hn⟩) | (go_at_call 108; (with_reducible refine (crless_is x r10 r11 Hr11.out _ix (Hr10.out ▸ mulv_in r1 v)  _).mono ?_); rintro e w2 ⟨rfl, hn⟩)))
  replace hb := hb.trans (hn.mono hb.size)
  refine hK.out _ _ (up_iff.2 hb) ?_
  clear hK K
  clear hn
  refine wpS_doL rfl ?_
  intro K hK
  go_wp2_with ((first | (go_at_call 62; (with_reducible refine (Of_v r2 r2 rfl (Hr2.out ▸ lwy_in ax ay bx b_y _iax _iay _ibx _ib_y) _).mono ?_); rintro e w2 ⟨rfl, hn⟩) | (go_at_call 106; (with_reducible refine (crtimes_is r2 v r7 Hr7.out (in64_I' (Hr2.out ▸ lwy_in ax ay bx b_y _iax _iay _ibx _ib_y)) _iv  _).mono ?_); rintro e w2 ⟨rfl, hn⟩) | (go_at_call 108; (with_reducible refine (crless_is y r7 r8 Hr8.out _iy (Hr7.out ▸ mulv_in r2 v)  _).mono ?_); rintro e w2 ⟨rfl, hn⟩) | (go_at_call 106; (with_reducible refine (crtimes_is r5 r8 r9 Hr9.out (Hr5.out ▸ wyx_in ax ay bx b_y _iax _iay _ibx _ib_y) (Hr8.out ▸ subv_in y r7)  _).mono ?_); rintro e w2 ⟨rfl, hn⟩) | (go_at_call 62; (with_reducible refine (Of_v r1 r1 rfl (Hr1.out ▸ lwx_in ax ay bx b_y _iax _iay _ibx _ib_y) _).mono ?_); rintro e w2 ⟨rfl, hn⟩) | (go_at_call 106; (with_reducible refine (crtimes_is r1 v r10 Hr10.out (in64_I' (Hr1.out ▸ lwx_in ax ay bx b_y _iax _iay _ibx _ib_y)) _iv  _).mono ?_); rintro e w2 ⟨rfl, hn⟩) | (go_at_call 108; (with_reducible refine (crless_is x r10 r11 Hr11.out _ix (Hr10.out ▸ mulv_in r1 v)  _).mono ?_); rintro e w2 ⟨rfl, hn⟩)))
  replace hb := hb.trans (hn.mono hb.size)
  refine hK.out _ _ (up_iff.2 hb) ?_
  clear hK K
  clear hn
  refine wpS_doL rfl ?_
  intro K hK
  go_wp2_with ((first | (go_at_call 62; (with_reducible refine (Of_v r2 r2 rfl (Hr2.out ▸ lwy_in ax ay bx b_y _iax _iay _ibx _ib_y) _).mono ?_); rintro e w2 ⟨rfl, hn⟩) | (go_at_call 106; (with_reducible refine (crtimes_is r2 v r7 Hr7.out (in64_I' (Hr2.out ▸ lwy_in ax ay bx b_y _iax _iay _ibx _ib_y)) _iv  _).mono ?_); rintro e w2 ⟨rfl, hn⟩) | (go_at_call 108; (with_reducible refine (crless_is y r7 r8 Hr8.out _iy (Hr7.out ▸ mulv_in r2 v)  _).mono ?_); rintro e w2 ⟨rfl, hn⟩) | (go_at_call 106; (with_reducible refine (crtimes_is r5 r8 r9 Hr9.out (Hr5.out ▸ wyx_in ax ay bx b_y _iax _iay _ibx _ib_y) (Hr8.out ▸ subv_in y r7)  _).mono ?_); rintro e w2 ⟨rfl, hn⟩) | (go_at_call 62; (with_reducible refine (Of_v r1 r1 rfl (Hr1.out ▸ lwx_in ax ay bx b_y _iax _iay _ibx _ib_y) _).mono ?_); rintro e w2 ⟨rfl, hn⟩) | (go_at_call 106; (with_reducible refine (crtimes_is r1 v r10 Hr10.out (in64_I' (Hr1.out ▸ lwx_in ax ay bx b_y _iax _iay _ibx _ib_y)) _iv  _).mono ?_); rintro e w2 ⟨rfl, hn⟩) | (go_at_call 108; (with_reducible refine (crless_is x r10 r11 Hr11.out _ix (Hr10.out ▸ mulv_in r1 v)  _).mono ?_); rintro e w2 ⟨rfl, hn⟩)))
  replace hb := hb.trans (hn.mono hb.size)
  refine hK.out _ _ (up_iff.2 hb) ?_
  clear hK K
  clear hn
  refine wpS_doL rfl ?_
  intro K hK
  go_wp2_with ((first | (go_at_call 62; (with_reducible refine (Of_v r2 r2 rfl (Hr2.out ▸ lwy_in ax ay bx b_y _iax _iay _ibx _ib_y) _).mono ?_); rintro e w2 ⟨rfl, hn⟩) | (go_at_call 106; (with_reducible refine (crtimes_is r2 v r7 Hr7.out (in64_I' (Hr2.out ▸ lwy_in ax ay bx b_y _iax _iay _ibx _ib_y)) _iv  _).mono ?_); rintro e w2 ⟨rfl, hn⟩) | (go_at_call 108; (with_reducible refine (crless_is y r7 r8 Hr8.out _iy (Hr7.out ▸ mulv_in r2 v)  _).mono ?_); rintro e w2 ⟨rfl, hn⟩) | (go_at_call 106; (with_reducible refine (crtimes_is r5 r8 r9 Hr9.out (Hr5.out ▸ wyx_in ax ay bx b_y _iax _iay _ibx _ib_y) (Hr8.out ▸ subv_in y r7)  _).mono ?_); rintro e w2 ⟨rfl, hn⟩) | (go_at_call 62; (with_reducible refine (Of_v r1 r1 rfl (Hr1.out ▸ lwx_in ax ay bx b_y _iax _iay _ibx _ib_y) _).mono ?_); rintro e w2 ⟨rfl, hn⟩) | (go_at_call 106; (with_reducible refine (crtimes_is r1 v r10 Hr10.out (in64_I' (Hr1.out ▸ lwx_in ax ay bx b_y _iax _iay _ibx _ib_y)) _iv  _).mono ?_); rintro e w2 ⟨rfl, hn⟩) | (go_at_call 108; (with_reducible refine (crless_is x r10 r11 Hr11.out _ix (Hr10.out ▸ mulv_in r1 v)  _).mono ?_); rintro e w2 ⟨rfl, hn⟩)))
  replace hb := hb.trans (hn.mono hb.size)
  refine hK.out _ _ (up_iff.2 hb) ?_
  clear hK K
  clear hn
  refine wpS_doL rfl ?_
  intro K hK
  go_wp2_with ((first | (go_at_call 62; (with_reducible refine (Of_v r2 r2 rfl (Hr2.out ▸ lwy_in ax ay bx b_y _iax _iay _ibx _ib_y) _).mono ?_); rintro e w2 ⟨rfl, hn⟩) | (go_at_call 106; (with_reducible refine (crtimes_is r2 v r7 Hr7.out (in64_I' (Hr2.out ▸ lwy_in ax ay bx b_y _iax _iay _ibx _ib_y)) _iv  _).mono ?_); rintro e w2 ⟨rfl, hn⟩) | (go_at_call 108; (with_reducible refine (crless_is y r7 r8 Hr8.out _iy (Hr7.out ▸ mulv_in r2 v)  _).mono ?_); rintro e w2 ⟨rfl, hn⟩) | (go_at_call 106; (with_reducible refine (crtimes_is r5 r8 r9 Hr9.out (Hr5.out ▸ wyx_in ax ay bx b_y _iax _iay _ibx _ib_y) (Hr8.out ▸ subv_in y r7)  _).mono ?_); rintro e w2 ⟨rfl, hn⟩) | (go_at_call 62; (with_reducible refine (Of_v r1 r1 rfl (Hr1.out ▸ lwx_in ax ay bx b_y _iax _iay _ibx _ib_y) _).mono ?_); rintro e w2 ⟨rfl, hn⟩) | (go_at_call 106; (with_reducible refine (crtimes_is r1 v r10 Hr10.out (in64_I' (Hr1.out ▸ lwx_in ax ay bx b_y _iax _iay _ibx _ib_y)) _iv  _).mono ?_); rintro e w2 ⟨rfl, hn⟩) | (go_at_call 108; (with_reducible refine (crless_is x r10 r11 Hr11.out _ix (Hr10.out ▸ mulv_in r1 v)  _).mono ?_); rintro e w2 ⟨rfl, hn⟩)))
  replace hb := hb.trans (hn.mono hb.size)
  refine hK.out _ _ (up_iff.2 hb) ?_
  clear hK K
  clear hn
  refine wpS_doL rfl ?_
  intro K hK
  go_wp2_with ((first | (go_at_call 62; (with_reducible refine (Of_v r2 r2 rfl (Hr2.out ▸ lwy_in ax ay bx b_y _iax _iay _ibx _ib_y) _).mono ?_); rintro e w2 ⟨rfl, hn⟩) | (go_at_call 106; (with_reducible refine (crtimes_is r2 v r7 Hr7.out (in64_I' (Hr2.out ▸ lwy_in ax ay bx b_y _iax _iay _ibx _ib_y)) _iv  _).mono ?_); rintro e w2 ⟨rfl, hn⟩) | (go_at_call 108; (with_reducible refine (crless_is y r7 r8 Hr8.out _iy (Hr7.out ▸ mulv_in r2 v)  _).mono ?_); rintro e w2 ⟨rfl, hn⟩) | (go_at_call 106; (with_reducible refine (crtimes_is r5 r8 r9 Hr9.out (Hr5.out ▸ wyx_in ax ay bx b_y _iax _iay _ibx _ib_y) (Hr8.out ▸ subv_in y r7)  _).mono ?_); rintro e w2 ⟨rfl, hn⟩) | (go_at_call 62; (with_reducible refine (Of_v r1 r1 rfl (Hr1.out ▸ lwx_in ax ay bx b_y _iax _iay _ibx _ib_y) _).mono ?_); rintro e w2 ⟨rfl, hn⟩) | (go_at_call 106; (with_reducible refine (crtimes_is r1 v r10 Hr10.out (in64_I' (Hr1.out ▸ lwx_in ax ay bx b_y _iax _iay _ibx _ib_y)) _iv  _).mono ?_); rintro e w2 ⟨rfl, hn⟩) | (go_at_call 108; (with_reducible refine (crless_is x r10 r11 Hr11.out _ix (Hr10.out ▸ mulv_in r1 v)  _).mono ?_); rintro e w2 ⟨rfl, hn⟩)))
  replace hb := hb.trans (hn.mono hb.size)
  refine hK.out _ _ (up_iff.2 hb) ?_
  clear hK K
  clear hn
  refine wpS_nil ?_
  simp only [List.drop_succ_cons, List.drop_zero]
  first | refine calls_w ?_ | refine name_world ?_ | refine list_world ?_ | refine post_world ?_
  intro U6 hU6
  first | subst hU6 | (rw [← hU6] at hb; clear hU6)
  clear c2_0 c2_1 c2_2 c2_3 c2_4 c2_5 c2_6 c2_7 c2_8 c2_9 c2_10 c2_11 l2 c3_0 c3_1 l3 c5_0 c5_1 c5_2 c5_3 l5 c6_0 c6_1 c6_2 c6_3 l6
  have k2 := Kk2.out.of hb
  clear Kk2
  have k3 := Kk3.out.of hb
  clear Kk3
  have k5 := Kk5.out.of hb
  clear Kk5
  have k6 := Kk6.out.of hb
  clear Kk6
  replace hb0 := hb0.trans (hb.mono hb0.size)
  clear hb
  go_wp2_with fail
  obtain ⟨r12, hr12⟩ : ∃ o_o : Int, mulv r6 r11 = o_o := ⟨_, rfl⟩
  have Hr12 := Lib.hid hr12
  clear hr12
  refine (crtimes_is r6 r11 r12 Hr12.out (Hr6.out ▸ wyy_in ax ay bx b_y _iax _iay _ibx _ib_y) (Hr11.out ▸ subv_in x r10)  _).mono ?_
  rintro e U7 ⟨rfl, hn⟩
  clear k2 k3 k5 k6
  replace hb0 := hb0.trans (hn.mono hb0.size)
  clear hn
  go_wp2_with fail
  obtain ⟨r13, hr13⟩ : ∃ o_o : Int, subv r9 r12 = o_o := ⟨_, rfl⟩
  have Hr13 := Lib.hid hr13
  clear hr13
  refine (crless_is r9 r12 r13 Hr13.out (Hr9.out ▸ mulv_in r5 r8) (Hr12.out ▸ mulv_in r6 r11)  _).mono ?_
  rintro e U8 ⟨rfl, hn⟩
  replace hb0 := hb0.trans (hn.mono hb0.size)
  clear hn
  go_wp2_with fail
  obtain ⟨r14, hr14⟩ : ∃ o_o : Int, r13.sign = o_o := ⟨_, rfl⟩
  have Hr14 := Lib.hid hr14
  clear hr14
  refine (Sign_v r13 r14 Hr14.out (Hr13.out ▸ subv_in r9 r12) _).mono ?_
  rintro e U9 ⟨rfl, hn⟩
  replace hb0 := hb0.trans (hn.mono hb0.size)
  clear hn
  have e0 : r14 = R0 := by rw [← HR0.out]; unfold sde; (try rw [Hr1.out]); (try rw [Hr2.out]); (try rw [Hr3.out]); (try rw [Hr4.out]); (try rw [Hr5.out]); (try rw [Hr6.out]); (try rw [Hr7.out]); (try rw [Hr8.out]); (try rw [Hr9.out]); (try rw [Hr10.out]); (try rw [Hr11.out]); (try rw [Hr12.out]); (try rw [Hr13.out]); (try rw [Hr14.out]); all_goals first | rfl | simp
  subst e0
  go_wp2
  first | go_ret | go_ret2
  exact ⟨by first | rfl | simp, hb0⟩
end Go.Proofs.Ytlcbomjdbdgbmaa

