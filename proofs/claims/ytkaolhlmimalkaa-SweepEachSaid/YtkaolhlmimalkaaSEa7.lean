/- My texts MsN, MsP, MsA, MsB, MsQ, MsC, SwE, SwF, SwG, SwH, SwI, SwJ, SwK, SwL, SwM, SwN, SwO, SwP, RnV, joined: what the last one needs of them. Conditions: as each lemma says. -/
import Derived.Test.YtkaolhlmimalkaaSEa6
import Derived.KernelRfl
import Derived.StillTail
import Derived.OrdersHeld
import Derived.Deep.Quiet
import Derived.Below
import Derived.WalkKit
import Derived.Test.YtkaolhlmimalkaaProg
import Derived.WalkSpells
import Derived.StillTactics
import Derived.Laws.Pointers
import Derived.Deep.RegionHeld3
import Derived.RowKit3
import Derived.Deep.QuietTactic
import Derived.BigQuiet
import Derived.BigRegion
import Derived.Lib.Hide
import Derived.WalkSmall
import Derived.Laws.BitsAllLaws
import Derived.IntWalk
import Derived.Deep.OwnRows
import Derived.Deep.LoopGhost
import Derived.Shelf.Bits.Mul64
import Derived.Deep.DeepFit
import Derived.Deep.DeepCutAuto
import Derived.OwnWalk
import Derived.RangeFuncNested
import Derived.RangeFuncBound
import Derived.RangeFuncCalls
import Derived.RangeFuncLeaves
import Derived.Shelf.Abstract
import Derived.Shelf.RegionOpen
import Derived.OwnWalkIn
import Derived.TacticsInMore
import Derived.LoopNIn
import Derived.LoopIn
import Derived.Sort.LoopGhostIn
import Derived.Deep.DeepAppendRoom
import Derived.Deep.MidRow
import Derived.Laws.CopyOwn
import Derived.Laws.AppendOwn
import Derived.Lib.AppendZerosOnto
import Derived.Lib.Overlaps
import Derived.Laws.AppendOwnNone
import Derived.Maps.OwnIn
import Derived.ProofKit
import Derived.OpenShut
import Derived.ShutString
import Derived.ChangeOld
import Derived.Lib.SmallJoins
import Derived.Laws.IdiomArrays
import Derived.Deep.SlicePairs
namespace Go.Proofs.Ytkaolhlmimalkaa
open Go.RowKit

theorem add_pl (g o n : Nat) : (⟨g, o, none⟩ : Addr).add n = ⟨g, o + n, none⟩ := by
  unfold Addr.add; split
  · rename_i h; rw [h, Nat.add_zero]
  · rfl
theorem cell_row {w : World} {g : Nat} {cur : Array Value} {t : TypeId} (hg : w.heap[g]? = some (.cells cur t (0, 0))) (o : Nat) : w.cell? ⟨g, o, none⟩ = cur[o]? := by
  unfold World.cell?; simp [hg]
/-- a list of numbers in memory -/
def NL (w : World) (base : Nat) (v : Value) (L : List Nat) : Prop := w.ownsRow base 3 1 v L.length (L.map fun x => .int .i64 (x : Nat))
theorem NL.of {w w' : World} {base : Nat} {v : Value} {L : List Nat} (h : NL w base v L) (hb : Below w.heap.size w w') : NL w' base v L := by
  refine ⟨h.1, h.2.imp id ?_⟩
  rintro ⟨g, cap, cur, rfl, hbg, hg, r⟩
  exact ⟨g, cap, cur, rfl, hbg, (hb.block _ (Array.getElem?_eq_some_iff.1 hg).1).trans hg, r⟩
theorem NL.val {w : World} {base : Nat} {v : Value} {L : List Nat} (h : NL w base v L) :
    ∃ ao cap, v = .slice ao L.length cap ∧ L.length ≤ cap ∧ cap ≤ 9223372036854775807 ∧ (0 < L.length → ∃ g, ao = some ⟨g, 0, none⟩ ∧ base ≤ g ∧ g < w.heap.size ∧ ∀ j x, L[j]? = some x → w.cell? ⟨g, j, none⟩ = some (.int .i64 (x : Nat))) := by
  rcases h.2 with ⟨rfl, hn⟩ | ⟨g, cap, cur, rfl, hb, hg, h1, h2, h3, h4⟩
  · exact ⟨none, 0, by rw [hn], by omega, by omega, fun h0 => by omega⟩
  · refine ⟨_, cap, rfl, h1, by unfold maxLen at h2; omega, fun _ => ⟨g, rfl, hb, (Array.getElem?_eq_some_iff.1 hg).1, fun j x hx => ?_⟩⟩
    have hj : j < L.length := (List.getElem?_eq_some_iff.1 hx).1
    rw [cell_row hg, ← Array.getElem?_toList]
    rw [Nat.mul_one] at h4
    have : (L.map fun x => Value.int .i64 (x : Nat))[j]? = some (.int .i64 (x : Nat)) := by rw [List.getElem?_map, hx]; rfl
    rw [← h4, List.getElem?_take_of_lt hj] at this
    exact this
theorem int_src {w : World} {vb x : Nat} (h : Blk w vb #[.int .i64 (x : Nat)] 3) (j : Nat) (u : Value) (hj : [Value.int .i64 (x : Int)][j]? = some u) : w.cell? ((⟨vb, 0, none⟩ : Addr).add j) = some u := by
  rw [add_pl, Nat.zero_add, h.cell j, ← hj, ← Array.getElem?_toList]
theorem int_one (b : Int) : ∀ u ∈ [Value.int .i64 b], u.oneCell' = true := by
  intro u hu; simp at hu; subst hu; rfl
/-- one number more: the append of a hull -/
theorem wpList_append_nl {w : World} {ops : Array Oper} {rest : List Oper} {o : Oper} {a : Act} {Q : Exit → Act → World → Prop} (hgd : o.guard = none) (s x : Operand)
    (ho : o.op = .call { callee := .builtin .append, args := #[s, x], argTypes := #[37, 37] })
    (base : Nat) (v : Value) (L : List Nat) (y : Nat) (vb : Nat) (hs : a.eval s = v) (hx : a.eval x = .slice (some ⟨vb, 0, none⟩) 1 1) (hb : Blk w vb #[.int .i64 (y : Nat)] 3)
    (hnl : NL w base v L) (hL : L.length < 100000) (hbase : base ≤ w.heap.size)
    (h : ∀ ao n cap w', NL w' base (.slice ao n cap) (L ++ [y]) → w.grownBy w' v.ownBlock → wpList Try.prog ops Q rest (a.put o.dst (.slice ao n cap)) w') : wpList Try.prog ops Q (o :: rest) a w := by
  obtain ⟨i0, hi, hz0, hz1, hz2⟩ := info_parts info_int
  refine wpList_append_lies w hgd s x 37 ho base 3 i0 (.int .i64 0) 1 8 Try.underlying37 hi hz0 hz1 hz2 rfl (by decide) v L.length _ hs hnl ⟨vb, 0, none⟩ 1 1 [.int .i64 y] hx rfl (int_src hb) (int_one _) (by unfold maxLen; omega) (by omega) hbase ?_
  intro v' w' own gr _
  have hn : NL w' base v' (L ++ [y]) := by
    unfold NL
    rw [List.length_append, List.map_append]; exact own
  obtain ⟨ao, cap, rfl, _⟩ := hn.val
  exact h ao _ cap w' hn gr
theorem NL.none {w : World} {base : Nat} : NL w base (.slice none 0 0) [] := ⟨rfl, .inl ⟨rfl, rfl⟩⟩
theorem NL.low2 {w : World} {base base' : Nat} {v : Value} {L : List Nat} (h : NL w base v L) (hb : base' ≤ base) : NL w base' v L := by
  refine ⟨h.1, h.2.imp id ?_⟩
  rintro ⟨g, cap, cur, e, hbg, r⟩
  exact ⟨g, cap, cur, e, by omega, r⟩
theorem NL.own {w : World} {base : Nat} {v : Value} {L : List Nat} (h : NL w base v L) {g : Nat} (hg : v.ownBlock = some g) : base ≤ g ∧ g < w.heap.size := World.ownsRow.lt h g hg
end Go.Proofs.Ytkaolhlmimalkaa

namespace Go.Proofs.Ytkaolhlmimalkaa
open Go.RowKit

/-- two lists in order -/
def mrg (lt : Nat → Nat → Bool) : List Nat → List Nat → List Nat
  | [], b => b
  | x :: a, [] => x :: a
  | x :: a, y :: b => if lt y x = true then y :: mrg lt (x :: a) b else x :: mrg lt a (y :: b)
termination_by a b => a.length + b.length
theorem mrg_nil (lt : Nat → Nat → Bool) (b : List Nat) : mrg lt [] b = b := by rw [mrg]
theorem mrg_nil2 (lt : Nat → Nat → Bool) (a : List Nat) : mrg lt a [] = a := by cases a <;> rw [mrg]
theorem mrg_lt {lt : Nat → Nat → Bool} {x y : Nat} {a b : List Nat} (h : lt y x = true) : mrg lt (x :: a) (y :: b) = y :: mrg lt (x :: a) b := by rw [mrg, if_pos h]
theorem mrg_ge {lt : Nat → Nat → Bool} {x y : Nat} {a b : List Nat} (h : ¬ lt y x = true) : mrg lt (x :: a) (y :: b) = x :: mrg lt a (y :: b) := by rw [mrg, if_neg h]
theorem mrg_len (lt : Nat → Nat → Bool) : ∀ (n : Nat) (a b : List Nat), a.length + b.length ≤ n → (mrg lt a b).length = a.length + b.length := by
  intro n
  induction n with
  | zero =>
    intro a b h
    obtain rfl : a = [] := List.eq_nil_of_length_eq_zero (by omega)
    rw [mrg_nil]; simp
  | succ n ih =>
    intro a b h
    cases a with
    | nil => rw [mrg_nil]; simp
    | cons x a =>
      cases b with
      | nil => rw [mrg_nil2]; simp
      | cons y b =>
        simp only [List.length_cons] at h
        by_cases hl : lt y x = true
        · rw [mrg_lt hl, List.length_cons, ih _ _ (by simp only [List.length_cons]; omega)]; simp only [List.length_cons]; omega
        · rw [mrg_ge hl, List.length_cons, ih _ _ (by simp only [List.length_cons]; omega)]; simp only [List.length_cons]; omega
theorem mrg_mem (lt : Nat → Nat → Bool) : ∀ (n : Nat) (a b : List Nat), a.length + b.length ≤ n → ∀ z, z ∈ mrg lt a b ↔ z ∈ a ∨ z ∈ b := by
  intro n
  induction n with
  | zero =>
    intro a b h z
    obtain rfl : a = [] := List.eq_nil_of_length_eq_zero (by omega)
    rw [mrg_nil]; simp
  | succ n ih =>
    intro a b h z
    cases a with
    | nil => rw [mrg_nil]; simp
    | cons x a =>
      cases b with
      | nil => rw [mrg_nil2]; simp
      | cons y b =>
        simp only [List.length_cons] at h
        by_cases hl : lt y x = true
        · rw [mrg_lt hl, List.mem_cons, ih _ _ (by simp only [List.length_cons]; omega)]
          simp only [List.mem_cons]
          constructor
          · rintro (h | (h | h) | h)
            · exact .inr (.inl h)
            · exact .inl (.inl h)
            · exact .inl (.inr h)
            · exact .inr (.inr h)
          · rintro ((h | h) | (h | h))
            · exact .inr (.inl (.inl h))
            · exact .inr (.inl (.inr h))
            · exact .inl h
            · exact .inr (.inr h)
        · rw [mrg_ge hl, List.mem_cons, ih _ _ (by simp only [List.length_cons]; omega)]
          simp only [List.mem_cons]
          constructor
          · rintro (h | h | (h | h))
            · exact .inl (.inl h)
            · exact .inl (.inr h)
            · exact .inr (.inl h)
            · exact .inr (.inr h)
          · rintro ((h | h) | (h | h))
            · exact .inl h
            · exact .inr (.inl h)
            · exact .inr (.inr (.inl h))
            · exact .inr (.inr (.inr h))
/-- a slice of numbers, to be read -/
structure Ns (w : World) (ao : Option Addr) (cap : Nat) (L : List Nat) : Prop where
  ptr : 0 < L.length → ∃ g o, ao = some ⟨g, o, none⟩ ∧ g < w.heap.size ∧ ∀ j x, L[j]? = some x → w.cell? ⟨g, o + j, none⟩ = some (.int .i64 (x : Nat))
  capl : L.length ≤ cap
  capb : cap ≤ 9223372036854775807
theorem Ns.of {w w' : World} {ao : Option Addr} {cap : Nat} {L : List Nat} (h : Ns w ao cap L) (hb : Below w.heap.size w w') : Ns w' ao cap L := by
  refine ⟨fun h0 => ?_, h.capl, h.capb⟩
  obtain ⟨g, o, e, hg, hc⟩ := h.ptr h0
  exact ⟨g, o, e, Nat.lt_of_lt_of_le hg hb.size, fun j x hx => (hb.cell (p := ⟨g, o + j, none⟩) hg).trans (hc j x hx)⟩
theorem Ns.below {B : Nat} {w w' : World} {ao : Option Addr} {cap : Nat} {L : List Nat} (h : Ns w ao cap L) (hb : Below B w w') (hB : ∀ g o, ao = some ⟨g, o, none⟩ → 0 < L.length → g < B) : Ns w' ao cap L := by
  refine ⟨fun h0 => ?_, h.capl, h.capb⟩
  obtain ⟨g, o, e, hg, hc⟩ := h.ptr h0
  exact ⟨g, o, e, Nat.lt_of_lt_of_le hg hb.size, fun j x hx => (hb.cell (p := ⟨g, o + j, none⟩) (hB g o e h0)).trans (hc j x hx)⟩
theorem Ns.ofNL {w : World} {base : Nat} {v : Value} {L : List Nat} (h : NL w base v L) : ∃ ao cap, v = .slice ao L.length cap ∧ Ns w ao cap L := by
  obtain ⟨ao, cap, e, h1, h2, h3⟩ := h.val
  refine ⟨ao, cap, e, fun h0 => ?_, h1, h2⟩
  obtain ⟨g, rfl, _, hg, hc⟩ := h3 h0
  exact ⟨g, 0, rfl, hg, fun j x hx => by rw [Nat.zero_add]; exact hc j x hx⟩
theorem Ns.nil (w : World) : Ns w none 0 [] := ⟨fun h => absurd h (by simp), Nat.le_refl _, by omega⟩
/-- a function value that holds numbers below M against one another, in all worlds that keep what w0 has -/
def OrdN (w0 : World) (fv : Value) (lt : Nat → Nat → Bool) (M : Nat) : Prop := ∃ fid cb, fv = .func (.func fid) #[] cb ∧ (∀ args w, (callFunc fid args).run Try.prog w = .ok (.enter fid args) w) ∧ ∀ (a b : Nat) (W : World), a < M → b < M → Below w0.heap.size w0 W → Calls Try.prog fid (#[.int .i64 (a : Nat), .int .i64 (b : Nat)] ++ cb) W fun e w' => ∃ r : Int, e = .returned (.int .i64 r) ∧ (r < 0 ↔ lt a b = true) ∧ Below W.heap.size W w'
theorem OrdN.of {w0 w1 : World} {fv : Value} {lt : Nat → Nat → Bool} {M : Nat} (h : OrdN w0 fv lt M) (hb : Below w0.heap.size w0 w1) : OrdN w1 fv lt M := by
  obtain ⟨fid, cb, h1, h2, h3⟩ := h
  exact ⟨fid, cb, h1, h2, fun a b W ha hb' hW => h3 a b W ha hb' (hb.trans (hW.mono hb.size))⟩
def All (M : Nat) (L : List Nat) : Prop := ∀ z, z ∈ L → z < M
end Go.Proofs.Ytkaolhlmimalkaa

namespace Go.Proofs.Ytkaolhlmimalkaa
open Go.RowKit

def nI (L : List Nat) : List Value := L.map fun x => .int .i64 (x : Nat)
theorem nI_len (L : List Nat) : (nI L).length = L.length := by unfold nI; simp
theorem nI_one (L : List Nat) : ∀ u ∈ nI L, u.oneCell' = true := by
  intro u hu
  unfold nI at hu
  obtain ⟨x, _, rfl⟩ := List.mem_map.1 hu
  rfl
theorem Ns.src {w : World} {a : Addr} {cap : Nat} {L : List Nat} (h : Ns w (some a) cap L) (j : Nat) (u : Value) (hj : (nI L)[j]? = some u) : w.cell? (a.add j) = some u := by
  have hjl : j < L.length := by rw [← nI_len]; exact (List.getElem?_eq_some_iff.1 hj).1
  obtain ⟨g, o, e, _, hc⟩ := h.ptr (by omega)
  injection e with e
  subst e
  have e2 : (⟨g, o, none⟩ : Addr).add j = ⟨g, o + j, none⟩ := by unfold Addr.add; split <;> simp_all
  rw [e2]
  unfold nI at hj
  rw [List.getElem?_map, Option.map_eq_some_iff] at hj
  obtain ⟨x, hx, rfl⟩ := hj
  exact hc j x hx
set_option maxRecDepth 100000 in
set_option maxHeartbeats 1000000 in
theorem CloneI_is (ao : Option Addr) (cap : Nat) (L : List Nat) (w : World) (h : Ns w ao cap L) (hn : L.length ≤ 1000000) :
    Calls Try.prog 63 #[.slice ao L.length cap] w fun e w' => ∃ v, e = .returned v ∧ NL w' w.heap.size v L ∧ Below w.heap.size w w' := by
  have hcl := h.capl; have hcb := h.capb
  obtain ⟨i0, hi, hz0, hz1, hz2⟩ := info_parts info_int
  have HP := Lib.hid h; clear h
  cases ao with
  | none =>
    have heq : ∀ n w, Sem.run Try.prog (binOp BinOp.eql 37 (.slice none n cap) (.slice none 0 0)) w = .ok (.bool true) w := fun n w => by kernel_rfl
    have hn0 : L = [] := by
      rcases Nat.eq_zero_or_pos L.length with h0 | h0
      · exact List.eq_nil_of_length_eq_zero h0
      · obtain ⟨g, o, e, _⟩ := HP.out.ptr h0; cases e
    subst hn0
    go_enter Try.func63, Try.ntmps63
    go_wp2
    go_ret
    exact ⟨_, rfl, NL.none, Below.refl _ _⟩
  | some a =>
    have heq : ∀ w, Sem.run Try.prog (binOp BinOp.eql 37 (.slice (some a) L.length cap) (.slice none 0 0)) w = .ok (.bool false) w := fun w => by kernel_rfl
    go_enter Try.func63, Try.ntmps63
    go_wp2_with (at_builtin; refine wpList_append_lies _ rfl _ _ 37 rfl w.heap.size 3 i0 (.int .i64 0) 1 8 Try.underlying37 hi hz0 hz1 hz2 rfl (by decide) (.slice (some ⟨w.heap.size, 0, none⟩) 0 0) 0 [] rfl ⟨rfl, .inr ⟨w.heap.size, 0, #[], rfl, Nat.le_refl _, heap_alloc_new w _, Nat.le_refl _, by decide, rfl, rfl⟩⟩ a L.length cap (nI L) rfl (by rw [nI_len]; omega) (Ns.src (HP.out.of (below_a1 _ _))) (nI_one L) (by unfold maxLen; omega) (by omega) (by simp) ?_)
    intro v' w' own gr _
    have HO : Hid (NL w' w.heap.size v' L) := by
      refine Lib.hid ?_
      unfold NL
      exact own
    have hb : Below w.heap.size w w' := (below_a1 w _).trans ((Below.refl _ _).grown gr (by simp) (fun k hk => by cases hk; exact Nat.le_refl _))
    clear own gr
    go_wp2
    go_ret
    exact ⟨_, rfl, HO.out, hb⟩
end Go.Proofs.Ytkaolhlmimalkaa

namespace Go.Proofs.Ytkaolhlmimalkaa
open Go.RowKit
attribute [local go_sem] undef

/-- numbers to be read, in a block below B -/
structure Nb (B : Nat) (w : World) (g o cap : Nat) (L : List Nat) : Prop where
  lt : g < w.heap.size
  lo : g < B
  cell : ∀ j x, L[j]? = some x → w.cell? ⟨g, o + j, none⟩ = some (.int .i64 (x : Nat))
  capl : L.length ≤ cap
  capb : cap ≤ 9223372036854775807
theorem Nb.of {B : Nat} {w w' : World} {g o cap : Nat} {L : List Nat} (h : Nb B w g o cap L) (hb : Below B w w') : Nb B w' g o cap L :=
  ⟨Nat.lt_of_lt_of_le h.lt hb.size, h.lo, fun j x hx => (hb.cell (p := ⟨g, o + j, none⟩) h.lo).trans (h.cell j x hx), h.capl, h.capb⟩
theorem Nb.tail {B : Nat} {w : World} {g o cap o' : Nat} {x : Nat} {L : List Nat} (h : Nb B w g o cap (x :: L)) (ho : o' = o + 1 ∨ L = []) : Nb B w g o' (cap - 1) L := by
  have hc := h.capl; have hcb := h.capb
  simp only [List.length_cons] at hc
  refine ⟨h.lt, h.lo, fun j y hy => ?_, by omega, by omega⟩
  rcases ho with rfl | rfl
  · have := h.cell (j + 1) y (by simpa using hy)
    rw [show o + 1 + j = o + (j + 1) by omega]; exact this
  · simp at hy
theorem Nb.src {B : Nat} {w : World} {g o cap : Nat} {L : List Nat} (h : Nb B w g o cap L) (j : Nat) (u : Value) (hj : (nI L)[j]? = some u) : w.cell? ((⟨g, o, none⟩ : Addr).add j) = some u := by
  have e2 : (⟨g, o, none⟩ : Addr).add j = ⟨g, o + j, none⟩ := by unfold Addr.add; split <;> simp_all
  rw [e2]
  unfold nI at hj
  rw [List.getElem?_map, Option.map_eq_some_iff] at hj
  obtain ⟨x, hx, rfl⟩ := hj
  exact h.cell j x hx
theorem make_ints (k : Nat) (hk : k ≤ 1000000) : ∃ MC : Array Value, (∀ w, Sem.run Try.prog (Instr.makeSlice 37 (.int .i64 0) (.int .i64 (k : Nat))) w = .ok (.slice (some ⟨w.heap.size, 0, none⟩) 0 k) (w.alloc (.cells MC 3))) ∧ MC.size = k := by
  obtain ⟨i0, hi, hz0, hz1, hz2⟩ := info_parts info_int
  refine ⟨madeCells (Value.int .i64 0).cells (k * 1), fun w => ?_, ?_⟩
  · have := run_makeSlice (P := Try.prog) w 37 3 i0 (.int .i64 0) Try.underlying37 hi hz0 .i64 .i64 0 (k : Nat) (by omega) (by omega) (by rw [hz1]; simp; omega) (by rw [hz2]; omega) (by omega)
    rw [hz1] at this
    simpa using this
  · unfold madeCells
    simp [Value.cells]
set_option maxRecDepth 100000 in
set_option maxHeartbeats 8000000 in
theorem Merge_is (ga oa gb ob ac bc : Nat) (la lb : List Nat) (w : World) (fv : Value) (lt : Nat → Nat → Bool) (M : Nat) (ho : OrdN w fv lt M) (hma : All M la) (hmb : All M lb) (ha : Nb w.heap.size w ga oa ac la) (hb_ : Nb w.heap.size w gb ob bc lb) (hla : la.length ≤ 40000) (hlb : lb.length ≤ 40000) :
    Calls Try.prog 64 #[.slice (some ⟨ga, oa, none⟩) la.length ac, .slice (some ⟨gb, ob, none⟩) lb.length bc, fv] w fun e w' => ∃ v, e = .returned v ∧ NL w' w.heap.size v (mrg lt la lb) ∧ Below w.heap.size w w' := by
  obtain ⟨fid, cb0, rfl, hrun, hcmp⟩ := ho
  have HCM := Lib.hid hcmp; have HMA := Lib.hid hma; have HMB := Lib.hid hmb; clear hcmp hma hmb; have hac := ha.capl; have hbc := hb_.capl; have hacb := ha.capb; have hbcb := hb_.capb; have HNA := Lib.hid ha; have HNB := Lib.hid hb_
  obtain ⟨i0, hi, hz0, hz1, hz2⟩ := info_parts info_int
  obtain ⟨n, hn⟩ : ∃ n, la.length = n := ⟨_, rfl⟩
  obtain ⟨m, hm⟩ : ∃ m, lb.length = m := ⟨_, rfl⟩
  have HN := Lib.hid hn; have HM := Lib.hid hm
  rw [hn] at hla hac ⊢
  rw [hm] at hlb hbc ⊢
  clear ha hb_ hn hm
  obtain ⟨k, hk⟩ : ∃ k, n + m = k := ⟨_, rfl⟩
  have hki : (n : Int) + (m : Int) = (k : Nat) := by omega
  obtain ⟨MC, run_mk, hMC⟩ := make_ints k (by omega)
  go_enter Try.func64, Try.ntmps64
  go_wp2_with fail
  refine name_world ?_
  intro V hV
  have NC : Hid (NL V w.heap.size (.slice (some ⟨w.heap.size, 0, none⟩) 0 k) []) := by
    rw [hV]
    exact Lib.hid ⟨by simp, .inr ⟨w.heap.size, k, MC, rfl, Nat.le_refl _, World.alloc_heap_new w _, by simp, by unfold maxLen; omega, by omega, by simp⟩⟩
  have BV : Hid (Below w.heap.size w V) := by rw [hV]; exact Lib.hid (below_a1 _ _)
  have NA := Lib.hid (HNA.out.of BV.out)
  have NB := Lib.hid (HNB.out.of BV.out)
  clear hV HNA HNB run_mk hMC hki
  go_loopg [0, 1, 7] (n + m) (fun gk s0 s1 s7 wr => ∃ (p q c oa' ob' ac' bc' : Nat) (co : Option Addr) (cc : Nat) (A B C : List Nat), s0 = .slice (some ⟨ga, oa', none⟩) p ac' ∧ s1 = .slice (some ⟨gb, ob', none⟩) q bc' ∧ s7 = .slice co c cc ∧ p + q ≤ gk ∧ p ≤ 40000 ∧ q ≤ 40000 ∧ c + (p + q) = n + m ∧ Hid (A.length = p ∧ B.length = q ∧ C.length = c) ∧ Hid (C ++ mrg lt A B = mrg lt la lb) ∧ Hid (All M A ∧ All M B) ∧ Hid (Nb w.heap.size wr ga oa' ac' A) ∧ Hid (Nb w.heap.size wr gb ob' bc' B) ∧ Hid (NL wr w.heap.size (.slice co c cc) C) ∧ Hid (Below w.heap.size w wr))
  case atStart => exact ⟨n, m, 0, oa, ob, ac, bc, _, _, la, lb, [], rfl, rfl, rfl, Nat.le_refl _, hla, hlb, by omega, Lib.hid ⟨HN.out, HM.out, rfl⟩, Lib.hid (List.nil_append _), Lib.hid ⟨HMA.out, HMB.out⟩, NA, NB, NC, BV⟩
  case round =>
    clear NA NB NC BV
    obtain ⟨p, q, c, oa', ob', ac', bc', co, cc, A, B, C, rfl, rfl, rfl, hgk, hp, hq, hc, HL, HE, HMM, NA, NB, NC, HW⟩ := hrel
    have ca := NA.out.capl; have cab := NA.out.capb; have cb := NB.out.capl; have cbb := NB.out.capb
    rw [HL.out.1] at ca
    rw [HL.out.2.1] at cb
    by_cases hpq : 0 < p ∧ 0 < q
    · obtain ⟨hp0, hq0⟩ := hpq
      obtain ⟨x, A', hA⟩ : ∃ x A', A = x :: A' := by
        cases A with
        | nil => have := HL.out.1; simp at this; omega
        | cons x A' => exact ⟨x, A', rfl⟩
      obtain ⟨y, B', hB⟩ : ∃ y B', B = y :: B' := by
        cases B with
        | nil => have := HL.out.2.1; simp at this; omega
        | cons y B' => exact ⟨y, B', rfl⟩
      subst hA; subst hB
      have p0 : wr.cell? ⟨ga, oa', none⟩ = some (.int .i64 (x : Nat)) := NA.out.cell 0 x rfl
      have q0 : wr.cell? ⟨gb, ob', none⟩ = some (.int .i64 (y : Nat)) := NB.out.cell 0 y rfl
      have lga := NA.out.lt; have lgb := NB.out.lt
      have hp0i : (0 : Int) < (p : Int) := by omega
      have hq0i : (0 : Int) < (q : Int) := by omega
      have hxM : x < M := HMM.out.1 x (List.mem_cons_self ..)
      have hyM : y < M := HMM.out.2 y (List.mem_cons_self ..)
      go_wp2_with fail
      refine wp_region_up wr.heap.size 7 [(true, 0), (true, 1), (true, 2), (true, 3), (true, 4), (true, 5), (true, 6)] (by kernel_rfl) (by kernel_rfl) (fun _ _ d _ _ h => by cases d <;> exact h) ?_
      have hb : Below wr.heap.size wr wr.drew := (Below.refl _ _).drew
      iterate 7
        refine wpS_takeL rfl rfl ?_
        go_big_quiet_step (rfl)
        refine wpQuiet_nil ?_
      refine wpS_nil ?_
      simp only [List.drop_succ_cons, List.drop_zero]
      go_wp2_with fail
      refine (HCM.out y x _ hyM hxM (HW.out.trans (hb.mono HW.out.size))).mono ?_
      rintro e w2 ⟨r, rfl, hri, hn⟩
      have hr3 : (r < 0 ∧ lt y x = true) ∨ (¬ r < 0 ∧ ¬ lt y x = true) := by
        by_cases h : r < 0
        · exact .inl ⟨h, hri.1 h⟩
        · exact .inr ⟨h, fun e => h (hri.2 e)⟩
      clear hri
      have hb12 := hb.trans (hn.mono hb.size)
      have NA2 := Lib.hid (NA.out.of (hb12.mono HW.out.size))
      have NB2 := Lib.hid (NB.out.of (hb12.mono HW.out.size))
      have NC2 := Lib.hid (NC.out.of hb12)
      have HW2 := Lib.hid (HW.out.trans (hb12.mono HW.out.size))
      clear hb hn hb12 p0 q0 lga lgb NA NB NC HW
      have p0 : w2.cell? ⟨ga, oa', none⟩ = some (.int .i64 (x : Nat)) := NA2.out.cell 0 x rfl
      have q0 : w2.cell? ⟨gb, ob', none⟩ = some (.int .i64 (y : Nat)) := NB2.out.cell 0 y rfl
      have lga := NA2.out.lt; have lgb := NB2.out.lt
      obtain ⟨RL, hRL⟩ : ∃ RL, (Value.slice co c cc).ownBlock.toList = RL := ⟨_, rfl⟩
      have HRL := Lib.hid hRL
      have na : ga ∉ RL := by rw [← hRL]; intro h; have := (NC2.out.own (by simpa using h)).1; have := NA2.out.lo; omega
      have nb : gb ∉ RL := by rw [← hRL]; intro h; have := (NC2.out.own (by simpa using h)).1; have := NB2.out.lo; omega
      clear hRL; have hsz2 := HW2.out.size
      rcases hr3 with ⟨hr0, hyx⟩ | ⟨hr0, hyx⟩
      · rcases Nat.lt_or_ge 1 bc' with hb1 | hb1
        · have hb1 : ¬ bc' = 1 := by omega
          skip
          go_wp2_with fail
          refine wp_region_upl RL 9 [(true, 0), (true, 1), (true, 2), (true, 3), (true, 6), (true, 7), (false, 4), (false, 5), (true, 8)] (by kernel_rfl) (by kernel_rfl) (fun _ _ d _ _ h => by cases d <;> exact h) ?_
          iterate 6
            refine wpS_takeL rfl rfl ?_
            go_big_quiet_step (rfl)
            refine wpQuiet_nil ?_
          refine wpS_doL rfl ?_
          intro K hK
          go_wp2_with fail
          refine name_Kw ?_
          intro Wx hWx
          have kx : Blk Wx w2.heap.size #[.int .i64 (y : Nat)] 3 := by rw [hWx]; exact Blk.new w2.drew _ _
          have hbx : Below w2.heap.size w2 Wx := by rw [hWx]; exact ((Below.refl _ _).drew).alloc (by simp) _
          have hsx : Wx.heap.size = w2.heap.size + 1 := by rw [hWx]; simp
          refine hK.out _ _ (upl (OutL.ofBelow hbx)) ?_
          clear hK K hWx
          refine wpS_doL rfl ?_
          intro K hK
          refine wpList_append_nl rfl _ _ rfl w.heap.size (.slice co c cc) C y w2.heap.size rfl rfl kx (NC2.out.of hbx) (by rw [HL.out.2.2]; omega) (by omega) ?_
          intro co5 c5 cc5 W5 nl5 gr5
          have hc5 : c5 = c + 1 := by
            obtain ⟨_, _, e, _⟩ := nl5.val
            injection e with _ e _
            rw [e, List.length_append, HL.out.2.2]; rfl
          subst hc5
          have hbo5 : OutL RL w2 W5 := (OutL.ofBelow hbx).trans ⟨gr5.os, gr5.tape, gr5.output, gr5.size, fun k hk hc => gr5.block k hk fun e => hc (by rw [← HRL.out, ← e]; simp)⟩
          have hW5 : Below w.heap.size w2 W5 := hbo5.below hsz2 (fun k hk => (NC2.out.own (by rw [← HRL.out] at hk; simpa using hk)).1)
          have NA5 := Lib.hid (NA2.out.of hW5)
          have NB5 := Lib.hid ((NB2.out.of hW5).tail (o' := ob' + 1) (.inl rfl))
          have NC5 := Lib.hid nl5
          have HW5 := Lib.hid (HW2.out.trans hW5)
          have HE5 : Hid ((C ++ [y]) ++ mrg lt (x :: A') B' = mrg lt la lb) := by
            have := HE.out
            rw [mrg_lt hyx] at this
            rw [List.append_assoc]; exact Lib.hid this
          have HL5 : Hid ((x :: A').length = p ∧ B'.length = q - 1 ∧ (C ++ [y]).length = c + 1) := by
            have h1 := HL.out.1; have h2 := HL.out.2.1
            simp only [List.length_cons] at h1 h2
            exact Lib.hid ⟨by first | exact HL.out.1 | omega, by first | exact HL.out.2.1 | omega, by rw [List.length_append, HL.out.2.2]; rfl⟩
          go_wp2_with fail
          refine hK.out _ _ (upl hbo5) ?_
          clear hK K kx hbx hsx hbo5 hW5 nl5 gr5 p0 q0 lga lgb na nb HRL
          simp only [Act.put, List.setIfInBounds_toArray, List.set_cons_succ, List.set_cons_zero]
          refine wpS_takeL rfl rfl ?_
          go_big_quiet_step (rfl)
          refine wpQuiet_nil ?_
          refine wpS_nil ?_
          simp only [List.drop_succ_cons, List.drop_zero]
          go_wp2_with fail
          go_roundg (p + q - 1)
          case measure => omega
          case rel => exact ⟨p, q - 1, c + 1, oa', ob' + 1, ac', bc' - 1, co5, cc5, (x :: A'), B', C ++ [y], by rfl, by rfl, rfl, by omega, by omega, by omega, by omega, HL5, HE5, Lib.hid ⟨fun z hz => HMM.out.1 z (by first | exact hz | exact List.mem_cons_of_mem _ hz), fun z hz => HMM.out.2 z (by first | exact hz | exact List.mem_cons_of_mem _ hz)⟩, NA5, NB5, NC5, HW5⟩
        · have hb1 : bc' = 1 := by omega
          subst hb1
          obtain rfl : q = 1 := by omega
          go_wp2_with fail
          refine wp_region_upl RL 9 [(true, 0), (true, 1), (true, 2), (true, 3), (true, 6), (true, 7), (false, 4), (false, 5), (true, 8)] (by kernel_rfl) (by kernel_rfl) (fun _ _ d _ _ h => by cases d <;> exact h) ?_
          iterate 6
            refine wpS_takeL rfl rfl ?_
            go_big_quiet_step (rfl)
            refine wpQuiet_nil ?_
          refine wpS_doL rfl ?_
          intro K hK
          go_wp2_with fail
          refine name_Kw ?_
          intro Wx hWx
          have kx : Blk Wx w2.heap.size #[.int .i64 (y : Nat)] 3 := by rw [hWx]; exact Blk.new w2.drew _ _
          have hbx : Below w2.heap.size w2 Wx := by rw [hWx]; exact ((Below.refl _ _).drew).alloc (by simp) _
          have hsx : Wx.heap.size = w2.heap.size + 1 := by rw [hWx]; simp
          refine hK.out _ _ (upl (OutL.ofBelow hbx)) ?_
          clear hK K hWx
          refine wpS_doL rfl ?_
          intro K hK
          refine wpList_append_nl rfl _ _ rfl w.heap.size (.slice co c cc) C y w2.heap.size rfl rfl kx (NC2.out.of hbx) (by rw [HL.out.2.2]; omega) (by omega) ?_
          intro co5 c5 cc5 W5 nl5 gr5
          have hc5 : c5 = c + 1 := by
            obtain ⟨_, _, e, _⟩ := nl5.val
            injection e with _ e _
            rw [e, List.length_append, HL.out.2.2]; rfl
          subst hc5
          have hbo5 : OutL RL w2 W5 := (OutL.ofBelow hbx).trans ⟨gr5.os, gr5.tape, gr5.output, gr5.size, fun k hk hc => gr5.block k hk fun e => hc (by rw [← HRL.out, ← e]; simp)⟩
          have hW5 : Below w.heap.size w2 W5 := hbo5.below hsz2 (fun k hk => (NC2.out.own (by rw [← HRL.out] at hk; simpa using hk)).1)
          have NA5 := Lib.hid (NA2.out.of hW5)
          have NB5 := Lib.hid ((NB2.out.of hW5).tail (o' := ob') (.inr (by have := NB2.out.capl; simp only [List.length_cons] at this; exact List.eq_nil_of_length_eq_zero (by omega))))
          have NC5 := Lib.hid nl5
          have HW5 := Lib.hid (HW2.out.trans hW5)
          have HE5 : Hid ((C ++ [y]) ++ mrg lt (x :: A') B' = mrg lt la lb) := by
            have := HE.out
            rw [mrg_lt hyx] at this
            rw [List.append_assoc]; exact Lib.hid this
          have HL5 : Hid ((x :: A').length = p ∧ B'.length = 1 - 1 ∧ (C ++ [y]).length = c + 1) := by
            have h1 := HL.out.1; have h2 := HL.out.2.1
            simp only [List.length_cons] at h1 h2
            exact Lib.hid ⟨by first | exact HL.out.1 | omega, by first | exact HL.out.2.1 | omega, by rw [List.length_append, HL.out.2.2]; rfl⟩
          go_wp2_with fail
          refine hK.out _ _ (upl hbo5) ?_
          clear hK K kx hbx hsx hbo5 hW5 nl5 gr5 p0 q0 lga lgb na nb HRL
          simp only [Act.put, List.setIfInBounds_toArray, List.set_cons_succ, List.set_cons_zero]
          refine wpS_takeL rfl rfl ?_
          go_big_quiet_step (rfl)
          refine wpQuiet_nil ?_
          refine wpS_nil ?_
          simp only [List.drop_succ_cons, List.drop_zero]
          go_wp2_with fail
          go_roundg (p + 1 - 1)
          case measure => omega
          case rel => exact ⟨p, 1 - 1, c + 1, oa', ob', ac', 1 - 1, co5, cc5, (x :: A'), B', C ++ [y], by rfl, by rfl, rfl, by omega, by omega, by omega, by omega, HL5, HE5, Lib.hid ⟨fun z hz => HMM.out.1 z (by first | exact hz | exact List.mem_cons_of_mem _ hz), fun z hz => HMM.out.2 z (by first | exact hz | exact List.mem_cons_of_mem _ hz)⟩, NA5, NB5, NC5, HW5⟩
      · rcases Nat.lt_or_ge 1 ac' with hb1 | hb1
        · have hb1 : ¬ ac' = 1 := by omega
          skip
          go_wp2_with fail
          refine wp_region_upl RL 9 [(true, 0), (true, 1), (true, 2), (true, 3), (true, 6), (true, 7), (false, 4), (false, 5), (true, 8)] (by kernel_rfl) (by kernel_rfl) (fun _ _ d _ _ h => by cases d <;> exact h) ?_
          iterate 6
            refine wpS_takeL rfl rfl ?_
            go_big_quiet_step (rfl)
            refine wpQuiet_nil ?_
          refine wpS_doL rfl ?_
          intro K hK
          go_wp2_with fail
          refine name_Kw ?_
          intro Wx hWx
          have kx : Blk Wx w2.heap.size #[.int .i64 (x : Nat)] 3 := by rw [hWx]; exact Blk.new w2.drew _ _
          have hbx : Below w2.heap.size w2 Wx := by rw [hWx]; exact ((Below.refl _ _).drew).alloc (by simp) _
          have hsx : Wx.heap.size = w2.heap.size + 1 := by rw [hWx]; simp
          refine hK.out _ _ (upl (OutL.ofBelow hbx)) ?_
          clear hK K hWx
          refine wpS_doL rfl ?_
          intro K hK
          refine wpList_append_nl rfl _ _ rfl w.heap.size (.slice co c cc) C x w2.heap.size rfl rfl kx (NC2.out.of hbx) (by rw [HL.out.2.2]; omega) (by omega) ?_
          intro co5 c5 cc5 W5 nl5 gr5
          have hc5 : c5 = c + 1 := by
            obtain ⟨_, _, e, _⟩ := nl5.val
            injection e with _ e _
            rw [e, List.length_append, HL.out.2.2]; rfl
          subst hc5
          have hbo5 : OutL RL w2 W5 := (OutL.ofBelow hbx).trans ⟨gr5.os, gr5.tape, gr5.output, gr5.size, fun k hk hc => gr5.block k hk fun e => hc (by rw [← HRL.out, ← e]; simp)⟩
          have hW5 : Below w.heap.size w2 W5 := hbo5.below hsz2 (fun k hk => (NC2.out.own (by rw [← HRL.out] at hk; simpa using hk)).1)
          have NA5 := Lib.hid ((NA2.out.of hW5).tail (o' := oa' + 1) (.inl rfl))
          have NB5 := Lib.hid (NB2.out.of hW5)
          have NC5 := Lib.hid nl5
          have HW5 := Lib.hid (HW2.out.trans hW5)
          have HE5 : Hid ((C ++ [x]) ++ mrg lt A' (y :: B') = mrg lt la lb) := by
            have := HE.out
            rw [mrg_ge hyx] at this
            rw [List.append_assoc]; exact Lib.hid this
          have HL5 : Hid (A'.length = p - 1 ∧ (y :: B').length = q ∧ (C ++ [x]).length = c + 1) := by
            have h1 := HL.out.1; have h2 := HL.out.2.1
            simp only [List.length_cons] at h1 h2
            exact Lib.hid ⟨by first | exact HL.out.1 | omega, by first | exact HL.out.2.1 | omega, by rw [List.length_append, HL.out.2.2]; rfl⟩
          go_wp2_with fail
          refine hK.out _ _ (upl hbo5) ?_
          clear hK K kx hbx hsx hbo5 hW5 nl5 gr5 p0 q0 lga lgb na nb HRL
          simp only [Act.put, List.setIfInBounds_toArray, List.set_cons_succ, List.set_cons_zero]
          refine wpS_takeL rfl rfl ?_
          go_big_quiet_step (rfl)
          refine wpQuiet_nil ?_
          refine wpS_nil ?_
          simp only [List.drop_succ_cons, List.drop_zero]
          go_wp2_with fail
          go_roundg (p + q - 1)
          case measure => omega
          case rel => exact ⟨p - 1, q, c + 1, oa' + 1, ob', ac' - 1, bc', co5, cc5, A', (y :: B'), C ++ [x], by rfl, by rfl, rfl, by omega, by omega, by omega, by omega, HL5, HE5, Lib.hid ⟨fun z hz => HMM.out.1 z (by first | exact hz | exact List.mem_cons_of_mem _ hz), fun z hz => HMM.out.2 z (by first | exact hz | exact List.mem_cons_of_mem _ hz)⟩, NA5, NB5, NC5, HW5⟩
        · have hb1 : ac' = 1 := by omega
          subst hb1
          obtain rfl : p = 1 := by omega
          go_wp2_with fail
          refine wp_region_upl RL 9 [(true, 0), (true, 1), (true, 2), (true, 3), (true, 6), (true, 7), (false, 4), (false, 5), (true, 8)] (by kernel_rfl) (by kernel_rfl) (fun _ _ d _ _ h => by cases d <;> exact h) ?_
          iterate 6
            refine wpS_takeL rfl rfl ?_
            go_big_quiet_step (rfl)
            refine wpQuiet_nil ?_
          refine wpS_doL rfl ?_
          intro K hK
          go_wp2_with fail
          refine name_Kw ?_
          intro Wx hWx
          have kx : Blk Wx w2.heap.size #[.int .i64 (x : Nat)] 3 := by rw [hWx]; exact Blk.new w2.drew _ _
          have hbx : Below w2.heap.size w2 Wx := by rw [hWx]; exact ((Below.refl _ _).drew).alloc (by simp) _
          have hsx : Wx.heap.size = w2.heap.size + 1 := by rw [hWx]; simp
          refine hK.out _ _ (upl (OutL.ofBelow hbx)) ?_
          clear hK K hWx
          refine wpS_doL rfl ?_
          intro K hK
          refine wpList_append_nl rfl _ _ rfl w.heap.size (.slice co c cc) C x w2.heap.size rfl rfl kx (NC2.out.of hbx) (by rw [HL.out.2.2]; omega) (by omega) ?_
          intro co5 c5 cc5 W5 nl5 gr5
          have hc5 : c5 = c + 1 := by
            obtain ⟨_, _, e, _⟩ := nl5.val
            injection e with _ e _
            rw [e, List.length_append, HL.out.2.2]; rfl
          subst hc5
          have hbo5 : OutL RL w2 W5 := (OutL.ofBelow hbx).trans ⟨gr5.os, gr5.tape, gr5.output, gr5.size, fun k hk hc => gr5.block k hk fun e => hc (by rw [← HRL.out, ← e]; simp)⟩
          have hW5 : Below w.heap.size w2 W5 := hbo5.below hsz2 (fun k hk => (NC2.out.own (by rw [← HRL.out] at hk; simpa using hk)).1)
          have NA5 := Lib.hid ((NA2.out.of hW5).tail (o' := oa') (.inr (by have := NA2.out.capl; simp only [List.length_cons] at this; exact List.eq_nil_of_length_eq_zero (by omega))))
          have NB5 := Lib.hid (NB2.out.of hW5)
          have NC5 := Lib.hid nl5
          have HW5 := Lib.hid (HW2.out.trans hW5)
          have HE5 : Hid ((C ++ [x]) ++ mrg lt A' (y :: B') = mrg lt la lb) := by
            have := HE.out
            rw [mrg_ge hyx] at this
            rw [List.append_assoc]; exact Lib.hid this
          have HL5 : Hid (A'.length = 1 - 1 ∧ (y :: B').length = q ∧ (C ++ [x]).length = c + 1) := by
            have h1 := HL.out.1; have h2 := HL.out.2.1
            simp only [List.length_cons] at h1 h2
            exact Lib.hid ⟨by first | exact HL.out.1 | omega, by first | exact HL.out.2.1 | omega, by rw [List.length_append, HL.out.2.2]; rfl⟩
          go_wp2_with fail
          refine hK.out _ _ (upl hbo5) ?_
          clear hK K kx hbx hsx hbo5 hW5 nl5 gr5 p0 q0 lga lgb na nb HRL
          simp only [Act.put, List.setIfInBounds_toArray, List.set_cons_succ, List.set_cons_zero]
          refine wpS_takeL rfl rfl ?_
          go_big_quiet_step (rfl)
          refine wpQuiet_nil ?_
          refine wpS_nil ?_
          simp only [List.drop_succ_cons, List.drop_zero]
          go_wp2_with fail
          go_roundg (1 + q - 1)
          case measure => omega
          case rel => exact ⟨1 - 1, q, c + 1, oa', ob', 1 - 1, bc', co5, cc5, A', (y :: B'), C ++ [x], by rfl, by rfl, rfl, by omega, by omega, by omega, by omega, HL5, HE5, Lib.hid ⟨fun z hz => HMM.out.1 z (by first | exact hz | exact List.mem_cons_of_mem _ hz), fun z hz => HMM.out.2 z (by first | exact hz | exact List.mem_cons_of_mem _ hz)⟩, NA5, NB5, NC5, HW5⟩
    · rcases Nat.eq_zero_or_pos p with hp0 | hp0
      · subst hp0
        have hmr : mrg lt A B = A ++ B := by
          have h1 := HL.out.1; have h2 := HL.out.2.1
          first
          | (have e : A = [] := List.eq_nil_of_length_eq_zero (by omega)
             simp [e, mrg_nil lt])
          | (have e : B = [] := List.eq_nil_of_length_eq_zero (by omega)
             simp [e, mrg_nil2 lt])
        have hlA : (nI A).length = 0 * 1 := by have h1 := nI_len A; have h2 := HL.out.1; omega
        have hlB : (nI B).length = q * 1 := by have h1 := nI_len B; have h2 := HL.out.2.1; omega
        have hb1 : C.length + 0 ≤ maxLen := by unfold maxLen; have := HL.out.2.2; omega
        have hb2 : (C.length + 0) * 8 ≤ 140737488355328 := by have := HL.out.2.2; omega
        have hb3 : (C ++ A).length + q ≤ maxLen := by unfold maxLen; rw [List.length_append]; have h1 := HL.out.2.2; have h2 := HL.out.1; omega
        have hb4 : ((C ++ A).length + q) * 8 ≤ 140737488355328 := by rw [List.length_append]; have h1 := HL.out.2.2; have h2 := HL.out.1; omega
        have HE2 := Lib.hid (show C ++ (A ++ B) = mrg lt la lb by rw [← hmr]; exact HE.out)
        have hszr := HW.out.size; clear hmr
        go_wp2_with (at_builtin; go_loud (refine wpList_append_lies _ rfl _ _ 37 rfl w.heap.size 3 i0 (.int .i64 0) 1 8 Try.underlying37 hi hz0 hz1 hz2 rfl (by decide) (.slice co c cc) C.length (nI C) rfl NC.out ⟨ga, oa', none⟩ 0 ac' (nI A) rfl hlA NA.out.src (nI_one A) hb1 hb2 hszr ?_))
        intro v1 w1 own1 gr1 _
        have NC1 : Hid (NL w1 w.heap.size v1 (C ++ A)) := by
          refine Lib.hid ?_
          unfold NL
          rw [List.length_append, List.map_append, HL.out.1]; exact own1
        have hW1 : Below w.heap.size wr w1 := ⟨gr1.os, gr1.tape, gr1.output, gr1.size, fun g hg => gr1.block g (by omega) (fun e => by have := (NC.out.own e.symm).1; omega)⟩
        have NB1 := Lib.hid (NB.out.of hW1)
        have HW1 := Lib.hid (HW.out.trans hW1)
        have hs1 := HW1.out.size; clear own1 gr1 hW1 NC NA NB HW
        go_wp2_with (at_builtin; go_loud (refine wpList_append_lies _ rfl _ _ 37 rfl w.heap.size 3 i0 (.int .i64 0) 1 8 Try.underlying37 hi hz0 hz1 hz2 rfl (by decide) v1 (C ++ A).length (nI (C ++ A)) rfl NC1.out ⟨gb, ob', none⟩ q bc' (nI B) rfl hlB NB1.out.src (nI_one B) hb3 hb4 hs1 ?_))
        intro v2 w2 own2 gr2 _
        have NC2 : Hid (NL w2 w.heap.size v2 (mrg lt la lb)) := by
          rw [← HE2.out, ← List.append_assoc]
          refine Lib.hid ?_
          unfold NL
          rw [List.length_append, List.map_append, HL.out.2.1, List.length_append]; exact own2
        have hW2 : Below w.heap.size w1 w2 := ⟨gr2.os, gr2.tape, gr2.output, gr2.size, fun g hg => gr2.block g (by omega) (fun e => by have := (NC1.out.own e.symm).1; omega)⟩
        have HW2 := Lib.hid (HW1.out.trans hW2)
        clear own2 gr2 hW2 NC1 NB1 HW1
        go_wp2
        go_ret
        exact ⟨_, rfl, NC2.out, HW2.out⟩
      · have hq0 : q = 0 := by omega
        subst hq0
        have hp0i : (0 : Int) < (p : Int) := by omega
        have hmr : mrg lt A B = A ++ B := by
          have h1 := HL.out.1; have h2 := HL.out.2.1
          first
          | (have e : A = [] := List.eq_nil_of_length_eq_zero (by omega)
             simp [e, mrg_nil lt])
          | (have e : B = [] := List.eq_nil_of_length_eq_zero (by omega)
             simp [e, mrg_nil2 lt])
        have hlA : (nI A).length = p * 1 := by have h1 := nI_len A; have h2 := HL.out.1; omega
        have hlB : (nI B).length = 0 * 1 := by have h1 := nI_len B; have h2 := HL.out.2.1; omega
        have hb1 : C.length + p ≤ maxLen := by unfold maxLen; have := HL.out.2.2; omega
        have hb2 : (C.length + p) * 8 ≤ 140737488355328 := by have := HL.out.2.2; omega
        have hb3 : (C ++ A).length + 0 ≤ maxLen := by unfold maxLen; rw [List.length_append]; have h1 := HL.out.2.2; have h2 := HL.out.1; omega
        have hb4 : ((C ++ A).length + 0) * 8 ≤ 140737488355328 := by rw [List.length_append]; have h1 := HL.out.2.2; have h2 := HL.out.1; omega
        have HE2 := Lib.hid (show C ++ (A ++ B) = mrg lt la lb by rw [← hmr]; exact HE.out)
        have hszr := HW.out.size; clear hmr
        go_wp2_with (at_builtin; go_loud (refine wpList_append_lies _ rfl _ _ 37 rfl w.heap.size 3 i0 (.int .i64 0) 1 8 Try.underlying37 hi hz0 hz1 hz2 rfl (by decide) (.slice co c cc) C.length (nI C) rfl NC.out ⟨ga, oa', none⟩ p ac' (nI A) rfl hlA NA.out.src (nI_one A) hb1 hb2 hszr ?_))
        intro v1 w1 own1 gr1 _
        have NC1 : Hid (NL w1 w.heap.size v1 (C ++ A)) := by
          refine Lib.hid ?_
          unfold NL
          rw [List.length_append, List.map_append, HL.out.1]; exact own1
        have hW1 : Below w.heap.size wr w1 := ⟨gr1.os, gr1.tape, gr1.output, gr1.size, fun g hg => gr1.block g (by omega) (fun e => by have := (NC.out.own e.symm).1; omega)⟩
        have NB1 := Lib.hid (NB.out.of hW1)
        have HW1 := Lib.hid (HW.out.trans hW1)
        have hs1 := HW1.out.size; clear own1 gr1 hW1 NC NA NB HW
        go_wp2_with (at_builtin; go_loud (refine wpList_append_lies _ rfl _ _ 37 rfl w.heap.size 3 i0 (.int .i64 0) 1 8 Try.underlying37 hi hz0 hz1 hz2 rfl (by decide) v1 (C ++ A).length (nI (C ++ A)) rfl NC1.out ⟨gb, ob', none⟩ 0 bc' (nI B) rfl hlB NB1.out.src (nI_one B) hb3 hb4 hs1 ?_))
        intro v2 w2 own2 gr2 _
        have NC2 : Hid (NL w2 w.heap.size v2 (mrg lt la lb)) := by
          rw [← HE2.out, ← List.append_assoc]
          refine Lib.hid ?_
          unfold NL
          rw [List.length_append, List.map_append, HL.out.2.1, List.length_append]; exact own2
        have hW2 : Below w.heap.size w1 w2 := ⟨gr2.os, gr2.tape, gr2.output, gr2.size, fun g hg => gr2.block g (by omega) (fun e => by have := (NC1.out.own e.symm).1; omega)⟩
        have HW2 := Lib.hid (HW1.out.trans hW2)
        clear own2 gr2 hW2 NC1 NB1 HW1
        go_wp2
        go_ret
        exact ⟨_, rfl, NC2.out, HW2.out⟩
end Go.Proofs.Ytkaolhlmimalkaa

namespace Go.Proofs.Ytkaolhlmimalkaa
open Go.RowKit

/-- a piece of a list -/
def cut (l : List Nat) (a b : Nat) : List Nat := (l.drop a).take (b - a)
theorem cut_len {l : List Nat} {a b : Nat} (hb : b ≤ l.length) : (cut l a b).length = b - a := by unfold cut; rw [List.length_take, List.length_drop]; omega
theorem cut_at {l : List Nat} {a b j : Nat} {x : Nat} (h : (cut l a b)[j]? = some x) : l[a + j]? = some x := by
  unfold cut at h
  rcases Nat.lt_or_ge j (b - a) with h1 | h1
  · rw [List.getElem?_take_of_lt h1, List.getElem?_drop] at h; exact h
  · rw [List.getElem?_take_eq_none h1] at h; cases h
theorem mem_cut {l : List Nat} {a b : Nat} (hab : a ≤ b) (z : Nat) : z ∈ l.take b ↔ z ∈ l.take a ∨ z ∈ cut l a b := by
  have e : l.take b = l.take a ++ cut l a b := by
    unfold cut
    conv => lhs; rw [show b = a + (b - a) by omega]
    rw [List.take_add]
  rw [e, List.mem_append]
/-- the first j pairs of pieces of s things, merged -/
def pfx (lt : Nat → Nat → Bool) (s : Nat) (R : List Nat) : Nat → List Nat
  | 0 => []
  | j + 1 => pfx lt s R j ++ mrg lt (cut R (j * (2 * s)) (min (j * (2 * s) + s) R.length)) (cut R (min (j * (2 * s) + s) R.length) (min (j * (2 * s) + 2 * s) R.length))
/-- after so many rounds -/
def rnd (lt : Nat → Nat → Bool) (L : List Nat) : Nat → List Nat
  | 0 => L
  | i + 1 => pfx lt (2 ^ i) (rnd lt L i) ((L.length + 2 * 2 ^ i - 1) / (2 * 2 ^ i))
/-- how many rounds there are -/
def clg (n : Nat) : Nat := ((List.range 40).find? fun i => decide (n ≤ 2 ^ i)).getD 0
/-- what merge.Sort makes of a list -/
def msort (lt : Nat → Nat → Bool) (L : List Nat) : List Nat := rnd lt L (clg L.length)
theorem clg_of {n i : Nat} (hi : i < 40) (h : n ≤ 2 ^ i) (h0 : i = 0 ∨ 2 ^ (i - 1) < n) : clg n = i := by
  unfold clg
  have : (List.range 40).find? (fun i => decide (n ≤ 2 ^ i)) = some i := by
    rw [List.find?_range_eq_some]
    refine ⟨by simpa using h, by simpa using hi, fun j hj => ?_⟩
    rcases h0 with h0 | h0
    · omega
    · have : 2 ^ j ≤ 2 ^ (i - 1) := Nat.pow_le_pow_right (by decide) (by omega)
      simp; omega
  rw [this]; rfl
/-- R is what the sorting has, when its pieces are of s things -/
def Pc (lt : Nat → Nat → Bool) (L : List Nat) (s : Nat) (R : List Nat) : Prop := ∃ i, s = 2 ^ i ∧ R = rnd lt L i ∧ (i = 0 ∨ 2 ^ (i - 1) < L.length)
theorem pc_one (lt : Nat → Nat → Bool) (L : List Nat) : Pc lt L 1 L := ⟨0, rfl, rfl, .inl rfl⟩
theorem pc_end {lt : Nat → Nat → Bool} {L R : List Nat} {s : Nat} (h : Pc lt L s R) (hs : L.length ≤ s) (hb : s ≤ 80000) : R = msort lt L := by
  obtain ⟨i, rfl, h2, h3⟩ := h
  have hi : i < 40 := by
    rcases Nat.lt_or_ge i 40 with h | h
    · exact h
    · have : 2 ^ 40 ≤ 2 ^ i := Nat.pow_le_pow_right (by decide) h
      omega
  unfold msort
  rw [clg_of hi hs h3]; exact h2
theorem pc_next {lt : Nat → Nat → Bool} {L R X : List Nat} {s j a n : Nat} (h : Pc lt L s R) (hn : L.length = n) (hx : X = pfx lt s R j) (ha : a = j * (2 * s)) (h1 : n ≤ a) (h2 : a < n + 2 * s) (hs : s < n) : Pc lt L (s * 2) X := by
  obtain ⟨i, rfl, hR, h3⟩ := h
  refine ⟨i + 1, by rw [Nat.pow_succ], ?_, .inr (by rw [Nat.add_sub_cancel, hn]; exact hs)⟩
  have hp : 0 < 2 ^ i := Nat.pos_of_ne_zero (by simp)
  have hj : (L.length + 2 * 2 ^ i - 1) / (2 * 2 ^ i) = j := by
    rw [hn]
    apply Nat.div_eq_of_lt_le
    · omega
    · rw [Nat.add_mul, Nat.one_mul]; omega
  show X = pfx lt (2 ^ i) (rnd lt L i) ((L.length + 2 * 2 ^ i - 1) / (2 * 2 ^ i))
  rw [hj, ← hR]; exact hx
theorem pass_one {lt : Nat → Nat → Bool} {s j c n mid en : Nat} {R X : List Nat} (hs : 1 ≤ s) (hR : R.length = n) (hc : c = j * (2 * s)) (hcn : c < n) (hmid : mid = min (c + s) n) (hen : en = min (c + 2 * s) n) (hX : X.length = c) (hXP : X = pfx lt s R j) (hXm : ∀ z, z ∈ X ↔ z ∈ R.take c) :
    (mrg lt (cut R c mid) (cut R mid en)).length = en - c ∧ X ++ mrg lt (cut R c mid) (cut R mid en) = pfx lt s R (j + 1) ∧ ∀ z, z ∈ X ++ mrg lt (cut R c mid) (cut R mid en) ↔ z ∈ R.take en := by
  have l1 : (cut R c mid).length = mid - c := cut_len (by omega)
  have l2 : (cut R mid en).length = en - mid := cut_len (by omega)
  have lm : (mrg lt (cut R c mid) (cut R mid en)).length = en - c := by rw [mrg_len lt _ _ _ (Nat.le_refl _), l1, l2]; omega
  refine ⟨lm, ?_, fun z => ?_⟩
  · show _ = pfx lt s R j ++ mrg lt (cut R (j * (2 * s)) (min (j * (2 * s) + s) R.length)) (cut R (min (j * (2 * s) + s) R.length) (min (j * (2 * s) + 2 * s) R.length))
    rw [← hXP, ← hc, hR, ← hmid, ← hen]
  · rw [List.mem_append, mrg_mem lt _ _ _ (Nat.le_refl _), hXm, mem_cut (show mid ≤ en by omega), mem_cut (show c ≤ mid by omega), or_assoc]
theorem cut_mem {l : List Nat} {a b z : Nat} (h : z ∈ cut l a b) : z ∈ l := List.mem_of_mem_drop (List.mem_of_mem_take h)
end Go.Proofs.Ytkaolhlmimalkaa

namespace Go.Proofs.Ytkaolhlmimalkaa
open Go.RowKit
attribute [local go_sem] undef

theorem Merge_n (ga oa gb ob ac bc p q : Nat) (la lb : List Nat) (w : World) (fv : Value) (lt : Nat → Nat → Bool) (M : Nat) (ho : OrdN w fv lt M) (hma : All M la) (hmb : All M lb) (ha : Nb w.heap.size w ga oa ac la) (hb_ : Nb w.heap.size w gb ob bc lb) (hp : la.length = p) (hq : lb.length = q) (hla : p ≤ 40000) (hlb : q ≤ 40000) :
    Calls Try.prog 64 #[.slice (some ⟨ga, oa, none⟩) p ac, .slice (some ⟨gb, ob, none⟩) q bc, fv] w fun e w' => ∃ v, e = .returned v ∧ NL w' w.heap.size v (mrg lt la lb) ∧ Below w.heap.size w w' := by
  subst hp; subst hq
  exact Merge_is ga oa gb ob ac bc la lb w fv lt M ho hma hmb ha hb_ hla hlb
theorem srcNL {w : World} {base g r k : Nat} {M : List Nat} (h : NL w base (.slice (some ⟨g, 0, none⟩) r k) M) (j : Nat) (u : Value) (hj : (nI M)[j]? = some u) : w.cell? ((⟨g, 0, none⟩ : Addr).add j) = some u := by
  have hjl : j < M.length := by rw [← nI_len]; exact (List.getElem?_eq_some_iff.1 hj).1
  obtain ⟨ao, cap, e, _, _, h3⟩ := h.val
  injection e with e1 _ _
  obtain ⟨g', e4, _, _, hcell⟩ := h3 (by omega)
  rw [← e1] at e4
  injection e4 with e4
  injection e4 with e4 _ _
  subst e4
  have e2 : (⟨g, 0, none⟩ : Addr).add j = ⟨g, j, none⟩ := by unfold Addr.add; split <;> simp_all
  rw [e2]
  unfold nI at hj
  rw [List.getElem?_map, Option.map_eq_some_iff] at hj
  obtain ⟨x, hx, rfl⟩ := hj
  exact hcell j x hx
theorem Merge_v (ga oa gb ob ac bc p q r : Nat) (la lb : List Nat) (w w0 : World) (fv : Value) (lt : Nat → Nat → Bool) (M : Nat) (ho : OrdN w fv lt M) (hma : All M la) (hmb : All M lb) (ha : Nb w0.heap.size w0 ga oa ac la) (hb_ : Nb w0.heap.size w0 gb ob bc lb) (hw : Below w0.heap.size w0 w) (hs : w.heap.size = w0.heap.size) (hp : la.length = p) (hq : lb.length = q) (hr : p + q = r) (h0 : 0 < r) (hla : p ≤ 40000) (hlb : q ≤ 40000) :
    Calls Try.prog 64 #[.slice (some ⟨ga, oa, none⟩) p ac, .slice (some ⟨gb, ob, none⟩) q bc, fv] w fun e w' => ∃ g3 k3, e = .returned (.slice (some ⟨g3, 0, none⟩) r k3) ∧ NL w' w0.heap.size (.slice (some ⟨g3, 0, none⟩) r k3) (mrg lt la lb) ∧ Below w.heap.size w w' := by
  refine (Merge_n ga oa gb ob ac bc p q la lb w fv lt M ho hma hmb (by rw [hs]; exact ha.of hw) (by rw [hs]; exact hb_.of hw) hp hq hla hlb).mono ?_
  rintro e w' ⟨v, rfl, h1, h2⟩
  have hl : (mrg lt la lb).length = r := by rw [mrg_len lt _ _ _ (Nat.le_refl _), hp, hq, hr]
  obtain ⟨ao, cap, e, _, _, h3⟩ := h1.val
  rw [hl] at h3 e
  obtain ⟨g3, hg, _⟩ := h3 h0
  subst hg; subst e
  rw [hs] at h1
  exact ⟨g3, cap, rfl, h1, h2⟩
theorem CloneI_n (ao : Option Addr) (cap n : Nat) (L : List Nat) (w : World) (h : Ns w ao cap L) (hn : L.length = n) (hn2 : n ≤ 1000000) :
    Calls Try.prog 63 #[.slice ao n cap] w fun e w' => ∃ v, e = .returned v ∧ NL w' w.heap.size v L ∧ Below w.heap.size w w' := by
  subst hn
  exact CloneI_is ao cap L w h hn2
theorem cut_nb {B : Nat} {w : World} {base g cc n : Nat} {R : List Nat} (h : NL w base (.slice (some ⟨g, 0, none⟩) n cc) R) (hB : g < B) {a b o : Nat} (hab : a ≤ b) (hb : b ≤ R.length) (ho : o = a ∨ a = b) : Nb B w g o (cc - a) (cut R a b) := by
  obtain ⟨ao, cap, e, h1, h2, h3⟩ := h.val
  injection e with e1 e2 e3
  subst e3
  have hlt : g < w.heap.size := (h.own rfl).2
  refine ⟨hlt, hB, fun j x hx => ?_, by rw [cut_len hb]; omega, by omega⟩
  have hc := cut_at hx; have hlen : (cut R a b).length = b - a := cut_len hb
  have hj : j < (cut R a b).length := (List.getElem?_eq_some_iff.1 hx).1
  obtain ⟨g', e4, _, _, hcell⟩ := h3 (by omega)
  rw [← e1] at e4
  injection e4 with e4
  injection e4 with e4 _ _
  subst e4
  rcases ho with rfl | rfl
  · exact hcell _ x hc
  · omega
set_option maxRecDepth 100000 in
set_option maxHeartbeats 8000000 in
theorem Sort_is (ao : Option Addr) (cap : Nat) (L : List Nat) (w : World) (fv : Value) (lt : Nat → Nat → Bool) (M : Nat) (ho : OrdN w fv lt M) (hma : All M L) (h : Ns w ao cap L) (hn : L.length ≤ 40000) :
    Calls Try.prog 39 #[.slice ao L.length cap, fv] w fun e w' => ∃ v, e = .returned v ∧ NL w' w.heap.size v (msort lt L) ∧ (∀ z, z ∈ msort lt L ↔ z ∈ L) ∧ (msort lt L).length = L.length ∧ Below w.heap.size w w' := by
 have HFV := Lib.hid ho; have HMA := Lib.hid hma
 obtain ⟨fid, cb0, rfl, _, _⟩ := ho
 clear hma; have HP := Lib.hid h
 obtain ⟨i0, hi, hz0, hz1, hz2⟩ := info_parts info_int
 obtain ⟨n, hnn⟩ : ∃ n, L.length = n := ⟨_, rfl⟩
 have HN := Lib.hid hnn
 rw [hnn] at hn ⊢
 clear h hnn
 go_enter Try.func39, Try.ntmps39
 go_wp2_with fail
 refine (CloneI_n ao cap n L w HP.out HN.out (by omega)).mono ?_
 rintro e V ⟨v, rfl, nl, hb⟩
 obtain ⟨co, cc, e, _⟩ := nl.val
 rw [HN.out] at e
 subst e; have NV := Lib.hid nl; have BV := Lib.hid hb; clear nl hb
 go_wp2_with fail
 go_loopg [5, 6] n (fun gk s5 s6 wr => ∃ (s : Nat) (co : Option Addr) (cc : Nat) (R : List Nat), s5 = .slice co n cc ∧ s6 = .int .i64 (s : Nat) ∧ 1 ≤ s ∧ s ≤ 80000 ∧ n - s ≤ gk ∧ Hid (R.length = n ∧ Pc lt L s R ∧ ∀ z, z ∈ R ↔ z ∈ L) ∧ Hid (NL wr w.heap.size (.slice co n cc) R) ∧ Hid (Below w.heap.size w wr))
 case atStart => exact ⟨1, co, cc, L, rfl, rfl, by omega, by omega, by omega, Lib.hid ⟨HN.out, pc_one lt L, fun z => Iff.rfl⟩, NV, BV⟩
 case round =>
  clear NV BV
  obtain ⟨s, co, cc, R, rfl, rfl, hs1, hs2, hgk, HR, NR, HW⟩ := hrel
  by_cases hlt : s < n
  ·obtain ⟨co', cc', e, hcc, hcb, hptr⟩ := NR.out.val
   obtain ⟨g, hg, hgB, hgl, _⟩ := hptr (by rw [HR.out.1]; omega)
   injection e with e1 e2 e3
   subst e1; subst e3; subst hg
   rw [HR.out.1] at hcc
   clear hptr e2
   go_wp2_with fail
   obtain ⟨W1, hW1⟩ : ∃ W, W = wr := ⟨_, rfl⟩
   rw [← hW1] at NR HW hgl ⊢
   have hsz1 := HW.out.size
   go_loopg [7, 8] n (fun gk s7 s8 wr => ∃ (j a c : Nat) (po : Option Addr) (pc : Nat) (X : List Nat), s7 = .slice po c pc ∧ s8 = .int .i64 (a : Nat) ∧ a < n + 2 * s ∧ c = min a n ∧ n - a ≤ gk ∧ Hid (a = j * (2 * s)) ∧ Hid (X.length = c ∧ X = pfx lt s R j ∧ ∀ z, z ∈ X ↔ z ∈ R.take c) ∧ Hid (NL wr W1.heap.size (.slice po c pc) X) ∧ Hid (Below W1.heap.size W1 wr))
   case atStart => exact ⟨0, 0, 0, none, 0, [], rfl, rfl, by omega, by omega, by omega, Lib.hid (by omega), Lib.hid ⟨rfl, rfl, fun z => by simp⟩, Lib.hid NL.none, by exact Lib.hid (by first | exact Below.refl _ _ | (rw [← hW1]; exact Below.refl _ _))⟩
   case round =>
    clear hW1
    obtain ⟨j, a, c, po, pc, X, rfl, rfl, ha2, hc, hgk2, HJ, HX, NX, HWr⟩ := hrel
    by_cases hat : a < n
    ·have hca : c = a := by omega
     subst hca
     have NRw := Lib.hid (NR.out.of HWr.out)
     have hca2 : ¬ cc = c := by omega
     clear hc
     rcases Nat.lt_or_ge n (c + s) with g1 | g1
     ·rcases Nat.lt_or_ge n cc with g3 | g3
      ·have k1 : ¬ ((c : Int) + (s : Int) ≤ (n : Int)) := by omega
       have k2 : ¬ ((c : Int) + 2 * (s : Int) ≤ (n : Int)) := by omega
       have k3 : ¬ cc = n := by omega
       go_wp2_with fail
       have hgw : g < wr.heap.size := (NRw.out.own rfl).2
       have hRl := HR.out.1
       have NA := Lib.hid (cut_nb NRw.out hgw (a := c) (b := n) (o := c) (by omega) (by rw [hRl]; omega) (.inl rfl))
       have NB : Hid (Nb wr.heap.size wr g n (cc - n) (cut R n n)) := by
        have := cut_nb NRw.out hgw (a := n) (b := n) (o := n) (by omega) (by rw [hRl]; omega) (.inl rfl)
        first | exact Lib.hid this | (rw [Nat.sub_self] at this; exact Lib.hid this)
       have hla : (cut R c n).length = n - c := cut_len (by rw [hRl]; omega)
       have hlb : (cut R n n).length = 0 := (cut_len (by rw [hRl]; omega)).trans (by omega)
       have hr : (n - c) + 0 = n - c := by omega
       have HLA := Lib.hid (And.intro hla (And.intro hlb hr))
       clear hla hlb hr hRl
       
       refine wp_region_up wr.heap.size 11 [(true, 0), (true, 1), (true, 2), (true, 3), (true, 4), (true, 5), (true, 6), (true, 7), (true, 8), (true, 9), (false, 10)] (by kernel_rfl) (by kernel_rfl) (fun _ _ d _ _ h => by cases d <;> exact h) ?_
       have hb : Below wr.heap.size wr wr.drew := (Below.refl _ _).drew
       iterate 10
        refine wpS_takeL rfl rfl ?_
        go_big_quiet_step (rfl)
        refine wpQuiet_nil ?_
       refine wpS_doL rfl ?_
       intro K hK
       go_wp2_with ((go_at_call 64; go_loud (refine (Merge_v g c g n (cc - c) (cc - n) (n - c) 0 (n - c) _ _ _ wr _ lt M (HFV.out.of (HW.out.trans ((HWr.out.trans (hb.mono HWr.out.size)).mono HW.out.size))) (fun z hz => HMA.out z ((HR.out.2.2 z).1 (cut_mem hz))) (fun z hz => HMA.out z ((HR.out.2.2 z).1 (cut_mem hz))) NA.out NB.out hb rfl HLA.out.1 HLA.out.2.1 HLA.out.2.2 (by omega) (by omega) (by omega)).mono ?_); rintro e w2 ⟨g3, k3_, rfl, nlM, hn⟩))
       replace hb := hb.trans (hn.mono hb.size)
       refine hK.out _ _ (up_iff.2 hb) ?_
       clear hK K; clear hn
       refine wpS_nil ?_
       simp only [List.drop_succ_cons, List.drop_zero]
       have NX2 := Lib.hid (NX.out.of hb)
       have NM := Lib.hid nlM
       have HW2 := Lib.hid (HWr.out.trans (hb.mono HWr.out.size))
       have hs2 := HW2.out.size
       have hPP := pass_one (lt := lt) hs1 HR.out.1 HJ.out hat (mid := n) (en := n) (by omega) (by omega) HX.out.1 HX.out.2.1 HX.out.2.2
       have PP := Lib.hid hPP
       have hlM : (nI (mrg lt (cut R c n) (cut R n n))).length = (n - c) * 1 := by have h1 := nI_len (mrg lt (cut R c n) (cut R n n)); have h2 := PP.out.1; omega
       have hX1 := HX.out.1
       have hb1 : X.length + (n - c) ≤ maxLen := by unfold maxLen; omega
       have hb2 : (X.length + (n - c)) * 8 ≤ 140737488355328 := by omega
       clear hPP nlM hb NA NB HLA NX HWr hgw
       go_wp2_with (at_builtin; go_loud (refine wpList_append_lies _ rfl _ _ 37 rfl W1.heap.size 3 i0 (.int .i64 0) 1 8 Try.underlying37 hi hz0 hz1 hz2 rfl (by decide) (.slice po c pc) X.length (nI X) rfl NX2.out ⟨g3, 0, none⟩ (n - c) k3_ (nI (mrg lt (cut R c n) (cut R n n))) rfl hlM (srcNL NM.out) (nI_one _) hb1 hb2 hs2 ?_))
       intro v3 w3 own3 gr3 _
       have NX3 : NL w3 W1.heap.size v3 (X ++ mrg lt (cut R c n) (cut R n n)) := by
        unfold NL
        rw [List.length_append, List.map_append, PP.out.1, HX.out.1]; exact own3
       obtain ⟨po3, pc3, e3, _⟩ := NX3.val
       have hl3 : (X ++ mrg lt (cut R c n) (cut R n n)).length = n := by rw [List.length_append, PP.out.1, HX.out.1]; exact Nat.add_sub_of_le (by omega)
       rw [hl3] at e3
       subst e3; have NX4 := Lib.hid NX3
       have hW3 : Below W1.heap.size w2 w3 := ⟨gr3.os, gr3.tape, gr3.output, gr3.size, fun g hg => gr3.block g (by omega) (fun e => by have := (NX2.out.own e.symm).1; omega)⟩
       have HW3 := Lib.hid (HW2.out.trans hW3)
       have HX3 := Lib.hid (And.intro hl3 PP.out.2)
       have HJ3 : Hid (c + 2 * s = (j + 1) * (2 * s)) := by rw [Nat.add_mul, Nat.one_mul, ← HJ.out]; exact Lib.hid rfl
       clear own3 gr3 NX3 hl3 hW3 NX2 HW2 PP NM hX1 hb1 hb2 hlM NRw
       go_wp2_with fail
       go_roundg (n - (c + 2 * s))
       case measure => omega
       case rel => exact ⟨j + 1, c + 2 * s, n, po3, pc3, _, rfl, by first | rfl | (rw [← hea]; rfl) | (norm_cast; done) | (congr 1; omega), by omega, by omega, Nat.le_refl _, HJ3, HX3, NX4, HW3⟩
      ·have g4 : n = cc := by omega
       subst g4
       have k1 : ¬ ((c : Int) + (s : Int) ≤ (n : Int)) := by omega
       have k2 : ¬ ((c : Int) + 2 * (s : Int) ≤ (n : Int)) := by omega
       go_wp2_with fail
       have hgw : g < wr.heap.size := (NRw.out.own rfl).2
       have hRl := HR.out.1
       have NA := Lib.hid (cut_nb NRw.out hgw (a := c) (b := n) (o := c) (by omega) (by rw [hRl]; omega) (.inl rfl))
       have NB : Hid (Nb wr.heap.size wr g 0 0 (cut R n n)) := by
        have := cut_nb NRw.out hgw (a := n) (b := n) (o := 0) (by omega) (by rw [hRl]; omega) (.inr rfl)
        first | exact Lib.hid this | (rw [Nat.sub_self] at this; exact Lib.hid this)
       have hla : (cut R c n).length = n - c := cut_len (by rw [hRl]; omega)
       have hlb : (cut R n n).length = 0 := (cut_len (by rw [hRl]; omega)).trans (by omega)
       have hr : (n - c) + 0 = n - c := by omega
       have HLA := Lib.hid (And.intro hla (And.intro hlb hr))
       clear hla hlb hr hRl
       
       refine wp_region_up wr.heap.size 11 [(true, 0), (true, 1), (true, 2), (true, 3), (true, 4), (true, 5), (true, 6), (true, 7), (true, 8), (true, 9), (false, 10)] (by kernel_rfl) (by kernel_rfl) (fun _ _ d _ _ h => by cases d <;> exact h) ?_
       have hb : Below wr.heap.size wr wr.drew := (Below.refl _ _).drew
       iterate 10
        refine wpS_takeL rfl rfl ?_
        go_big_quiet_step (rfl)
        refine wpQuiet_nil ?_
       refine wpS_doL rfl ?_
       intro K hK
       go_wp2_with ((go_at_call 64; go_loud (refine (Merge_v g c g 0 (n - c) 0 (n - c) 0 (n - c) _ _ _ wr _ lt M (HFV.out.of (HW.out.trans ((HWr.out.trans (hb.mono HWr.out.size)).mono HW.out.size))) (fun z hz => HMA.out z ((HR.out.2.2 z).1 (cut_mem hz))) (fun z hz => HMA.out z ((HR.out.2.2 z).1 (cut_mem hz))) NA.out NB.out hb rfl HLA.out.1 HLA.out.2.1 HLA.out.2.2 (by omega) (by omega) (by omega)).mono ?_); rintro e w2 ⟨g3, k3_, rfl, nlM, hn⟩))
       replace hb := hb.trans (hn.mono hb.size)
       refine hK.out _ _ (up_iff.2 hb) ?_
       clear hK K; clear hn
       refine wpS_nil ?_
       simp only [List.drop_succ_cons, List.drop_zero]
       have NX2 := Lib.hid (NX.out.of hb)
       have NM := Lib.hid nlM
       have HW2 := Lib.hid (HWr.out.trans (hb.mono HWr.out.size))
       have hs2 := HW2.out.size
       have hPP := pass_one (lt := lt) hs1 HR.out.1 HJ.out hat (mid := n) (en := n) (by omega) (by omega) HX.out.1 HX.out.2.1 HX.out.2.2
       have PP := Lib.hid hPP
       have hlM : (nI (mrg lt (cut R c n) (cut R n n))).length = (n - c) * 1 := by have h1 := nI_len (mrg lt (cut R c n) (cut R n n)); have h2 := PP.out.1; omega
       have hX1 := HX.out.1
       have hb1 : X.length + (n - c) ≤ maxLen := by unfold maxLen; omega
       have hb2 : (X.length + (n - c)) * 8 ≤ 140737488355328 := by omega
       clear hPP nlM hb NA NB HLA NX HWr hgw
       go_wp2_with (at_builtin; go_loud (refine wpList_append_lies _ rfl _ _ 37 rfl W1.heap.size 3 i0 (.int .i64 0) 1 8 Try.underlying37 hi hz0 hz1 hz2 rfl (by decide) (.slice po c pc) X.length (nI X) rfl NX2.out ⟨g3, 0, none⟩ (n - c) k3_ (nI (mrg lt (cut R c n) (cut R n n))) rfl hlM (srcNL NM.out) (nI_one _) hb1 hb2 hs2 ?_))
       intro v3 w3 own3 gr3 _
       have NX3 : NL w3 W1.heap.size v3 (X ++ mrg lt (cut R c n) (cut R n n)) := by
        unfold NL
        rw [List.length_append, List.map_append, PP.out.1, HX.out.1]; exact own3
       obtain ⟨po3, pc3, e3, _⟩ := NX3.val
       have hl3 : (X ++ mrg lt (cut R c n) (cut R n n)).length = n := by rw [List.length_append, PP.out.1, HX.out.1]; exact Nat.add_sub_of_le (by omega)
       rw [hl3] at e3
       subst e3; have NX4 := Lib.hid NX3
       have hW3 : Below W1.heap.size w2 w3 := ⟨gr3.os, gr3.tape, gr3.output, gr3.size, fun g hg => gr3.block g (by omega) (fun e => by have := (NX2.out.own e.symm).1; omega)⟩
       have HW3 := Lib.hid (HW2.out.trans hW3)
       have HX3 := Lib.hid (And.intro hl3 PP.out.2)
       have HJ3 : Hid (c + 2 * s = (j + 1) * (2 * s)) := by rw [Nat.add_mul, Nat.one_mul, ← HJ.out]; exact Lib.hid rfl
       clear own3 gr3 NX3 hl3 hW3 NX2 HW2 PP NM hX1 hb1 hb2 hlM NRw
       go_wp2_with fail
       go_roundg (n - (c + 2 * s))
       case measure => omega
       case rel => exact ⟨j + 1, c + 2 * s, n, po3, pc3, _, rfl, by first | rfl | (rw [← hea]; rfl) | (norm_cast; done) | (congr 1; omega), by omega, by omega, Nat.le_refl _, HJ3, HX3, NX4, HW3⟩
     ·rcases Nat.lt_or_ge n (c + 2 * s) with g2 | g2
      ·rcases (show (n < cc ∨ c + s < n) ∨ (n = cc ∧ c + s = n) by omega) with g3 | g3
       ·obtain ⟨mid, hmid⟩ : ∃ m, c + s = m := ⟨_, rfl⟩
        have hma : (c : Int) + (s : Int) = (mid : Int) := by omega
        have k0 : (mid : Int) ≤ (n : Int) := by omega
        have k1 : (c : Int) + (s : Int) ≤ (n : Int) := by omega
        have k2 : ¬ ((c : Int) + 2 * (s : Int) ≤ (n : Int)) := by omega
        have k3 : ¬ cc = mid := by omega
        go_wp2_with fail
        have hgw : g < wr.heap.size := (NRw.out.own rfl).2
        have hRl := HR.out.1
        have NA := Lib.hid (cut_nb NRw.out hgw (a := c) (b := mid) (o := c) (by omega) (by rw [hRl]; omega) (.inl rfl))
        have NB : Hid (Nb wr.heap.size wr g mid (cc - mid) (cut R mid n)) := by
         have := cut_nb NRw.out hgw (a := mid) (b := n) (o := mid) (by omega) (by rw [hRl]; omega) (.inl rfl)
         first | exact Lib.hid this | (rw [Nat.sub_self] at this; exact Lib.hid this)
        have hla : (cut R c mid).length = mid - c := cut_len (by rw [hRl]; omega)
        have hlb : (cut R mid n).length = (n - mid) := (cut_len (by rw [hRl]; omega)).trans (by omega)
        have hr : (mid - c) + (n - mid) = n - c := by omega
        have HLA := Lib.hid (And.intro hla (And.intro hlb hr))
        clear hla hlb hr hRl
        
        refine wp_region_up wr.heap.size 11 [(true, 0), (true, 1), (true, 2), (true, 3), (true, 4), (true, 5), (true, 6), (true, 7), (true, 8), (true, 9), (false, 10)] (by kernel_rfl) (by kernel_rfl) (fun _ _ d _ _ h => by cases d <;> exact h) ?_
        have hb : Below wr.heap.size wr wr.drew := (Below.refl _ _).drew
        iterate 10
         refine wpS_takeL rfl rfl ?_
         go_big_quiet_step (rfl)
         refine wpQuiet_nil ?_
        refine wpS_doL rfl ?_
        intro K hK
        go_wp2_with ((go_at_call 64; go_loud (refine (Merge_v g c g mid (cc - c) (cc - mid) (mid - c) (n - mid) (n - c) _ _ _ wr _ lt M (HFV.out.of (HW.out.trans ((HWr.out.trans (hb.mono HWr.out.size)).mono HW.out.size))) (fun z hz => HMA.out z ((HR.out.2.2 z).1 (cut_mem hz))) (fun z hz => HMA.out z ((HR.out.2.2 z).1 (cut_mem hz))) NA.out NB.out hb rfl HLA.out.1 HLA.out.2.1 HLA.out.2.2 (by omega) (by omega) (by omega)).mono ?_); rintro e w2 ⟨g3, k3_, rfl, nlM, hn⟩))
        replace hb := hb.trans (hn.mono hb.size)
        refine hK.out _ _ (up_iff.2 hb) ?_
        clear hK K; clear hn
        refine wpS_nil ?_
        simp only [List.drop_succ_cons, List.drop_zero]
        have NX2 := Lib.hid (NX.out.of hb)
        have NM := Lib.hid nlM
        have HW2 := Lib.hid (HWr.out.trans (hb.mono HWr.out.size))
        have hs2 := HW2.out.size
        have hPP := pass_one (lt := lt) hs1 HR.out.1 HJ.out hat (mid := mid) (en := n) (by omega) (by omega) HX.out.1 HX.out.2.1 HX.out.2.2
        have PP := Lib.hid hPP
        have hlM : (nI (mrg lt (cut R c mid) (cut R mid n))).length = (n - c) * 1 := by have h1 := nI_len (mrg lt (cut R c mid) (cut R mid n)); have h2 := PP.out.1; omega
        have hX1 := HX.out.1
        have hb1 : X.length + (n - c) ≤ maxLen := by unfold maxLen; omega
        have hb2 : (X.length + (n - c)) * 8 ≤ 140737488355328 := by omega
        clear hPP nlM hb NA NB HLA NX HWr hgw
        go_wp2_with (at_builtin; go_loud (refine wpList_append_lies _ rfl _ _ 37 rfl W1.heap.size 3 i0 (.int .i64 0) 1 8 Try.underlying37 hi hz0 hz1 hz2 rfl (by decide) (.slice po c pc) X.length (nI X) rfl NX2.out ⟨g3, 0, none⟩ (n - c) k3_ (nI (mrg lt (cut R c mid) (cut R mid n))) rfl hlM (srcNL NM.out) (nI_one _) hb1 hb2 hs2 ?_))
        intro v3 w3 own3 gr3 _
        have NX3 : NL w3 W1.heap.size v3 (X ++ mrg lt (cut R c mid) (cut R mid n)) := by
         unfold NL
         rw [List.length_append, List.map_append, PP.out.1, HX.out.1]; exact own3
        obtain ⟨po3, pc3, e3, _⟩ := NX3.val
        have hl3 : (X ++ mrg lt (cut R c mid) (cut R mid n)).length = n := by rw [List.length_append, PP.out.1, HX.out.1]; exact Nat.add_sub_of_le (by omega)
        rw [hl3] at e3
        subst e3; have NX4 := Lib.hid NX3
        have hW3 : Below W1.heap.size w2 w3 := ⟨gr3.os, gr3.tape, gr3.output, gr3.size, fun g hg => gr3.block g (by omega) (fun e => by have := (NX2.out.own e.symm).1; omega)⟩
        have HW3 := Lib.hid (HW2.out.trans hW3)
        have HX3 := Lib.hid (And.intro hl3 PP.out.2)
        have HJ3 : Hid (c + 2 * s = (j + 1) * (2 * s)) := by rw [Nat.add_mul, Nat.one_mul, ← HJ.out]; exact Lib.hid rfl
        clear own3 gr3 NX3 hl3 hW3 NX2 HW2 PP NM hX1 hb1 hb2 hlM NRw
        go_wp2_with fail
        go_roundg (n - (c + 2 * s))
        case measure => omega
        case rel => exact ⟨j + 1, c + 2 * s, n, po3, pc3, _, rfl, by first | rfl | (rw [← hea]; rfl) | (norm_cast; done) | (congr 1; omega), by omega, by omega, Nat.le_refl _, HJ3, HX3, NX4, HW3⟩
       ·obtain ⟨g4, g5⟩ := g3
        subst g4
        have hma : (c : Int) + (s : Int) = (n : Int) := by omega
        have k1 : (c : Int) + (s : Int) ≤ (n : Int) := by omega
        have k2 : ¬ ((c : Int) + 2 * (s : Int) ≤ (n : Int)) := by omega
        go_wp2_with fail
        have hgw : g < wr.heap.size := (NRw.out.own rfl).2
        have hRl := HR.out.1
        have NA := Lib.hid (cut_nb NRw.out hgw (a := c) (b := n) (o := c) (by omega) (by rw [hRl]; omega) (.inl rfl))
        have NB : Hid (Nb wr.heap.size wr g 0 0 (cut R n n)) := by
         have := cut_nb NRw.out hgw (a := n) (b := n) (o := 0) (by omega) (by rw [hRl]; omega) (.inr rfl)
         first | exact Lib.hid this | (rw [Nat.sub_self] at this; exact Lib.hid this)
        have hla : (cut R c n).length = n - c := cut_len (by rw [hRl]; omega)
        have hlb : (cut R n n).length = 0 := (cut_len (by rw [hRl]; omega)).trans (by omega)
        have hr : (n - c) + 0 = n - c := by omega
        have HLA := Lib.hid (And.intro hla (And.intro hlb hr))
        clear hla hlb hr hRl
        
        refine wp_region_up wr.heap.size 11 [(true, 0), (true, 1), (true, 2), (true, 3), (true, 4), (true, 5), (true, 6), (true, 7), (true, 8), (true, 9), (false, 10)] (by kernel_rfl) (by kernel_rfl) (fun _ _ d _ _ h => by cases d <;> exact h) ?_
        have hb : Below wr.heap.size wr wr.drew := (Below.refl _ _).drew
        iterate 10
         refine wpS_takeL rfl rfl ?_
         go_big_quiet_step (rfl)
         refine wpQuiet_nil ?_
        refine wpS_doL rfl ?_
        intro K hK
        go_wp2_with ((go_at_call 64; go_loud (refine (Merge_v g c g 0 (n - c) 0 (n - c) 0 (n - c) _ _ _ wr _ lt M (HFV.out.of (HW.out.trans ((HWr.out.trans (hb.mono HWr.out.size)).mono HW.out.size))) (fun z hz => HMA.out z ((HR.out.2.2 z).1 (cut_mem hz))) (fun z hz => HMA.out z ((HR.out.2.2 z).1 (cut_mem hz))) NA.out NB.out hb rfl HLA.out.1 HLA.out.2.1 HLA.out.2.2 (by omega) (by omega) (by omega)).mono ?_); rintro e w2 ⟨g3, k3_, rfl, nlM, hn⟩))
        replace hb := hb.trans (hn.mono hb.size)
        refine hK.out _ _ (up_iff.2 hb) ?_
        clear hK K; clear hn
        refine wpS_nil ?_
        simp only [List.drop_succ_cons, List.drop_zero]
        have NX2 := Lib.hid (NX.out.of hb)
        have NM := Lib.hid nlM
        have HW2 := Lib.hid (HWr.out.trans (hb.mono HWr.out.size))
        have hs2 := HW2.out.size
        have hPP := pass_one (lt := lt) hs1 HR.out.1 HJ.out hat (mid := n) (en := n) (by omega) (by omega) HX.out.1 HX.out.2.1 HX.out.2.2
        have PP := Lib.hid hPP
        have hlM : (nI (mrg lt (cut R c n) (cut R n n))).length = (n - c) * 1 := by have h1 := nI_len (mrg lt (cut R c n) (cut R n n)); have h2 := PP.out.1; omega
        have hX1 := HX.out.1
        have hb1 : X.length + (n - c) ≤ maxLen := by unfold maxLen; omega
        have hb2 : (X.length + (n - c)) * 8 ≤ 140737488355328 := by omega
        clear hPP nlM hb NA NB HLA NX HWr hgw
        go_wp2_with (at_builtin; go_loud (refine wpList_append_lies _ rfl _ _ 37 rfl W1.heap.size 3 i0 (.int .i64 0) 1 8 Try.underlying37 hi hz0 hz1 hz2 rfl (by decide) (.slice po c pc) X.length (nI X) rfl NX2.out ⟨g3, 0, none⟩ (n - c) k3_ (nI (mrg lt (cut R c n) (cut R n n))) rfl hlM (srcNL NM.out) (nI_one _) hb1 hb2 hs2 ?_))
        intro v3 w3 own3 gr3 _
        have NX3 : NL w3 W1.heap.size v3 (X ++ mrg lt (cut R c n) (cut R n n)) := by
         unfold NL
         rw [List.length_append, List.map_append, PP.out.1, HX.out.1]; exact own3
        obtain ⟨po3, pc3, e3, _⟩ := NX3.val
        have hl3 : (X ++ mrg lt (cut R c n) (cut R n n)).length = n := by rw [List.length_append, PP.out.1, HX.out.1]; exact Nat.add_sub_of_le (by omega)
        rw [hl3] at e3
        subst e3; have NX4 := Lib.hid NX3
        have hW3 : Below W1.heap.size w2 w3 := ⟨gr3.os, gr3.tape, gr3.output, gr3.size, fun g hg => gr3.block g (by omega) (fun e => by have := (NX2.out.own e.symm).1; omega)⟩
        have HW3 := Lib.hid (HW2.out.trans hW3)
        have HX3 := Lib.hid (And.intro hl3 PP.out.2)
        have HJ3 : Hid (c + 2 * s = (j + 1) * (2 * s)) := by rw [Nat.add_mul, Nat.one_mul, ← HJ.out]; exact Lib.hid rfl
        clear own3 gr3 NX3 hl3 hW3 NX2 HW2 PP NM hX1 hb1 hb2 hlM NRw
        go_wp2_with fail
        go_roundg (n - (c + 2 * s))
        case measure => omega
        case rel => exact ⟨j + 1, c + 2 * s, n, po3, pc3, _, rfl, by first | rfl | (rw [← hea]; rfl) | (norm_cast; done) | (congr 1; omega), by omega, by omega, Nat.le_refl _, HJ3, HX3, NX4, HW3⟩
      ·obtain ⟨mid, hmid⟩ : ∃ m, c + s = m := ⟨_, rfl⟩
       have hma : (c : Int) + (s : Int) = (mid : Int) := by omega
       have k0 : (mid : Int) ≤ (n : Int) := by omega
       obtain ⟨en, hen⟩ : ∃ m, c + 2 * s = m := ⟨_, rfl⟩
       have hea : (c : Int) + 2 * (s : Int) = (en : Int) := by omega
       have k1 : (c : Int) + (s : Int) ≤ (n : Int) := by omega
       have k2 : (c : Int) + 2 * (s : Int) ≤ (n : Int) := by omega
       have k4 : (en : Int) ≤ (n : Int) := by omega
       have k3 : ¬ cc = mid := by omega
       go_wp2_with fail
       have hgw : g < wr.heap.size := (NRw.out.own rfl).2
       have hRl := HR.out.1
       have NA := Lib.hid (cut_nb NRw.out hgw (a := c) (b := mid) (o := c) (by omega) (by rw [hRl]; omega) (.inl rfl))
       have NB : Hid (Nb wr.heap.size wr g mid (cc - mid) (cut R mid en)) := by
        have := cut_nb NRw.out hgw (a := mid) (b := en) (o := mid) (by omega) (by rw [hRl]; omega) (.inl rfl)
        first | exact Lib.hid this | (rw [Nat.sub_self] at this; exact Lib.hid this)
       have hla : (cut R c mid).length = mid - c := cut_len (by rw [hRl]; omega)
       have hlb : (cut R mid en).length = (en - mid) := (cut_len (by rw [hRl]; omega)).trans (by omega)
       have hr : (mid - c) + (en - mid) = en - c := by omega
       have HLA := Lib.hid (And.intro hla (And.intro hlb hr))
       clear hla hlb hr hRl
       
       refine wp_region_up wr.heap.size 11 [(true, 0), (true, 1), (true, 2), (true, 3), (true, 4), (true, 5), (true, 6), (true, 7), (true, 8), (true, 9), (false, 10)] (by kernel_rfl) (by kernel_rfl) (fun _ _ d _ _ h => by cases d <;> exact h) ?_
       have hb : Below wr.heap.size wr wr.drew := (Below.refl _ _).drew
       iterate 10
        refine wpS_takeL rfl rfl ?_
        go_big_quiet_step (rfl)
        refine wpQuiet_nil ?_
       refine wpS_doL rfl ?_
       intro K hK
       go_wp2_with ((go_at_call 64; go_loud (refine (Merge_v g c g mid (cc - c) (cc - mid) (mid - c) (en - mid) (en - c) _ _ _ wr _ lt M (HFV.out.of (HW.out.trans ((HWr.out.trans (hb.mono HWr.out.size)).mono HW.out.size))) (fun z hz => HMA.out z ((HR.out.2.2 z).1 (cut_mem hz))) (fun z hz => HMA.out z ((HR.out.2.2 z).1 (cut_mem hz))) NA.out NB.out hb rfl HLA.out.1 HLA.out.2.1 HLA.out.2.2 (by omega) (by omega) (by omega)).mono ?_); rintro e w2 ⟨g3, k3_, rfl, nlM, hn⟩))
       replace hb := hb.trans (hn.mono hb.size)
       refine hK.out _ _ (up_iff.2 hb) ?_
       clear hK K; clear hn
       refine wpS_nil ?_
       simp only [List.drop_succ_cons, List.drop_zero]
       have NX2 := Lib.hid (NX.out.of hb)
       have NM := Lib.hid nlM
       have HW2 := Lib.hid (HWr.out.trans (hb.mono HWr.out.size))
       have hs2 := HW2.out.size
       have hPP := pass_one (lt := lt) hs1 HR.out.1 HJ.out hat (mid := mid) (en := en) (by omega) (by omega) HX.out.1 HX.out.2.1 HX.out.2.2
       have PP := Lib.hid hPP
       have hlM : (nI (mrg lt (cut R c mid) (cut R mid en))).length = (en - c) * 1 := by have h1 := nI_len (mrg lt (cut R c mid) (cut R mid en)); have h2 := PP.out.1; omega
       have hX1 := HX.out.1
       have hb1 : X.length + (en - c) ≤ maxLen := by unfold maxLen; omega
       have hb2 : (X.length + (en - c)) * 8 ≤ 140737488355328 := by omega
       clear hPP nlM hb NA NB HLA NX HWr hgw
       go_wp2_with (at_builtin; go_loud (refine wpList_append_lies _ rfl _ _ 37 rfl W1.heap.size 3 i0 (.int .i64 0) 1 8 Try.underlying37 hi hz0 hz1 hz2 rfl (by decide) (.slice po c pc) X.length (nI X) rfl NX2.out ⟨g3, 0, none⟩ (en - c) k3_ (nI (mrg lt (cut R c mid) (cut R mid en))) rfl hlM (srcNL NM.out) (nI_one _) hb1 hb2 hs2 ?_))
       intro v3 w3 own3 gr3 _
       have NX3 : NL w3 W1.heap.size v3 (X ++ mrg lt (cut R c mid) (cut R mid en)) := by
        unfold NL
        rw [List.length_append, List.map_append, PP.out.1, HX.out.1]; exact own3
       obtain ⟨po3, pc3, e3, _⟩ := NX3.val
       have hl3 : (X ++ mrg lt (cut R c mid) (cut R mid en)).length = en := by rw [List.length_append, PP.out.1, HX.out.1]; exact Nat.add_sub_of_le (by omega)
       rw [hl3] at e3
       subst e3; have NX4 := Lib.hid NX3
       have hW3 : Below W1.heap.size w2 w3 := ⟨gr3.os, gr3.tape, gr3.output, gr3.size, fun g hg => gr3.block g (by omega) (fun e => by have := (NX2.out.own e.symm).1; omega)⟩
       have HW3 := Lib.hid (HW2.out.trans hW3)
       have HX3 := Lib.hid (And.intro hl3 PP.out.2)
       have HJ3 : Hid (c + 2 * s = (j + 1) * (2 * s)) := by rw [Nat.add_mul, Nat.one_mul, ← HJ.out]; exact Lib.hid rfl
       clear own3 gr3 NX3 hl3 hW3 NX2 HW2 PP NM hX1 hb1 hb2 hlM NRw
       go_wp2_with fail
       go_roundg (n - (c + 2 * s))
       case measure => omega
       case rel => exact ⟨j + 1, c + 2 * s, en, po3, pc3, _, rfl, by first | rfl | (rw [← hea]; rfl) | (norm_cast; done) | (congr 1; omega), by omega, by omega, Nat.le_refl _, HJ3, HX3, NX4, HW3⟩
    ·have hcn : c = n := by omega
     clear hc; subst hcn
     have HR2 : Hid (X.length = c ∧ Pc lt L (s * 2) X ∧ ∀ z, z ∈ X ↔ z ∈ L) := by
      refine Lib.hid ⟨HX.out.1, pc_next HR.out.2.1 HN.out HX.out.2.1 HJ.out (by omega) (by omega) (by omega), fun z => ?_⟩
      rw [HX.out.2.2, List.take_of_length_le (by rw [HR.out.1]; exact Nat.le_refl _)]
      exact HR.out.2.2 z
     have NX2 := Lib.hid (NX.out.low2 hsz1)
     have HW2 := Lib.hid (HW.out.trans (HWr.out.mono hsz1))
     clear HX NX HWr HW
     go_wp2_with fail
     go_roundg (c - s * 2)
     case measure => omega
     case rel => exact ⟨s * 2, po, pc, X, rfl, by first | rfl | norm_cast, by omega, by omega, Nat.le_refl _, HR2, NX2, HW2⟩
  ·have hR := pc_end HR.out.2.1 (by rw [HN.out]; omega) hs2
   have HAA : Hid (NL wr w.heap.size (.slice co n cc) (msort lt L) ∧ (∀ z, z ∈ msort lt L ↔ z ∈ L) ∧ (msort lt L).length = n) := by
    rw [← hR]; exact Lib.hid ⟨NR.out, HR.out.2.2, HR.out.1⟩
   clear hR
   go_wp2
   go_ret
   exact ⟨_, rfl, HAA.out.1, HAA.out.2.1, HAA.out.2.2, HW.out⟩
end Go.Proofs.Ytkaolhlmimalkaa

namespace Go.Proofs.Ytkaolhlmimalkaa
open Go.RowKit

set_option maxRecDepth 100000 in
set_option maxHeartbeats 1000000 in
theorem steep1_is (sa : Option Addr) (m sc : Nat) (A : Nat → Nat → Int) (cb : Nat) (w : World) (hk : Blk w cb #[.slice sa m sc] 23) (hs : Sgs w sa m sc A) (a b : Nat) (ha : a < m) (hb : b < m) (r : Int) (hr : or2 (slopeK A a b) (cmpI (a : Nat) (b : Nat)) = r) :
    Calls Try.prog 86 #[.int .i64 (a : Nat), .int .i64 (b : Nat), ptr cb 0] w fun e w' => e = .returned (.int .i64 r) ∧ Below w.heap.size w w' := by
 obtain ⟨g, o, rfl, hgl, hc⟩ := hs.ptr (by omega)
 have hA := hs.i64; have hcl := hs.capl; have hcb := hs.capb
 have a0 : w.cell? ⟨g, o + a * 4, none⟩ = _ := hc a ha 0 (by decide)
 have a1 : w.cell? ⟨g, o + a * 4 + 1, none⟩ = _ := hc a ha 1 (by decide)
 have a2 : w.cell? ⟨g, o + a * 4 + 2, none⟩ = _ := hc a ha 2 (by decide)
 have a3 : w.cell? ⟨g, o + a * 4 + 3, none⟩ = _ := hc a ha 3 (by decide)
 have b0 : w.cell? ⟨g, o + b * 4, none⟩ = _ := hc b hb 0 (by decide)
 have b1 : w.cell? ⟨g, o + b * 4 + 1, none⟩ = _ := hc b hb 1 (by decide)
 have b2 : w.cell? ⟨g, o + b * 4 + 2, none⟩ = _ := hc b hb 2 (by decide)
 have b3 : w.cell? ⟨g, o + b * 4 + 3, none⟩ = _ := hc b hb 3 (by decide)
 have k0 : w.cell? ⟨cb, 0, none⟩ = _ := hk.cell 0
 simp only [List.getElem?_toArray, List.getElem?_cons_zero] at k0
 have lk := hk.lt; have HR := Lib.hid hr; clear hc hk hs hr
 obtain ⟨r1, hr1⟩ : ∃ r1, slopeK A a b = r1 := ⟨_, rfl⟩
 have HR1 := Lib.hid hr1
 rw [hr1] at HR
 clear hr1
 go_enter Try.func86, Try.ntmps86
 go_wp2_with fail
 refine wp_region_up w.heap.size 11 [(true, 0), (true, 1), (true, 2), (true, 3), (true, 4), (true, 5), (true, 6), (true, 7), (true, 9), (true, 10), (false, 8)] (by kernel_rfl) (by kernel_rfl) (fun _ _ d _ _ h => by cases d <;> exact h) ?_
 have hb : Below w.heap.size w w.drew := (Below.refl _ _).drew
 iterate 10
  refine wpS_takeL rfl rfl ?_
  go_big_quiet_step (rfl)
  refine wpQuiet_nil ?_
 refine wpS_doL rfl ?_
 intro K hK
 go_wp2_with (go_at_call 28; (with_reducible refine (SlopeK_is hA a b r1 HR1.out _).mono ?_); rintro e w2 ⟨rfl, hn⟩)
 replace hb := hb.trans (hn.mono hb.size)
 refine hK.out _ _ (up_iff.2 hb) ?_
 clear hK K; clear hn
 refine wpS_nil ?_
 simp only [List.drop_succ_cons, List.drop_zero]
 clear a0 a1 a2 a3 b0 b1 b2 b3 k0
 go_wp2_with fail
 refine (Compare_any (a : Nat) (b : Nat) _).mono ?_
 rintro e w2 ⟨rfl, hn⟩
 have hb2 := hb.trans (hn.mono hb.size)
 clear hn hb
 obtain ⟨r2, hr2⟩ : ∃ r2, cmpI (a : Nat) (b : Nat) = r2 := ⟨_, rfl⟩
 rw [hr2] at HR ⊢
 clear hr2
 go_wp2_with fail
 refine calls_w ?_
 intro V hV
 have k3 : Blk V w2.heap.size #[.int .i64 r1, .int .i64 r2] 3 := by rw [hV]; exact Blk.new _ _ _
 have hb3 : Below w.heap.size w V := hb2.trans (by rw [hV]; exact (below_a1 w2 _).mono hb2.size)
 clear hV
 refine (Or2_v r1 r2 r HR.out k3).mono ?_
 rintro e w3 ⟨rfl, hn⟩
 have hb4 := hb3.trans (hn.mono hb3.size)
 clear hn hb3 k3 hb2
 go_wp2
 go_ret
 exact ⟨rfl, hb4⟩


set_option maxRecDepth 100000 in
set_option maxHeartbeats 1000000 in
theorem begn1_is (sa : Option Addr) (m sc : Nat) (A : Nat → Nat → Int) (cb : Nat) (w : World) (hk : Blk w cb #[.slice sa m sc] 23) (hs : Sgs w sa m sc A) (a b : Nat) (ha : a < m) (hb : b < m) (r : Int) (hr : ccmp (lowK A a) (lowK A b) = r) :
    Calls Try.prog 40 #[.int .i64 (a : Nat), .int .i64 (b : Nat), ptr cb 0] w fun e w' => e = .returned (.int .i64 r) ∧ Below w.heap.size w w' := by
 obtain ⟨g, o, rfl, hgl, hc⟩ := hs.ptr (by omega)
 have hA := hs.i64; have hcl := hs.capl; have hcb := hs.capb
 have a0 : w.cell? ⟨g, o + a * 4, none⟩ = _ := hc a ha 0 (by decide)
 have a1 : w.cell? ⟨g, o + a * 4 + 1, none⟩ = _ := hc a ha 1 (by decide)
 have a2 : w.cell? ⟨g, o + a * 4 + 2, none⟩ = _ := hc a ha 2 (by decide)
 have a3 : w.cell? ⟨g, o + a * 4 + 3, none⟩ = _ := hc a ha 3 (by decide)
 have b0 : w.cell? ⟨g, o + b * 4, none⟩ = _ := hc b hb 0 (by decide)
 have b1 : w.cell? ⟨g, o + b * 4 + 1, none⟩ = _ := hc b hb 1 (by decide)
 have b2 : w.cell? ⟨g, o + b * 4 + 2, none⟩ = _ := hc b hb 2 (by decide)
 have b3 : w.cell? ⟨g, o + b * 4 + 3, none⟩ = _ := hc b hb 3 (by decide)
 have k0 : w.cell? ⟨cb, 0, none⟩ = _ := hk.cell 0
 simp only [List.getElem?_toArray, List.getElem?_cons_zero] at k0
 have lk := hk.lt; have HR := Lib.hid hr; clear hc hk hs hr
 obtain ⟨r1, hr1⟩ : ∃ r1, lowK A a = r1 := ⟨_, rfl⟩
 obtain ⟨r2, hr2⟩ : ∃ r2, lowK A b = r2 := ⟨_, rfl⟩
 have HR1 := Lib.hid hr1; have HR2 := Lib.hid hr2
 rw [hr1, hr2] at HR
 clear hr1 hr2
 go_enter Try.func40, Try.ntmps40
 go_wp2_with fail
 refine wp_region_up w.heap.size 9 [(true, 0), (true, 1), (true, 2), (true, 3), (true, 5), (true, 6), (true, 7), (true, 8), (false, 4)] (by kernel_rfl) (by kernel_rfl) (fun _ _ d _ _ h => by cases d <;> exact h) ?_
 have hb : Below w.heap.size w w.drew := (Below.refl _ _).drew
 iterate 8
  refine wpS_takeL rfl rfl ?_
  go_big_quiet_step (rfl)
  refine wpQuiet_nil ?_
 refine wpS_doL rfl ?_
 intro K hK
 go_wp2_with (go_at_call 37; (with_reducible refine (LowK_is hA a r1 HR1.out _).mono ?_); rintro e w2 ⟨rfl, hn⟩)
 replace hb := hb.trans (hn.mono hb.size)
 refine hK.out _ _ (up_iff.2 hb) ?_
 clear hK K; clear hn
 refine wpS_nil ?_
 simp only [List.drop_succ_cons, List.drop_zero]
 clear a0 a1 a2 a3 b0 b1 b2 b3 k0
 go_wp2_with fail
 refine (LowK_is hA b r2 HR2.out _).mono ?_
 rintro e w2 ⟨rfl, hn⟩
 have hb2 := hb.trans (hn.mono hb.size)
 clear hn hb
 go_wp2_with fail
 refine (CCmp_is r1 r2 r HR.out _).mono ?_
 rintro e w3 ⟨rfl, hn⟩
 have hb3 := hb2.trans (hn.mono hb2.size)
 clear hn hb2
 go_wp2
 go_ret
 exact ⟨rfl, hb3⟩


theorem run_steep : ∀ args w, (callFunc 86 args).run Try.prog w = .ok (.enter 86 args) w := fun args w => by go_simp
/-- less steep -/
def ltS (A : Nat → Nat → Int) (a b : Nat) : Bool := decide (or2 (slopeK A a b) (cmpI (a : Nat) (b : Nat)) < 0)
theorem ord_steep {sa : Option Addr} {m sc : Nat} {A : Nat → Nat → Int} {cb : Nat} {w : World} (hk : Blk w cb #[.slice sa m sc] 23) (hs : Sgs w sa m sc A) : OrdN w (.func (.func 86) #[] #[ptr cb 0]) (ltS A) m :=
  ⟨_, _, rfl, run_steep, fun a b W ha hb hW => (steep1_is sa m sc A cb W (hk.below hW hk.lt) (hs.of hW) a b ha hb _ rfl).mono fun _ _ h => ⟨_, h.1, by unfold ltS; exact decide_eq_true_iff.symm, h.2⟩⟩

theorem run_begn : ∀ args w, (callFunc 40 args).run Try.prog w = .ok (.enter 40 args) w := fun args w => by go_simp
/-- begins ahead -/
def ltB (A : Nat → Nat → Int) (a b : Nat) : Bool := decide (ccmp (lowK A a) (lowK A b) < 0)
theorem ord_begn {sa : Option Addr} {m sc : Nat} {A : Nat → Nat → Int} {cb : Nat} {w : World} (hk : Blk w cb #[.slice sa m sc] 23) (hs : Sgs w sa m sc A) : OrdN w (.func (.func 40) #[] #[ptr cb 0]) (ltB A) m :=
  ⟨_, _, rfl, run_begn, fun a b W ha hb hW => (begn1_is sa m sc A cb W (hk.below hW hk.lt) (hs.of hW) a b ha hb _ rfl).mono fun _ _ h => ⟨_, h.1, by unfold ltB; exact decide_eq_true_iff.symm, h.2⟩⟩

theorem run_cmpi : ∀ args w, (callFunc 51 args).run Try.prog w = .ok (.enter 51 args) w := fun args w => by go_simp
def ltI (a b : Nat) : Bool := decide (a < b)
theorem ord_int (w : World) (M : Nat) : OrdN w (.func (.func 51) #[] #[]) ltI M :=
  ⟨_, _, rfl, run_cmpi, fun a b W _ _ _ => (Compare_any (a : Nat) (b : Nat) W).mono fun _ _ h => ⟨_, h.1, by unfold ltI; rw [decide_eq_true_iff, cmp_neg]; omega, h.2⟩⟩
set_option maxRecDepth 100000 in
theorem steeper_is (sa : Option Addr) (m sc : Nat) (w : World) : Calls Try.prog 72 #[.slice sa m sc] w fun e w' => e = .returned (.func (.func 86) #[] #[ptr w.heap.size 0]) ∧ Blk w' w.heap.size #[.slice sa m sc] 23 ∧ Below w.heap.size w w' := by
  go_enter Try.func72, Try.ntmps72
  go_wp2
  go_ret
  exact ⟨rfl, Blk.new _ _ _, below_a1 _ _⟩
end Go.Proofs.Ytkaolhlmimalkaa

namespace Go.Proofs.Ytkaolhlmimalkaa
open Go.RowKit

/-- do they go on behind it? -/
def gon (A : Nat → Nat → Int) (p : Int) (i : Nat) : Bool := decide (0 < ccmp (highK A i) p)
theorem fil_take {P : Nat → Bool} {L : List Nat} {k i : Nat} (h : L[k]? = some i) : (L.take (k + 1)).filter P = (L.take k).filter P ++ (if P i = true then [i] else []) := by
  rw [List.take_add_one, h, List.filter_append]
  congr 1
  simp only [Option.toList_some, List.filter_cons, List.filter_nil]
theorem fil_len {P : Nat → Bool} {L : List Nat} {k : Nat} : ((L.take k).filter P).length ≤ k := Nat.le_trans (List.length_filter_le _ _) (by rw [List.length_take]; omega)
set_option maxRecDepth 100000 in
set_option maxHeartbeats 2000000 in
theorem goes_is (p : Int) (sa : Option Addr) (m sq : Nat) (A : Nat → Nat → Int) (ao : Option Addr) (cap n : Nat) (L : List Nat) (hl : L.length = n) (w : World) (hs : Sgs w sa m sq A) (hL : Ns w ao cap L) (hm : All m L) (hn : n ≤ 4096) :
    Calls Try.prog 49 #[pK p, .slice sa m sq, .slice ao n cap] w fun e w' => ∃ v, e = .returned v ∧ NL w' w.heap.size v (msort (ltS A) (L.filter (gon A p))) ∧ (∀ z, z ∈ msort (ltS A) (L.filter (gon A p)) ↔ z ∈ L.filter (gon A p)) ∧ (msort (ltS A) (L.filter (gon A p))).length = (L.filter (gon A p)).length ∧ Below w.heap.size w w' := by
 have hcl := hL.capl; have hcb := hL.capb
 rw [hl] at hcl
 have HS := Lib.hid hs; have HL := Lib.hid hL; have HM := Lib.hid hm; have HN := Lib.hid hl; have hA := hs.i64; have hsl := hs.capl; have hsb := hs.capb; clear hs hL hm hl
 go_enter Try.func49, Try.ntmps49
 go_wp2_with fail
 refine name_world ?_
 intro V hV
 have kbx : Blk V w.heap.size #[.int .u64 (sc p 0), .int .u64 (sc p 1), .int .u64 (sc p 2), .int .u64 (sc p 3), .int .u64 (sc p 4), .int .u64 (sc p 5), .int .u64 (sc p 6), .int .u64 (sc p 7), .int .u64 (sc p 8), .int .u64 (sc p 9), .int .u64 (sc p 10), .int .u64 (sc p 11)] 36 := by rw [hV]; exact Blk.new _ _ _
 have hbV : Below w.heap.size w V := by rw [hV]; exact below_a1 _ _
 clear hV; have lkb := kbx.lt; have KB := Lib.hid kbx; clear kbx
 have HSV := Lib.hid (HS.out.of hbV)
 have HLV := Lib.hid (HL.out.of hbV)
 have hVs : w.heap.size ≤ V.heap.size := hbV.size
 go_wp2_with fail
 go_loopg [7, 9, 12] n (fun gk s7 _ s12 wr => ∃ (k c cc : Nat) (ho : Option Addr), s12 = .int .i64 (k : Nat) ∧ s7 = .slice ho c cc ∧ k ≤ n ∧ n - k ≤ gk ∧ Hid (NL wr V.heap.size (.slice ho c cc) ((L.take k).filter (gon A p))) ∧ Below V.heap.size V wr)
 case atStart => exact ⟨0, 0, 0, none, rfl, rfl, Nat.zero_le _, by omega, Lib.hid NL.none, Below.refl _ _⟩
 case round =>
  obtain ⟨k, c, cc, ho, rfl, rfl, hk, hg, HNL, hbl⟩ := hrel
  have hsz := hbl.size
  by_cases h1 : k < n
  ·obtain ⟨g, o, rfl, hgl, hc⟩ := HLV.out.ptr (by rw [HN.out]; omega)
   obtain ⟨i, hi⟩ : ∃ i, L[k]? = some i := ⟨L[k]'(by rw [HN.out]; exact h1), List.getElem?_eq_getElem _⟩
   have e0 := (hbl.cell (p := ⟨g, o + k, none⟩) hgl).trans (hc k i hi)
   have him : i < m := HM.out i (List.mem_of_getElem? hi)
   obtain ⟨sg, so, rfl, hsgl, hsc⟩ := HSV.out.ptr (by omega)
   have s0 := (hbl.cell (p := ⟨sg, so + i * 4, none⟩) hsgl).trans (hsc i him 0 (by decide))
   have s1 := (hbl.cell (p := ⟨sg, so + i * 4 + 1, none⟩) hsgl).trans (hsc i him 1 (by decide))
   have s2 := (hbl.cell (p := ⟨sg, so + i * 4 + 2, none⟩) hsgl).trans (hsc i him 2 (by decide))
   have s3 := (hbl.cell (p := ⟨sg, so + i * 4 + 3, none⟩) hsgl).trans (hsc i him 3 (by decide))
   have HI := Lib.hid hi
   have ls : sg < wr.heap.size := by omega
   have lg : g < wr.heap.size := by omega
   have kbr := KB.out.below hbl lkb; obtain ⟨b0, b1, b2, b3, b4, b5, b6, b7, b8, b9, b10, b11⟩ := cel12 kbr; have lb := kbr.lt
   obtain ⟨hk', hhk⟩ : ∃ r, highK A i = r := ⟨_, rfl⟩
   have HHK := Lib.hid hhk
   obtain ⟨r, hr⟩ : ∃ r, ccmp hk' p = r := ⟨_, rfl⟩
   have HRR := Lib.hid hr
   have HG : Hid (gon A p i = decide (0 < r)) := by unfold gon; rw [hhk, hr]; exact Lib.hid rfl
   clear hc hsc hi hhk hr
   go_wp2_with fail
   refine wp_region_up wr.heap.size 6 [(true, 0), (true, 1), (true, 2), (true, 3), (true, 5), (false, 4)] (by kernel_rfl) (by kernel_rfl) (fun _ _ d _ _ h => by cases d <;> exact h) ?_
   have hb : Below wr.heap.size wr wr.drew := (Below.refl _ _).drew
   iterate 5
    refine wpS_takeL rfl rfl ?_
    go_big_quiet_step (rfl)
    refine wpQuiet_nil ?_
   refine wpS_doL rfl ?_
   intro K hK
   go_wp2_with (go_at_call 38; (with_reducible refine (HighK_is hA i hk' HHK.out _).mono ?_); rintro e w2 ⟨rfl, hn⟩)
   replace hb := hb.trans (hn.mono hb.size)
   refine hK.out _ _ (up_iff.2 hb) ?_
   clear hK K; clear hn
   refine wpS_nil ?_
   simp only [List.drop_succ_cons, List.drop_zero]
   clear s0 s1 s2 s3 b0 b1 b2 b3 b4 b5 b6 b7 b8 b9 b10 b11 e0 ls lg kbr lb
   go_wp2_with fail
   refine (CCmp_is hk' p r HRR.out _).mono ?_
   rintro e w2 ⟨rfl, hn⟩
   have hb2 := hbl.trans ((hb.trans (hn.mono hb.size)).mono hbl.size)
   have HNL2 := Lib.hid (HNL.out.of (hb.trans (hn.mono hb.size)))
   have hsz2 := hb2.size; clear hb hn hbl HNL hsz
   by_cases hr0 : 0 < r
   ·have hgt : r > 0 := hr0
    have HGT : Hid (gon A p i = true) := Lib.hid (by rw [HG.out]; exact decide_eq_true hr0)
    have hq1 : ((L.take k).filter (gon A p)).length < 100000 := Nat.lt_of_le_of_lt fil_len (by omega)
    have hq2 : V.heap.size ≤ (w2.alloc (.cells #[.int .i64 (i : Nat)] 3)).heap.size := by simp; omega
    go_wp2_with (at_builtin; go_loud (refine wpList_append_nl rfl _ _ rfl V.heap.size (.slice ho c cc) ((L.take k).filter (gon A p)) i w2.heap.size rfl rfl (Blk.new w2 _ _) (HNL2.out.of (below_a1 _ _)) hq1 hq2 ?_))
    intro ho2 m2 hc2 V1 nl2 gr2
    have hva : (w2.alloc (.cells #[.int .i64 (i : Nat)] 3)).heap.size = w2.heap.size + 1 := by simp
    have hoy : ∀ g, (Value.slice ho c cc).ownBlock = some g → V.heap.size ≤ g := fun g hg => (HNL2.out.own hg).1
    have BB : Below V.heap.size V V1 := hb2.trans ⟨gr2.os, gr2.tape, gr2.output, by have := gr2.size; omega, fun g hg => (gr2.block g (by omega) (fun e => by have := hoy g e.symm; omega)).trans ((below_a1 w2 _).block g (by omega))⟩
    have NL3 : Hid (NL V1 V.heap.size (.slice ho2 m2 hc2) ((L.take (k + 1)).filter (gon A p))) := by
     rw [fil_take HI.out, if_pos HGT.out]; exact Lib.hid nl2
    clear hva hoy nl2 gr2 HNL2 hq1 hq2 hb2 hsz2
    go_wp2
    go_roundg (n - (k + 1))
    case measure => omega
    case rel => exact ⟨k + 1, m2, hc2, ho2, by norm_cast, rfl, by omega, Nat.le_refl _, NL3, BB⟩
   ·have hgt : ¬ r > 0 := hr0
    have HGF : Hid (¬ gon A p i = true) := Lib.hid (by rw [HG.out]; simpa using hr0)
    have NL3 : Hid (NL w2 V.heap.size (.slice ho c cc) ((L.take (k + 1)).filter (gon A p))) := by
     rw [fil_take HI.out, if_neg HGF.out, List.append_nil]; exact HNL2
    clear HNL2
    go_wp2
    go_roundg (n - (k + 1))
    case measure => omega
    case rel => exact ⟨k + 1, c, cc, ho, by norm_cast, rfl, by omega, Nat.le_refl _, NL3, hb2⟩
  ·have hkn : k = n := by omega
   have HF : Hid (NL wr V.heap.size (.slice ho c cc) (L.filter (gon A p))) := by
    have := HNL.out
    rw [List.take_of_length_le (by rw [HN.out]; omega)] at this
    exact Lib.hid this
   have HAM : Hid (All m (L.filter (gon A p))) := Lib.hid fun z hz => HM.out z ((List.mem_filter.1 hz).1)
   have HLE : (L.filter (gon A p)).length ≤ 40000 := Nat.le_trans (List.length_filter_le _ _) (by rw [HN.out]; omega)
   obtain ⟨ao2, cap2, e2, hns⟩ := Ns.ofNL HF.out
   injection e2 with e3 e4 e5
   subst e3 e4 e5; have HNS := Lib.hid hns
   have HSW := Lib.hid (HSV.out.of hbl)
   clear hns HNL
   go_wp2_with fail
   refine (steeper_is sa m sq wr).mono ?_
   rintro e w2 ⟨rfl, kb2, hb2⟩
   have HO := Lib.hid (ord_steep kb2 (HSW.out.of hb2))
   have HNS2 := Lib.hid (HNS.out.of hb2)
   clear kb2
   go_wp2_with fail
   refine (Sort_is ho cc _ w2 _ (ltS A) m HO.out HAM.out HNS2.out HLE).mono ?_
   rintro e w3 ⟨v, rfl, nl3, hm1, hm2, hb3⟩
   have hbb := hbV.trans ((hbl.trans ((hb2.trans (hb3.mono hb2.size)).mono hbl.size)).mono hbV.size)
   have HR := Lib.hid (And.intro (nl3.low2 (show w.heap.size ≤ w2.heap.size by have := hb2.size; omega)) (And.intro hm1 (And.intro hm2 hbb)))
   clear nl3 hm1 hm2 hbb hb2 hb3 hbl HLE
   go_wp2
   go_ret
   exact ⟨v, rfl, HR.out⟩
end Go.Proofs.Ytkaolhlmimalkaa

namespace Go.Proofs.Ytkaolhlmimalkaa
open Go.RowKit

/-- the search by halves: the first place that does not pass, if those that pass stand ahead -/
def bsf (f : Nat → Bool) : Nat → Nat → Nat → Nat
  | 0, a, _ => a
  | g + 1, a, b => if a < b then (if f (a + (b - a) / 2) = true then bsf f g (a + (b - a) / 2 + 1) b else bsf f g a (a + (b - a) / 2)) else a
theorem bsf_bd (f : Nat → Bool) : ∀ (g a b : Nat), a ≤ b → a ≤ bsf f g a b ∧ bsf f g a b ≤ b
  | 0, a, b, h => ⟨Nat.le_refl _, h⟩
  | g + 1, a, b, h => by
    unfold bsf
    split
    · split
      · have := bsf_bd f g (a + (b - a) / 2 + 1) b (by omega); omega
      · have := bsf_bd f g a (a + (b - a) / 2) (by omega); omega
    · omega
/-- what passes less is found further ahead -/
theorem bsf_le {f f' : Nat → Bool} (hf : ∀ k, f k = true → f' k = true) : ∀ (g a b : Nat), a ≤ b → bsf f g a b ≤ bsf f' g a b
  | 0, _, _, _ => Nat.le_refl _
  | g + 1, a, b, h => by
    unfold bsf
    by_cases hab : a < b
    · rw [if_pos hab, if_pos hab]
      by_cases h1 : f (a + (b - a) / 2) = true
      · rw [if_pos h1, if_pos (hf _ h1)]; exact bsf_le hf g _ _ (by omega)
      · rw [if_neg h1]
        by_cases h2 : f' (a + (b - a) / 2) = true
        · rw [if_pos h2]
          have i1 := bsf_bd f g a (a + (b - a) / 2) (by omega)
          have i2 := bsf_bd f' g (a + (b - a) / 2 + 1) b (by omega)
          omega
        · rw [if_neg h2]; exact bsf_le hf g _ _ (by omega)
    · rw [if_neg hab, if_neg hab]; exact Nat.le_refl _
/-- lies the place above more of them than so? -/
def sdB (A : Nat → Nat → Int) (p : Int) (L : List Nat) (least : Int) (k : Nat) : Bool := decide (least < sideK A (L.getD k 0) p)
def bnd (A : Nat → Nat → Int) (p : Int) (L : List Nat) (least : Int) : Nat := bsf (sdB A p L least) L.length 0 L.length
theorem bnd_le (A : Nat → Nat → Int) (p : Int) (L : List Nat) : bnd A p L 0 ≤ bnd A p L (-1) ∧ bnd A p L (-1) ≤ L.length :=
  ⟨bsf_le (fun k h => by unfold sdB at *; simp at *; omega) _ _ _ (by omega), (bsf_bd _ _ _ _ (by omega)).2⟩
/-- the sweep's line in memory: the segments, the queue, those that begin, the status -/
structure Ln (w : World) (lb : Nat) (sa : Option Addr) (m sq : Nat) (qv sv : Value) (ao : Option Addr) (n cap : Nat) : Prop where
  blk : Blk w lb #[.slice sa m sq, qv, sv, .slice ao n cap] 59
theorem Ln.of {w w' : World} {lb : Nat} {sa : Option Addr} {m sq : Nat} {qv sv : Value} {ao : Option Addr} {n cap : Nat} (h : Ln w lb sa m sq qv sv ao n cap) (hb : Below w.heap.size w w') : Ln w' lb sa m sq qv sv ao n cap := ⟨h.blk.of hb⟩
set_option maxRecDepth 100000 in
set_option maxHeartbeats 2000000 in
theorem bnd1_is (lx px lb : Nat) (p : Int) (sa : Option Addr) (m sq : Nat) (qv sv : Value) (A : Nat → Nat → Int) (ao : Option Addr) (cap n : Nat) (L : List Nat) (hl : L.length = n) (least : Int) (w : World)
    (hx : Blk w lx #[ptr lb 0] 54) (hp : Blk w px #[.int .u64 (sc p 0), .int .u64 (sc p 1), .int .u64 (sc p 2), .int .u64 (sc p 3), .int .u64 (sc p 4), .int .u64 (sc p 5), .int .u64 (sc p 6), .int .u64 (sc p 7), .int .u64 (sc p 8), .int .u64 (sc p 9), .int .u64 (sc p 10), .int .u64 (sc p 11)] 36) (hln : Ln w lb sa m sq qv sv ao n cap) (hs : Sgs w sa m sq A) (hL : Ns w ao cap L) (hm : All m L) (hn : n ≤ 4096) :
    Calls Try.prog 69 #[.int .i64 least, ptr lx 0, ptr px 0] w fun e w' => e = .returned (.int .i64 (bnd A p L least : Nat)) ∧ Below w.heap.size w w' := by
 have hcl := hL.capl; have hcb := hL.capb
 rw [hl] at hcl
 obtain ⟨R, hR⟩ : ∃ R, bnd A p L least = R := ⟨_, rfl⟩
 rw [hR]
 have HR0 : bsf (sdB A p L least) n 0 n = R := by rw [← hR]; unfold bnd; rw [hl]
 have HS := Lib.hid hs; have HL := Lib.hid hL; have HM := Lib.hid hm; have HN := Lib.hid hl; have HX := Lib.hid hx; have HP := Lib.hid hp; have HLN := Lib.hid hln; have hA := hs.i64; have hsl := hs.capl; have hsb := hs.capb; have lx_ := hx.lt; have lp_ := hp.lt; have ll_ := hln.blk.lt; have l0 : w.cell? ⟨lx, 0, none⟩ = _ := hx.cell 0; have c3 : w.cell? ⟨lb, 3, none⟩ = _ := hln.blk.cell 3
 simp only [List.getElem?_toArray, List.getElem?_cons_zero, List.getElem?_cons_succ] at l0 c3
 clear hs hL hm hl hx hp hln hR
 go_enter Try.func69, Try.ntmps69
 go_wp2_with fail
 refine wp_region_up w.heap.size 6 [(true, 0), (true, 1), (true, 2), (true, 3), (true, 4), (true, 5)] (by kernel_rfl) (by kernel_rfl) (fun _ _ d _ _ h => by cases d <;> exact h) ?_
 have hb : Below w.heap.size w w.drew := (Below.refl _ _).drew
 iterate 6
  first | refine wpS_takeL rfl rfl ?_ | refine wpS_takeB rfl rfl rfl ?_ | refine wpS_takeN rfl ⟨_, rfl⟩ ?_
  first | go_big_quiet_step (rfl) | (go_big_quiet_want; go_big_quiet_op; refine ⟨_, fun _ => rfl, ?_⟩; go_big_quiet_on)
  refine wpQuiet_nil ?_
 refine wpS_nil ?_
 simp only [List.drop_succ_cons, List.drop_zero]
 clear l0 c3; have hb0 := hb; clear hb
 go_wp2_with fail
 go_loopg [5, 6, 7] n (fun gk s5 s6 _ wr => ∃ (x y g : Nat), s5 = .int .i64 (x : Nat) ∧ s6 = .int .i64 (y : Nat) ∧ x ≤ y ∧ y ≤ n ∧ y - x ≤ gk ∧ y - x ≤ g ∧ Hid (bsf (sdB A p L least) g x y = R) ∧ Below w.heap.size w wr)
 case atStart => exact ⟨0, n, n, rfl, rfl, Nat.zero_le _, Nat.le_refl _, by omega, by omega, Lib.hid HR0, hb0⟩
 case round =>
  clear HR0 hb0
  obtain ⟨x, y, g, rfl, rfl, hxy, hyn, hgk, hgg, HB, hbl⟩ := hrel
  have hsz := hbl.size
  by_cases h1 : x < y
  ·obtain ⟨g, rfl⟩ : ∃ g', g = g' + 1 := ⟨g - 1, by omega⟩
   obtain ⟨d, hd⟩ : ∃ d, (y - x) / 2 = d := ⟨_, rfl⟩
   obtain ⟨z, hz⟩ : ∃ z, x + d = z := ⟨_, rfl⟩
   have hzy : z < y := by omega
   have HB2 : Hid (if sdB A p L least z = true then bsf (sdB A p L least) g (z + 1) y = R else bsf (sdB A p L least) g x z = R) := by
    have := HB.out
    unfold bsf at this
    rw [if_pos h1, hd, hz] at this
    refine Lib.hid ?_
    split
    ·rename_i h; rw [if_pos h] at this; exact this
    ·rename_i h; rw [if_neg h] at this; exact this
   obtain ⟨ag, ao', rfl, hagl, hc⟩ := HL.out.ptr (by rw [HN.out]; omega)
   obtain ⟨i, hi⟩ : ∃ i, L[z]? = some i := ⟨L[z]'(by rw [HN.out]; omega), List.getElem?_eq_getElem _⟩
   have e0 := (hbl.cell (p := ⟨ag, ao' + z, none⟩) hagl).trans (hc z i hi)
   have him : i < m := HM.out i (List.mem_of_getElem? hi)
   obtain ⟨sg, so, rfl, hsgl, hsc⟩ := HS.out.ptr (by omega)
   have s0 := (hbl.cell (p := ⟨sg, so + i * 4, none⟩) hsgl).trans (hsc i him 0 (by decide))
   have s1 := (hbl.cell (p := ⟨sg, so + i * 4 + 1, none⟩) hsgl).trans (hsc i him 1 (by decide))
   have s2 := (hbl.cell (p := ⟨sg, so + i * 4 + 2, none⟩) hsgl).trans (hsc i him 2 (by decide))
   have s3 := (hbl.cell (p := ⟨sg, so + i * 4 + 3, none⟩) hsgl).trans (hsc i him 3 (by decide))
   have l0 : wr.cell? ⟨lx, 0, none⟩ = some (ptr lb 0) := (HX.out.below hbl lx_).cell 0
   have hbk := HLN.out.blk.below hbl ll_; have c0 : wr.cell? ⟨lb, 0, none⟩ = _ := hbk.cell 0; have c3 : wr.cell? ⟨lb, 3, none⟩ = _ := hbk.cell 3
   simp only [List.getElem?_toArray, List.getElem?_cons_zero, List.getElem?_cons_succ] at c0 c3
   have kbr := HP.out.below hbl lp_; obtain ⟨q0, q1, q2, q3, q4, q5, q6, q7, q8, q9, q10, q11⟩ := cel12 kbr; have lq := kbr.lt
   have ls : sg < wr.heap.size := by omega
   have lg : ag < wr.heap.size := by omega
   have lx2 : lx < wr.heap.size := by omega
   have ll2 : lb < wr.heap.size := by omega
   have hzn : z < n := by omega
   obtain ⟨r, hr⟩ : ∃ r, sideK A i p = r := ⟨_, rfl⟩
   have HRR := Lib.hid hr
   have HG : Hid (sdB A p L least z = decide (least < r)) := by
    unfold sdB
    rw [List.getD_eq_getElem?_getD, hi]
    show Hid (decide (least < sideK A i p) = _)
    rw [hr]; exact Lib.hid rfl
   obtain ⟨D, hD⟩ : ∃ D, y - x = D := ⟨_, rfl⟩
   have h1' : (x : Int) < (y : Int) := by omega
   have w1 : wrap64 ((y : Int) - (x : Int)) = (D : Int) := by rw [wrap64_id (by unfold In64; omega)]; omega
   have w2' : wrap64 (d : Int) = (d : Int) := wrap64_id (by unfold In64; omega)
   have w3 : wrap64 ((x : Int) + (d : Int)) = (z : Int) := by rw [wrap64_id (by unfold In64; omega)]; omega
   have HW2 := Lib.hid (show (D : Int).tdiv 2 = (d : Int) by rw [← hd, hD]; rfl)
   clear hc hsc hi hr HB hbk
   have HZ := Lib.hid (And.intro hz (And.intro hd (And.intro hzy (And.intro hxy (And.intro hyn (And.intro hgg hgk))))))
   clear hz hd hzy hxy hyn hgg hgk hD h1; have w2 := HW2.out; clear HW2
   go_wp2_with fail
   refine wp_region_up wr.heap.size 16 [(true, 0), (true, 1), (true, 2), (true, 3), (true, 4), (true, 5), (true, 6), (true, 7), (true, 8), (true, 9), (true, 10), (true, 11), (true, 12), (true, 13), (true, 15), (false, 14)] (by kernel_rfl) (by kernel_rfl) (fun _ _ d _ _ h => by cases d <;> exact h) ?_
   have hb : Below wr.heap.size wr wr.drew := (Below.refl _ _).drew
   iterate 15
    first | refine wpS_takeL rfl rfl ?_ | refine wpS_takeN rfl ⟨_, rfl⟩ ?_
    go_big_quiet_step (rfl)
    refine wpQuiet_nil ?_
   refine wpS_doL rfl ?_
   intro K hK
   go_wp2_with (go_at_call 70; (with_reducible refine (SideK_is hA i p r HRR.out _).mono ?_); rintro e w4 ⟨rfl, hn⟩)
   replace hb := hb.trans (hn.mono hb.size)
   refine hK.out _ _ (up_iff.2 hb) ?_
   clear hK K; clear hn
   refine wpS_nil ?_
   simp only [List.drop_succ_cons, List.drop_zero]
   clear w1 w2 w2' w3 e0 s0 s1 s2 s3 c0 c3 l0 q0 q1 q2 q3 q4 q5 q6 q7 q8 q9 q10 q11; have hz3 := HZ.out
   obtain ⟨hz, hd, hzy, hxy, hyn, hgg, hgk⟩ := hz3
   have hxz : x ≤ z := by omega
   have hzg : z - x ≤ g := by omega
   have hyg : y - (z + 1) ≤ g := by omega
   have hm1 : y - (z + 1) < gk + 1 := by omega
   have HK := Lib.hid (And.intro hz (And.intro hd (And.intro hgg hgk)))
   clear hz hd hgg hgk hm1
   have hb3 := hbl.trans (hb.mono hbl.size)
   by_cases hr0 : least < r
   ·have hgt : r > least := hr0
    have HB3 : Hid (bsf (sdB A p L least) g (z + 1) y = R) := by
     have := HB2.out
     rw [HG.out, if_pos (decide_eq_true hr0)] at this
     exact Lib.hid this
    go_wp2_with fail
    go_roundg (y - (z + 1))
    case measure => have := HK.out; omega
    case rel => exact ⟨z + 1, y, g, by norm_cast, rfl, by omega, by omega, Nat.le_refl _, by omega, HB3, hb3⟩
   ·have hgt : ¬ r > least := hr0
    have HB3 : Hid (bsf (sdB A p L least) g x z = R) := by
     have := HB2.out
     rw [HG.out, if_neg (by simpa using hr0)] at this
     exact Lib.hid this
    go_wp2_with fail
    go_roundg (z - x)
    case measure => have := HK.out; omega
    case rel => exact ⟨x, z, g, rfl, rfl, by omega, by omega, Nat.le_refl _, by omega, HB3, hb3⟩
  ·have hxy2 : x = y := by omega
   have hRx : x = R := by
    have := HB.out
    rw [hxy2] at this
    cases g with
    | zero => rw [hxy2]; exact this
    | succ g => unfold bsf at this; rw [if_neg (by omega)] at this; rw [hxy2]; exact this
   subst hRx
   have h1' : ¬ ((x : Int) < (y : Int)) := by omega
   have HH := Lib.hid hbl; clear HB hbl hxy2 hgk hgg hyn hxy
   go_wp2_with fail
   go_ret
   exact ⟨rfl, HH.out⟩
end Go.Proofs.Ytkaolhlmimalkaa

namespace Go.Proofs.Ytkaolhlmimalkaa
open Go.RowKit

/-- a slice of numbers whose array lies where X allows it -/
def Sv (w : World) (X : Nat → Prop) (v : Value) (L : List Nat) : Prop :=
  (v = .slice none 0 0 ∧ L = []) ∨ ∃ g o cap, v = .slice (some ⟨g, o, none⟩) L.length cap ∧ L.length ≤ cap ∧ cap ≤ 9223372036854775807 ∧
    (0 < L.length → g < w.heap.size ∧ X g ∧ ∀ j x, L[j]? = some x → w.cell? ⟨g, o + j, none⟩ = some (.int .i64 (x : Nat)))
theorem Sv.turn {w w' : World} {X X' : Nat → Prop} {v : Value} {L : List Nat} (h : Sv w X v L) (hs : w.heap.size ≤ w'.heap.size) (hx : ∀ g, g < w.heap.size → X g → X' g ∧ w'.heap[g]? = w.heap[g]?) : Sv w' X' v L := by
  refine h.imp id ?_
  rintro ⟨g, o, cap, e, h1, h2, h3⟩
  refine ⟨g, o, cap, e, h1, h2, fun h0 => ?_⟩
  obtain ⟨a, b, c⟩ := h3 h0
  obtain ⟨x1, x2⟩ := hx g a b
  exact ⟨by omega, x1, fun j x hj => (World.cell?_of_block (w := w) x2).trans (c j x hj)⟩
theorem Sv.of {w w' : World} {X : Nat → Prop} {v : Value} {L : List Nat} (h : Sv w X v L) (hb : Below w.heap.size w w') : Sv w' X v L := h.turn hb.size fun g hg hx => ⟨hx, hb.block g hg⟩
theorem Sv.mono {w : World} {X X' : Nat → Prop} {v : Value} {L : List Nat} (h : Sv w X v L) (hx : ∀ g, g < w.heap.size → X g → X' g) : Sv w X' v L := h.turn (Nat.le_refl _) fun g hg hxg => ⟨hx g hg hxg, rfl⟩
theorem Sv.nil (w : World) (X : Nat → Prop) : Sv w X (.slice none 0 0) [] := .inl ⟨rfl, rfl⟩
theorem Sv.ofNL {w : World} {base : Nat} {X : Nat → Prop} {v : Value} {L : List Nat} (h : NL w base v L) (hx : ∀ g, base ≤ g → X g) : Sv w X v L := by
  rcases h.2 with ⟨rfl, hn⟩ | ⟨g, cap, cur, rfl, hb, hg, h1, h2, h3, h4⟩
  · exact .inl ⟨rfl, List.length_eq_zero_iff.1 hn⟩
  · refine .inr ⟨g, 0, cap, rfl, h1, by unfold maxLen at h2; omega, fun _ => ⟨(Array.getElem?_eq_some_iff.1 hg).1, hx g hb, fun j x hx => ?_⟩⟩
    have hj : j < L.length := (List.getElem?_eq_some_iff.1 hx).1
    rw [Nat.zero_add, cell_row hg, ← Array.getElem?_toList]
    rw [Nat.mul_one] at h4
    have : (L.map fun x => Value.int .i64 (x : Nat))[j]? = some (.int .i64 (x : Nat)) := by rw [List.getElem?_map, hx]; rfl
    rw [← h4, List.getElem?_take_of_lt hj] at this
    exact this
theorem Sv.ns {w : World} {X : Nat → Prop} {v : Value} {L : List Nat} (h : Sv w X v L) : ∃ ao cap, v = .slice ao L.length cap ∧ Ns w ao cap L ∧ (0 < L.length → ∀ g o, ao = some ⟨g, o, none⟩ → X g) := by
  rcases h with ⟨rfl, rfl⟩ | ⟨g, o, cap, e, h1, h2, h3⟩
  · exact ⟨none, 0, rfl, Ns.nil w, fun h => absurd h (by simp)⟩
  · refine ⟨_, cap, e, ⟨fun h0 => ⟨g, o, rfl, (h3 h0).1, (h3 h0).2.2⟩, h1, h2⟩, fun h0 g' o' e' => ?_⟩
    cases e'; exact (h3 h0).2.1
theorem size_int : ∀ w, (sizeOf (Try.prog.elem 37)).run Try.prog w = .ok 1 w := fun w => by go_simp
theorem under_ints : Try.prog.underlying 37 = some (.slice (Try.prog.elem 37)) := by kernel_rfl
theorem sv_cut {w : World} {X : Nat → Prop} {L : List Nat} {g o cap a b : Nat} (_h1 : L.length ≤ cap) (h2 : cap ≤ 9223372036854775807) (h3 : 0 < L.length → g < w.heap.size ∧ X g ∧ ∀ j x, L[j]? = some x → w.cell? ⟨g, o + j, none⟩ = some (.int .i64 (x : Nat))) (hab : a ≤ b) (hb : b ≤ L.length)
    {m : Nat} (hm : b ≤ m) (hmc : m ≤ cap) : Sv w X (sliced (some ⟨g, o, none⟩) a b m 1) (cut L a b) := by
  have hl := cut_len (a := a) hb
  have key : ∀ o', (o' = o + a ∨ a = b) → Sv w X (.slice (some ⟨g, o', none⟩) (b - a) (m - a)) (cut L a b) := by
    intro o' ho
    refine .inr ⟨g, o', m - a, by rw [hl], by omega, by omega, fun h0 => ?_⟩
    rw [hl] at h0
    obtain ⟨x1, x2, x3⟩ := h3 (by omega)
    refine ⟨x1, x2, fun j x hj => ?_⟩
    obtain rfl : o' = o + a := ho.resolve_right (by omega)
    rw [Nat.add_assoc]; exact x3 _ x (cut_at hj)
  unfold sliced
  by_cases hma : m = a
  · rw [if_pos hma]; exact key o (.inr (by omega))
  · rw [if_neg hma, Option.map_some, add_pl, Nat.mul_one]; exact key _ (.inl rfl)
/-- a part of a slice -/
theorem Sv.slice {w : World} {X : Nat → Prop} {v : Value} {L : List Nat} (h : Sv w X v L) {a b : Nat} (hab : a ≤ b) (hb : b ≤ L.length) :
    ∃ v', (∀ w', (Instr.slice 37 v (some (.int .i64 (a : Nat))) (some (.int .i64 (b : Nat))) none).run Try.prog w' = .ok v' w') ∧ Sv w X v' (cut L a b) := by
  rcases h with ⟨rfl, rfl⟩ | ⟨g, o, cap, rfl, h1, h2, h3⟩
  · have : b = 0 := by simpa using hb
    subst this
    have : a = 0 := by omega
    subst this
    refine ⟨sliced none 0 0 0 1, fun w' => ?_, ?_⟩
    · rw [run_slice_lh w' _ none 0 0 under_ints .i64 .i64 ((0 : Nat) : Int) ((0 : Nat) : Int) (by omega) (by omega) (by omega), size_int]; rfl
    · exact .inl ⟨rfl, rfl⟩
  · refine ⟨sliced (some ⟨g, o, none⟩) a b cap 1, fun w' => ?_, sv_cut h1 h2 h3 hab hb (by omega) (Nat.le_refl _)⟩
    rw [run_slice_lh w' _ _ L.length cap under_ints .i64 .i64 (a : Nat) (b : Nat) (by omega) (by omega) (by omega), size_int]; rfl
theorem Sv.take {w : World} {X : Nat → Prop} {v : Value} {L : List Nat} (h : Sv w X v L) {b : Nat} (hb : b ≤ L.length) :
    ∃ v', (∀ w', (Instr.slice 37 v none (some (.int .i64 (b : Nat))) none).run Try.prog w' = .ok v' w') ∧ Sv w X v' (L.take b) := by
  have e : cut L 0 b = L.take b := by unfold cut; rw [List.drop_zero]; rfl
  rcases h with ⟨rfl, rfl⟩ | ⟨g, o, cap, rfl, h1, h2, h3⟩
  · have : b = 0 := by simpa using hb
    subst this
    refine ⟨sliced none 0 0 0 1, fun w' => ?_, ?_⟩
    · rw [run_slice_h w' _ none 0 0 under_ints .i64 ((0 : Nat) : Int) (by omega) (by omega), size_int]; rfl
    · exact .inl ⟨rfl, rfl⟩
  · refine ⟨sliced (some ⟨g, o, none⟩) 0 b cap 1, fun w' => ?_, by rw [← e]; exact sv_cut h1 h2 h3 (by omega) hb (by omega) (Nat.le_refl _)⟩
    rw [run_slice_h w' _ _ L.length cap under_ints .i64 (b : Nat) (by omega) (by omega), size_int]; rfl
theorem Sv.drop {w : World} {X : Nat → Prop} {v : Value} {L : List Nat} (h : Sv w X v L) {a : Nat} (ha : a ≤ L.length) :
    ∃ v', (∀ w', (Instr.slice 37 v (some (.int .i64 (a : Nat))) none none).run Try.prog w' = .ok v' w') ∧ Sv w X v' (L.drop a) := by
  have e : cut L a L.length = L.drop a := by unfold cut; rw [List.take_of_length_le (by rw [List.length_drop]; omega)]
  rcases h with ⟨rfl, rfl⟩ | ⟨g, o, cap, rfl, h1, h2, h3⟩
  · have : a = 0 := by simpa using ha
    subst this
    refine ⟨sliced none 0 0 0 1, fun w' => ?_, ?_⟩
    · rw [run_slice_l w' _ none 0 0 under_ints .i64 ((0 : Nat) : Int) (by omega) (by omega), size_int]; rfl
    · exact .inl ⟨rfl, rfl⟩
  · refine ⟨sliced (some ⟨g, o, none⟩) a L.length cap 1, fun w' => ?_, by rw [← e]; exact sv_cut h1 h2 h3 ha (Nat.le_refl _) h1 (Nat.le_refl _)⟩
    rw [run_slice_l w' _ _ L.length cap under_ints .i64 (a : Nat) (by omega) (by omega), size_int]; rfl
theorem Sv.take3 {w : World} {X : Nat → Prop} {v : Value} {L : List Nat} (h : Sv w X v L) {b : Nat} (hb : b ≤ L.length) :
    ∃ v', (∀ w', (Instr.slice 37 v none (some (.int .i64 (b : Nat))) (some (.int .i64 (b : Nat)))).run Try.prog w' = .ok v' w') ∧ Sv w X v' (L.take b) := by
  have e : cut L 0 b = L.take b := by unfold cut; rw [List.drop_zero]; rfl
  rcases h with ⟨rfl, rfl⟩ | ⟨g, o, cap, rfl, h1, h2, h3⟩
  · have : b = 0 := by simpa using hb
    subst this
    refine ⟨sliced none 0 0 0 1, fun w' => ?_, ?_⟩
    · rw [run_slice_hm w' _ none 0 0 under_ints .i64 .i64 ((0 : Nat) : Int) ((0 : Nat) : Int) (by omega) (by omega) (by omega), size_int]; rfl
    · exact .inl ⟨rfl, rfl⟩
  · refine ⟨sliced (some ⟨g, o, none⟩) 0 b b 1, fun w' => ?_, by rw [← e]; exact sv_cut h1 h2 h3 (by omega) hb (Nat.le_refl _) (by omega)⟩
    rw [run_slice_hm w' _ _ L.length cap under_ints .i64 .i64 (b : Nat) (b : Nat) (by omega) (by omega) (by omega), size_int]; rfl

set_option maxRecDepth 100000 in
set_option maxHeartbeats 1000000 in
theorem Grow_is (n : Nat) (hn : n ≤ 100000) (w : World) :
    Calls Try.prog 71 #[.slice none 0 0, .int .i64 (n : Nat)] w fun e w' => ∃ v, e = .returned v ∧ NL w' w.heap.size v [] ∧ Below w.heap.size w w' := by
 have h1 : ¬ ((n : Int) < 0) := by omega
 by_cases h0 : n = 0
 ·subst h0
  go_enter Try.func71, Try.ntmps71
  go_wp2
  go_ret
  exact ⟨_, rfl, NL.none, Below.refl _ _⟩
 ·have h3 : wrap64 ((n : Int) - 0) = (n : Int) := by unfold wrap64; omega
  have h4 : (n : Int) > 0 := by omega
  obtain ⟨i0, hi, hz0, hz1, hz2⟩ := info_parts info_int
  obtain ⟨G, hG⟩ : ∃ G, G = grownCap w (0 + n) 0 3 := ⟨_, rfl⟩
  have hGn : n ≤ G := by rw [hG]; have := grownCap_ge w (0 + n) 0 3; omega
  have hGm : G ≤ maxLen := by rw [hG]; exact grownCap_le_maxLen w (0 + n) 0 3 (by unfold maxLen; omega)
  have hG63 : G ≤ 9223372036854775807 := by unfold maxLen at hGm; omega
  obtain ⟨MC, hMC⟩ : ∃ MC : Array Value, MC = ([] : List Value).toArray ++ Builtin.zeroCells (Value.int .i64 0).cells n ++ Builtin.zeroCells (Value.int .i64 0).cells (G - n) := ⟨_, rfl⟩
  have hMs : MC.size = G * 1 := by
   rw [hMC]
   simp only [Array.size_append, List.size_toArray, size_zeroCells]
   have : (Value.int .i64 0).cells.size = 1 := rfl
   rw [this]; simp; omega
  have hr : ∀ ty, (Builtin.append_ #[37, 3] ty #[.slice none 0 0, .int .i64 (n : Nat)]).run Try.prog w = .ok (.slice (some ⟨w.heap.size, 0, none⟩) n G) (w.drew.alloc (.cells MC 3)) := fun ty => by
   have h := Lib.run_append_grow_zeros (P := Try.prog) w 37 3 ty 3 i0 (.int .i64 0) .i64 .i64 Try.underlying37 Try.underlying3 hi hz0 none 0 0 [] (run_firstCells_none w.drew i0.size 0 0 0) n (by omega) (by omega) (by omega) (by omega)
    (by rw [hz2]; omega) (growslice_fits (by omega) (by rw [hz2]; omega))
   rw [← hG, Nat.zero_add] at h
   rw [hMC]; exact h
  have hown : NL (w.drew.alloc (.cells MC 3)) w.heap.size (.slice (some ⟨w.heap.size, 0, none⟩) 0 G) [] := World.ownsRow_made (w := w.drew) MC G (Nat.le_refl _) hGm hMs
  have HO := Lib.hid hown; clear hown hG hMC hMs hi hz0 hz1 hz2 hGm
  go_enter Try.func71, Try.ntmps71
  go_wp2_with (at_builtin; refine Lib.wpList_append_run _ rfl _ _ _ _ rfl _ _ rfl rfl _ _ (hr _) ?_)
  all_goals (go_ret; exact ⟨_, rfl, HO.out, ((Below.refl _ _).drew).alloc (Nat.le_refl _) _⟩)
end Go.Proofs.Ytkaolhlmimalkaa

namespace Go.Proofs.Ytkaolhlmimalkaa
open Go.RowKit

def catN (Ls : Nat → List Nat) : Nat → List Nat
  | 0 => []
  | i + 1 => catN Ls i ++ Ls i
theorem catN_le (Ls : Nat → List Nat) : ∀ {i k : Nat}, i ≤ k → (catN Ls i).length ≤ (catN Ls k).length
  | i, 0, h => by have : i = 0 := by omega
                  subst this; exact Nat.le_refl _
  | i, k + 1, h => by
    by_cases e : i = k + 1
    · subst e; exact Nat.le_refl _
    · have := catN_le Ls (i := i) (k := k) (by omega)
      show _ ≤ (catN Ls k ++ Ls k).length
      rw [List.length_append]; omega
set_option maxRecDepth 100000 in
set_option maxHeartbeats 1000000 in
theorem Concat_is (vb k : Nat) (Vs : Nat → Value) (Ls : Nat → List Nat) (X : Nat → Prop) (w : World) (hk : k ≤ 3) (hvb : vb < w.heap.size) (hc : ∀ i, i < k → w.cell? ⟨vb, i, none⟩ = some (Vs i)) (hs : ∀ i, i < k → Sv w X (Vs i) (Ls i)) (hn : (catN Ls k).length ≤ 40000) :
    Calls Try.prog 47 #[.slice (some ⟨vb, 0, none⟩) k k] w fun e w' => ∃ v, e = .returned v ∧ NL w' w.heap.size v (catN Ls k) ∧ Below w.heap.size w w' := by
 have HC := Lib.hid hc; have HS := Lib.hid hs; have HN := Lib.hid hn; clear hc hs hn
 go_enter Try.func47, Try.ntmps47
 go_wp2_with fail
 go_loopg [3, 5, 11] k (fun gk s3 _ s11 wr => ∃ (i n : Nat), s11 = .int .i64 (i : Nat) ∧ s3 = .int .i64 (n : Nat) ∧ i ≤ k ∧ k - i ≤ gk ∧ Hid ((catN Ls i).length = n) ∧ w = wr)
 case atStart => exact ⟨0, 0, rfl, rfl, Nat.zero_le _, by omega, Lib.hid rfl, rfl⟩
 case round =>
  obtain ⟨i, n, rfl, rfl, hik, hg, HL, rfl⟩ := hrel
  by_cases h1 : i < k
  ·have e0 := HC.out i h1
   obtain ⟨ao, cap, hv, hns, _⟩ := (HS.out i h1).ns
   obtain ⟨m, hm⟩ : ∃ m, (Ls i).length = m := ⟨_, rfl⟩
   rw [hv, hm] at e0
   obtain ⟨n', hn'⟩ : ∃ n', n + m = n' := ⟨_, rfl⟩
   have hnn : n' ≤ 40000 := by
    have := catN_le Ls (show i + 1 ≤ k by omega)
    have e : (catN Ls (i + 1)).length = n + m := by show (catN Ls i ++ Ls i).length = _; rw [List.length_append, HL.out, hm]
    have := HN.out; omega
   have HL2 : Hid ((catN Ls (i + 1)).length = n') := Lib.hid (by show (catN Ls i ++ Ls i).length = _; rw [List.length_append, HL.out, hm, hn'])
   have hcap := hns.capl
   rw [hm] at hcap
   clear hv hns hm HL
   have h3 : ¬ ((n' : Int) < 0) := by omega
   have h2 : wrap64 ((n : Int) + (m : Int)) = (n' : Int) := by rw [wrap64_id (by unfold In64; omega)]; omega
   clear hn'
   go_wp2_with fail
   go_roundg (k - (i + 1))
   case measure => omega
   case rel => exact ⟨i + 1, n', by norm_cast, rfl, by omega, Nat.le_refl _, HL2, rfl⟩
  ·have hkn : i = k := by omega
   subst hkn
   have hnn : n ≤ 40000 := by have := HL.out; have := HN.out; omega
   go_wp2_with fail
   refine (Grow_is n (by omega) _).mono ?_
   rintro e w2 ⟨v0, rfl, nl0, hb0⟩
   have HNL0 := Lib.hid nl0; clear nl0 HL hnn h1 hg
   go_wp2_with fail
   go_loopg [6, 8, 27] i (fun gk s6 _ s27 wr => ∃ (j : Nat) (v6 : Value), s27 = .int .i64 (j : Nat) ∧ v6 = s6 ∧ j ≤ i ∧ i - j ≤ gk ∧ Hid (NL wr w.heap.size v6 (catN Ls j)) ∧ Below w.heap.size w wr)
   case atStart => exact ⟨0, v0, rfl, rfl, Nat.zero_le _, by omega, HNL0, hb0⟩
   case round =>
    obtain ⟨j, v6, rfl, rfl, hji, hg, HNL, hbl⟩ := hrel
    have hsz := hbl.size
    by_cases h1 : j < i
    ·have e0 := (hbl.cell (p := ⟨vb, j, none⟩) hvb).trans (HC.out j h1)
     have HSJ := Lib.hid ((HS.out j h1).of hbl)
     have HCL : (catN Ls j).length + (Ls j).length ≤ 40000 := by
      have := catN_le Ls (show j + 1 ≤ i by omega)
      have e : (catN Ls (j + 1)).length = (catN Ls j).length + (Ls j).length := List.length_append
      have := HN.out; omega
     have own : ∀ (v1 : Value) (w1 : World), w1.ownsRow w.heap.size 3 1 v1 ((catN Ls j).length + (Ls j).length) ((catN Ls j).map (fun x => .int .i64 (x : Nat)) ++ nI (Ls j)) → NL w1 w.heap.size v1 (catN Ls (j + 1)) := by
      intro v1 w1 h
      show w1.ownsRow _ _ _ _ (catN Ls j ++ Ls j).length ((catN Ls j ++ Ls j).map _)
      rw [List.length_append, List.map_append]; exact h
     have OWN := Lib.hid own
     have hlow : ∀ g, Value.ownBlock v6 = some g → w.heap.size ≤ g := fun g hg => (HNL.out.own hg).1
     have HLOW := Lib.hid hlow
     obtain ⟨i0, hi, hz0, hz1, hz2⟩ := info_parts info_int
     have HI := Lib.hid (And.intro hi (And.intro hz0 (And.intro hz1 hz2)))
     clear hi hz0 hz1 hz2 own hlow
     rcases HSJ.out with ⟨hv, hnil⟩ | ⟨g, o, cap, hv, c1, c2, c3⟩
     ·rw [hv] at e0
      have HV := Lib.hid hnil; clear hv hnil
      go_wp2_with (at_builtin; go_loud (refine wpList_append_own_none rfl _ _ 37 rfl w.heap.size 3 i0 1 Try.underlying37 HI.out.1 v6 _ _ rfl HNL.out rfl ?_))
      have NL2 : Hid (NL wr w.heap.size v6 (catN Ls (j + 1))) := by
       have e : catN Ls (j + 1) = catN Ls j := by show catN Ls j ++ Ls j = _; rw [HV.out, List.append_nil]
       rw [e]; exact HNL
      clear HNL OWN HLOW
      go_wp2
      go_roundg (i - (j + 1))
      case measure => omega
      case rel => exact ⟨j + 1, v6, by norm_cast, rfl, by omega, Nat.le_refl _, NL2, hbl⟩
     ·rw [hv] at e0
      have HSR : Hid (∀ (q : Nat) (u : Value), (nI (Ls j))[q]? = some u → wr.cell? ((⟨g, o, none⟩ : Addr).add q) = some u) := Lib.hid (Ns.src (cap := cap) ⟨fun h0 => ⟨g, o, rfl, (c3 h0).1, (c3 h0).2.2⟩, c1, c2⟩)
      obtain ⟨m, hm⟩ : ∃ m, (Ls j).length = m := ⟨_, rfl⟩
      have hnl : (nI (Ls j)).length = m * 1 := by rw [nI_len]; omega
      have HNI := Lib.hid hnl
      have h63 : (catN Ls j).length + m ≤ maxLen := by unfold maxLen; omega
      have hby : ((catN Ls j).length + m) * 8 ≤ 140737488355328 := by omega
      have HB := Lib.hid (And.intro h63 hby)
      rw [hm] at e0
      have HM := Lib.hid hm; clear hv c3 hnl h63 hby hm
      go_wp2_with (at_builtin; go_loud (refine wpList_append_lies _ rfl _ _ 37 rfl w.heap.size 3 i0 (.int .i64 0) 1 8 Try.underlying37 HI.out.1 HI.out.2.1 HI.out.2.2.1 HI.out.2.2.2 rfl (by decide) v6 (catN Ls j).length _ rfl HNL.out ⟨g, o, none⟩ m cap (nI (Ls j)) rfl HNI.out HSR.out (nI_one _) HB.out.1 HB.out.2 hsz ?_))
      intro v1 w1 own gr _
      have NL2 : Hid (NL w1 w.heap.size v1 (catN Ls (j + 1))) := Lib.hid (OWN.out v1 w1 (by rw [HM.out]; exact own))
      have hb2 : Below w.heap.size w w1 := hbl.trans ⟨gr.os, gr.tape, gr.output, gr.size, fun q hq => gr.block q (by omega) (fun e => by have := HLOW.out q e.symm; omega)⟩
      clear own gr HSR HNL OWN HLOW
      go_wp2
      go_roundg (i - (j + 1))
      case measure => omega
      case rel => exact ⟨j + 1, v1, by norm_cast, rfl, by omega, Nat.le_refl _, NL2, hb2⟩
    ·have hji2 : j = i := by omega
     subst hji2; have HH := Lib.hid hbl
     go_wp2
     go_ret
     exact ⟨_, rfl, HNL.out, HH.out⟩
end Go.Proofs.Ytkaolhlmimalkaa

namespace Go.Proofs.Ytkaolhlmimalkaa
open Go.RowKit

/-- as OutL, and some cells of the blocks that may change are as they were -/
def OutC (l : List Nat) (ks : List (Nat × Nat)) (W w' : World) : Prop := OutL l W w' ∧ ∀ q ∈ ks, w'.cell? ⟨q.1, q.2, none⟩ = W.cell? ⟨q.1, q.2, none⟩
theorem OutC.refl (l : List Nat) (ks : List (Nat × Nat)) (W : World) : OutC l ks W W := ⟨.refl _ _, fun _ _ => rfl⟩
theorem OutC.trans {l : List Nat} {ks : List (Nat × Nat)} {W w w' : World} (h : OutC l ks W w) (h' : OutC l ks w w') : OutC l ks W w' := ⟨h.1.trans h'.1, fun q hq => (h'.2 q hq).trans (h.2 q hq)⟩
theorem OutC.ofBelow {l : List Nat} {ks : List (Nat × Nat)} {w w' : World} (h : Below w.heap.size w w') (hk : ∀ q ∈ ks, q.1 < w.heap.size) : OutC l ks w w' := ⟨.ofBelow h, fun q hq => h.cell (p := ⟨q.1, q.2, none⟩) (hk q hq)⟩
theorem OutC.drew {l : List Nat} {ks : List (Nat × Nat)} {W w : World} (h : OutC l ks W w) : OutC l ks W w.drew := ⟨h.1.drew, h.2⟩
def UpC (l : List Nat) (ks : List (Nat × Nat)) (W : World) : Type := { w' : World // OutC l ks W w' }
def UpC.w {l : List Nat} {ks : List (Nat × Nat)} {W : World} (u : UpC l ks W) : World := u.1
@[go_sem] theorem UpC.cell {l : List Nat} {ks : List (Nat × Nat)} {W : World} (u : UpC l ks W) (b o : Nat) (h : b < W.heap.size) (hc : b ∉ l) : u.w.cell? ⟨b, o, none⟩ = W.cell? ⟨b, o, none⟩ :=
  World.cell?_of_block (w := W) (u.2.1.block b h hc)
@[go_sem] theorem UpC.cellk {l : List Nat} {ks : List (Nat × Nat)} {W : World} (u : UpC l ks W) (b o : Nat) (h : (b, o) ∈ ks) : u.w.cell? ⟨b, o, none⟩ = W.cell? ⟨b, o, none⟩ := u.2.2 (b, o) h
theorem upc {l : List Nat} {ks : List (Nat × Nat)} {W w' : World} (h : OutC l ks W w') : ∃ u : UpC l ks W, w' = u.w := ⟨⟨w', h⟩, rfl⟩
theorem wp_region_upc {P : Program} {Q : Exit → Act → World → Prop} {id : Nat} {a : Act} {w : World} {l : List Oper} (c : List Nat) (ks : List (Nat × Nat)) (n : Nat) (σ : List (Bool × Nat)) (hm : P.follows .mixedOrders = true)
    (hB : (Region.noSelect l.toArray && headB .any l.toArray n && decide (σ.length = n) && decide (n ≤ l.length) && schedB .any l.toArray n σ (Array.replicate l.length false)) = true)
    (hQ : ∀ c a d v w, Q (.panic c) (Act.put a d v) w → Q (.panic c) a w)
    (h : wpS P l.toArray (fun w' => ∃ u : UpC c ks w, w' = u.w) Q (fun a' w' => wpList P l.toArray Q (l.drop n) a' w') σ a w.drew) : (Code.region id l.toArray true).wp P Q a w :=
  wp_region_sched n σ _ hm hB hQ (upc ((OutC.refl c ks w).drew)) h

set_option maxRecDepth 100000 in
set_option maxHeartbeats 1000000 in
theorem bounds_is (lb : Nat) (p : Int) (sa : Option Addr) (m sq : Nat) (qv sv : Value) (A : Nat → Nat → Int) (ao : Option Addr) (cap n : Nat) (L : List Nat) (hl : L.length = n) (f t : Nat) (hf : bnd A p L 0 = f) (ht : bnd A p L (-1) = t) (w : World)
    (hln : Ln w lb sa m sq qv sv ao n cap) (hs : Sgs w sa m sq A) (hL : Ns w ao cap L) (hm : All m L) (hn : n ≤ 4096) :
    Calls Try.prog 46 #[ptr lb 0, pK p] w fun e w' => e = .returned (.tuple #[.int .i64 (f : Nat), .int .i64 (t : Nat)]) ∧ Below w.heap.size w w' := by
 have HS := Lib.hid hs; have HL := Lib.hid hL; have HM := Lib.hid hm; have HN := Lib.hid hl; have HLN := Lib.hid hln; have HF := Lib.hid hf; have HT := Lib.hid ht; clear hs hL hm hl hln hf ht
 go_enter Try.func46, Try.ntmps46
 go_wp2_with fail
 refine calls_w ?_
 intro V hV
 have kl : Blk V w.heap.size #[ptr lb 0] 54 := by rw [hV]; exact (Blk.new w _ _).of (below_a1 _ _)
 have kp : Blk V (w.heap.size + 1) #[.int .u64 (sc p 0), .int .u64 (sc p 1), .int .u64 (sc p 2), .int .u64 (sc p 3), .int .u64 (sc p 4), .int .u64 (sc p 5), .int .u64 (sc p 6), .int .u64 (sc p 7), .int .u64 (sc p 8), .int .u64 (sc p 9), .int .u64 (sc p 10), .int .u64 (sc p 11)] 36 := by rw [hV]; have := Blk.new (w.alloc (.cells #[ptr lb 0] 54)) #[.int .u64 (sc p 0), .int .u64 (sc p 1), .int .u64 (sc p 2), .int .u64 (sc p 3), .int .u64 (sc p 4), .int .u64 (sc p 5), .int .u64 (sc p 6), .int .u64 (sc p 7), .int .u64 (sc p 8), .int .u64 (sc p 9), .int .u64 (sc p 10), .int .u64 (sc p 11)] 36; rwa [World.size_alloc] at this
 have hbV : Below w.heap.size w V := by rw [hV]; exact below_a2 _ _ _
 have HKL := Lib.hid kl; have HKP := Lib.hid kp; clear hV kl kp
 refine (bnd1_is w.heap.size (w.heap.size + 1) lb p sa m sq qv sv A ao cap n L HN.out 0 V HKL.out HKP.out (HLN.out.of hbV) (HS.out.of hbV) (HL.out.of hbV) HM.out hn).mono ?_
 rintro e w2 ⟨rfl, hb2⟩
 have hbw := hbV.trans (hb2.mono hbV.size)
 rw [HF.out]
 go_wp2_with fail
 refine (bnd1_is w.heap.size (w.heap.size + 1) lb p sa m sq qv sv A ao cap n L HN.out (-1) w2 (HKL.out.of hb2) (HKP.out.of hb2) (HLN.out.of hbw) (HS.out.of hbw) (HL.out.of hbw) HM.out hn).mono ?_
 rintro e w3 ⟨rfl, hb3⟩
 have hbx := hbw.trans (hb3.mono hbw.size)
 rw [HT.out]
 clear HKL HKP HLN HS HL HM HF HT hb2 hb3
 go_wp2_with fail
 go_ret2
 exact ⟨rfl, hbx⟩

/-- how many of those that begin, begin at the place -/
def bgf (A : Nat → Nat → Int) (p : Int) (i : Nat) : Bool := decide (ccmp (lowK A i) p = 0)
def bgn (A : Nat → Nat → Int) (p : Int) (L : List Nat) : Nat := (L.takeWhile (bgf A p)).length
theorem tw_le (f : Nat → Bool) : ∀ L : List Nat, (L.takeWhile f).length ≤ L.length
  | [] => Nat.le_refl _
  | x :: L => by
    have := tw_le f L
    rw [List.takeWhile_cons]; split
    · simp; omega
    · simp
theorem tw_step {f : Nat → Bool} : ∀ {L : List Nat} {k i : Nat}, k ≤ (L.takeWhile f).length → L[k]? = some i → f i = true → k + 1 ≤ (L.takeWhile f).length
  | [], _, _, _, h, _ => by simp at h
  | x :: L, k, i, hk, h, hf => by
    rw [List.takeWhile_cons] at hk ⊢
    cases k with
    | zero =>
      have : x = i := by simpa using h
      subst this
      rw [if_pos hf]; simp
    | succ k =>
      split at hk
      · rename_i hx
        rw [if_pos hx]
        have h1 := tw_step (f := f) (L := L) (k := k) (i := i) (by simpa using hk) (by simpa using h) hf
        simp; omega
      · simp at hk
theorem tw_stop {f : Nat → Bool} : ∀ {L : List Nat} {k i : Nat}, k ≤ (L.takeWhile f).length → L[k]? = some i → ¬ f i = true → (L.takeWhile f).length = k
  | [], _, _, _, h, _ => by simp at h
  | x :: L, k, i, hk, h, hf => by
    rw [List.takeWhile_cons] at hk ⊢
    cases k with
    | zero =>
      have : x = i := by simpa using h
      subst this
      rw [if_neg hf]; rfl
    | succ k =>
      split at hk
      · rename_i hx
        rw [if_pos hx]
        have h1 := tw_stop (f := f) (L := L) (k := k) (i := i) (by simpa using hk) (by simpa using h) hf
        simp; omega
      · simp at hk
end Go.Proofs.Ytkaolhlmimalkaa

namespace Go.Proofs.Ytkaolhlmimalkaa
open Go.RowKit

set_option maxRecDepth 100000 in
set_option maxHeartbeats 2000000 in
theorem begin_is (lb : Nat) (p : Int) (sa : Option Addr) (m sq : Nat) (qv sv av : Value) (A : Nat → Nat → Int) (X : Nat → Prop) (hX : ∀ g, X g → g ≠ lb) (n : Nat) (L : List Nat) (hl : L.length = n) (u : Nat) (hu : bgn A p L = u) (w : World)
    (hb : Blk w lb #[.slice sa m sq, qv, sv, av] 59) (hs : Sgs w sa m sq A) (hL : Sv w X sv L) (hm : All m L) (hn : n ≤ 4096) :
    Calls Try.prog 48 #[ptr lb 0, pK p] w fun e w' => ∃ v v2, e = .returned v ∧ Sv w' X v (L.take u) ∧ Sv w' X v2 (L.drop u) ∧ Blk w' lb #[.slice sa m sq, qv, v2, av] 59 ∧ OutL [lb] w w' := by
 obtain ⟨ao, cap, hsv, hns, _⟩ := hL.ns
 rw [hl] at hsv
 have hcl := hns.capl; have hcb := hns.capb
 rw [hl] at hcl
 have hun : u ≤ n := by rw [← hu, ← hl]; exact tw_le _ _
 have HU := Lib.hid hu; have HS := Lib.hid hs; have HL := Lib.hid hL; have HM := Lib.hid hm; have HN := Lib.hid hl; have HLN := Lib.hid hb; have HNS := Lib.hid hns; have HSV := Lib.hid hsv; have HX := Lib.hid hX; have hA := hs.i64; have hsl := hs.capl; have hsb := hs.capb; have ll_ := hb.lt; clear hs hL hm hl hb hns hsv hX hu
 go_enter Try.func48, Try.ntmps48
 go_wp2_with fail
 refine name_world ?_
 intro V hV
 have kbx : Blk V w.heap.size #[.int .u64 (sc p 0), .int .u64 (sc p 1), .int .u64 (sc p 2), .int .u64 (sc p 3), .int .u64 (sc p 4), .int .u64 (sc p 5), .int .u64 (sc p 6), .int .u64 (sc p 7), .int .u64 (sc p 8), .int .u64 (sc p 9), .int .u64 (sc p 10), .int .u64 (sc p 11)] 36 := by rw [hV]; exact Blk.new _ _ _
 have hbV : Below w.heap.size w V := by rw [hV]; exact below_a1 _ _
 clear hV; have lkb := kbx.lt; have KB := Lib.hid kbx; clear kbx; have hVs : w.heap.size ≤ V.heap.size := hbV.size
 have HSW := Lib.hid (HS.out.of hbV)
 have HNV := Lib.hid (HNS.out.of hbV)
 go_wp2_with fail
 go_loopg [5] n (fun gk s5 wr => ∃ k : Nat, s5 = .int .i64 (k : Nat) ∧ k ≤ u ∧ n - k ≤ gk ∧ Below V.heap.size V wr)
 case atStart => exact ⟨0, rfl, Nat.zero_le _, by omega, Below.refl _ _⟩
 case round =>
  obtain ⟨k, rfl, hk, hg, hbl⟩ := hrel
  have hsz := hbl.size
  have hbw := hbV.trans (hbl.mono hVs)
  have hblk := HLN.out.of hbw; have c0 : wr.cell? ⟨lb, 0, none⟩ = _ := hblk.cell 0; have c2 : wr.cell? ⟨lb, 2, none⟩ = _ := hblk.cell 2
  simp only [List.getElem?_toArray, List.getElem?_cons_zero, List.getElem?_cons_succ] at c0 c2
  have ll2 : lb < wr.heap.size := by omega
  have kbr := KB.out.below hbl lkb; obtain ⟨q0, q1, q2, q3, q4, q5, q6, q7, q8, q9, q10, q11⟩ := cel12 kbr; have lq := kbr.lt; have HBK := Lib.hid hblk; clear hblk
  by_cases h1 : k < n
  ·rw [HSV.out] at c2
   obtain ⟨ag, ao', rfl, hagl, hc⟩ := HNV.out.ptr (by rw [HN.out]; omega)
   obtain ⟨i, hi⟩ : ∃ i, L[k]? = some i := ⟨L[k]'(by rw [HN.out]; omega), List.getElem?_eq_getElem _⟩
   have e0 := (hbl.cell (p := ⟨ag, ao' + k, none⟩) hagl).trans (hc k i hi)
   have him : i < m := HM.out i (List.mem_of_getElem? hi)
   obtain ⟨sg, so, rfl, hsgl, hsc⟩ := HSW.out.ptr (by omega)
   have s0 := (hbl.cell (p := ⟨sg, so + i * 4, none⟩) hsgl).trans (hsc i him 0 (by decide))
   have s1 := (hbl.cell (p := ⟨sg, so + i * 4 + 1, none⟩) hsgl).trans (hsc i him 1 (by decide))
   have s2 := (hbl.cell (p := ⟨sg, so + i * 4 + 2, none⟩) hsgl).trans (hsc i him 2 (by decide))
   have s3 := (hbl.cell (p := ⟨sg, so + i * 4 + 3, none⟩) hsgl).trans (hsc i him 3 (by decide))
   have ls : sg < wr.heap.size := by omega
   have lg : ag < wr.heap.size := by omega
   obtain ⟨r0, hr0⟩ : ∃ r, lowK A i = r := ⟨_, rfl⟩
   obtain ⟨r, hr⟩ : ∃ r, ccmp r0 p = r := ⟨_, rfl⟩
   have HR0 := Lib.hid hr0; have HRR := Lib.hid hr
   have HG : Hid (bgf A p i = decide (r = 0)) := by unfold bgf; rw [hr0, hr]; exact Lib.hid rfl
   have HI := Lib.hid hi
   have h1' : (k : Int) < (n : Int) := by omega
   clear hc hsc hi hr hr0
   go_wp2_with fail
   refine wp_region_up wr.heap.size 23 [(true, 0), (true, 1), (true, 2), (true, 3), (true, 4), (true, 5), (true, 6), (true, 7), (true, 8), (true, 9), (true, 10), (true, 11), (true, 12), (true, 13), (true, 14), (true, 15), (true, 16), (true, 17), (true, 18), (true, 19), (true, 20), (true, 22), (false, 21)] (by kernel_rfl) (by kernel_rfl) (fun _ _ d _ _ h => by cases d <;> exact h) ?_
   have hb : Below wr.heap.size wr wr.drew := (Below.refl _ _).drew
   iterate 22
    first | refine wpS_takeL rfl rfl ?_ | refine wpS_takeB rfl rfl rfl ?_ | refine wpS_takeN rfl ⟨_, rfl⟩ ?_
    first | go_big_quiet_step (rfl) | (go_big_quiet_want; go_big_quiet_op; refine ⟨_, fun _ => rfl, ?_⟩; go_big_quiet_on)
    refine wpQuiet_nil ?_
   refine wpS_doL rfl ?_
   intro K hK
   go_wp2_with ((go_at_call 37; (with_reducible refine (LowK_is hA i r0 HR0.out _).mono ?_); rintro e w4 ⟨rfl, hn⟩))
   try replace hb := hb.trans (hn.mono hb.size)
   refine hK.out _ _ (up_iff.2 hb) ?_
   clear hK K
   try clear hn
   refine wpS_nil ?_
   simp only [List.drop_succ_cons, List.drop_zero]
   go_wp2_with fail
   refine (CCmp_is r0 p r HRR.out _).mono ?_
   rintro e w5 ⟨rfl, hn5⟩
   replace hb := hb.trans (hn5.mono hb.size)
   clear hn5
   have hb4 := hbl.trans (hb.mono hbl.size)
   have hb5 := hbw.trans (hb.mono (by omega))
   clear c0 c2 q0 q1 q2 q3 q4 q5 q6 q7 q8 q9 q10 q11 e0 s0 s1 s2 s3 kbr
   by_cases hr0 : r = 0
   ·have HUK : k + 1 ≤ u := by
     have e1 : bgf A p i = true := by rw [HG.out]; exact decide_eq_true hr0
     have := tw_step (f := bgf A p) (L := L) (k := k) (i := i) (by show k ≤ bgn A p L; rw [HU.out]; exact hk) HI.out e1
     have e2 : bgn A p L = (L.takeWhile (bgf A p)).length := rfl
     rw [HU.out] at e2; omega
    clear HG HRR HI; subst hr0
    go_wp2_with fail
    go_roundg (n - (k + 1))
    case measure => omega
    case rel => exact ⟨k + 1, by norm_cast, HUK, Nat.le_refl _, hb4⟩
   ·have HUK : u = k := by
     have e1 : ¬ bgf A p i = true := by rw [HG.out]; simpa using hr0
     have := tw_stop (f := bgf A p) (L := L) (k := k) (i := i) (by show k ≤ bgn A p L; rw [HU.out]; exact hk) HI.out e1
     rw [← HU.out]; exact this
    clear HG HRR HI
    obtain rfl : u = k := HUK
    have HB4 := HBK.out.of hb; have c2 : w5.cell? ⟨lb, 2, none⟩ = _ := HB4.cell 2
    simp only [List.getElem?_toArray, List.getElem?_cons_zero, List.getElem?_cons_succ] at c2
    have HL4 := HL.out.of hb5
    obtain ⟨v1, e1, sv1⟩ := HL4.take3 (b := u) (by rw [HN.out]; exact hun)
    obtain ⟨v2, e2, sv2⟩ := HL4.drop (a := u) (by rw [HN.out]; exact hun)
    obtain ⟨a2, k2, f2, _, _⟩ := sv2.ns
    obtain ⟨m2, hm2⟩ : ∃ m2, (L.drop u).length = m2 := ⟨_, rfl⟩
    rw [hm2] at f2
    subst f2; clear hm2; have HS1 := Lib.hid sv1; have HS2 := Lib.hid sv2; have HBL := Lib.hid HB4; have HBB := Lib.hid hb5; have lb4 := HB4.lt; have fz := HB4.free 2; clear sv1 sv2 HB4 HL4 HBK
    go_wp2_with fail
    go_ret
    refine ⟨v1, (.slice a2 m2 k2), rfl, ?_, ?_, HBL.out.put 2 (.slice a2 m2 k2), (OutL.ofBelow HBB.out).set (by simp) 2 none (.slice a2 m2 k2)⟩
    ·exact HS1.out.turn (by simp [World.setCell]) fun g hg hx => ⟨hx, Below.heap_setCell _ _ _ _ (fun e => HX.out g hx (by have : g = lb := e; exact this))⟩
    ·exact HS2.out.turn (by simp [World.setCell]) fun g hg hx => ⟨hx, Below.heap_setCell _ _ _ _ (fun e => HX.out g hx (by have : g = lb := e; exact this))⟩
  ·have HUK : u = k := by omega
   have h1' : ¬ ((k : Int) < (n : Int)) := by omega
   rw [HSV.out] at c2
   go_wp2_with fail
   refine wp_region_up wr.heap.size 23 [(true, 0), (true, 1), (true, 2), (true, 3), (true, 4), (true, 5), (true, 6), (true, 7), (true, 8), (true, 9), (true, 10), (true, 11), (true, 12), (true, 13), (true, 14), (true, 15), (true, 16), (true, 17), (true, 18), (true, 19), (true, 20), (true, 22), (false, 21)] (by kernel_rfl) (by kernel_rfl) (fun _ _ d _ _ h => by cases d <;> exact h) ?_
   have hb : Below wr.heap.size wr wr.drew := (Below.refl _ _).drew
   iterate 22
    first | refine wpS_takeL rfl rfl ?_ | refine wpS_takeB rfl rfl rfl ?_ | refine wpS_takeN rfl ⟨_, rfl⟩ ?_
    first | go_big_quiet_step (rfl) | (go_big_quiet_want; go_big_quiet_op; refine ⟨_, fun _ => rfl, ?_⟩; go_big_quiet_on)
    refine wpQuiet_nil ?_
   refine wpS_doL rfl ?_
   intro K hK
   go_wp2_with (fail)
   try replace hb := hb.trans (hn.mono hb.size)
   refine hK.out _ _ (up_iff.2 hb) ?_
   clear hK K
   try clear hn
   refine wpS_nil ?_
   simp only [List.drop_succ_cons, List.drop_zero]
   have hb5 := hbw.trans (hb.mono (by omega))
   clear c0 c2 q0 q1 q2 q3 q4 q5 q6 q7 q8 q9 q10 q11 kbr
   obtain rfl : u = k := HUK
   have HB4 := HBK.out.of hb; have c2 : wr.drew.cell? ⟨lb, 2, none⟩ = _ := HB4.cell 2
   simp only [List.getElem?_toArray, List.getElem?_cons_zero, List.getElem?_cons_succ] at c2
   have HL4 := HL.out.of hb5
   obtain ⟨v1, e1, sv1⟩ := HL4.take3 (b := u) (by rw [HN.out]; exact hun)
   obtain ⟨v2, e2, sv2⟩ := HL4.drop (a := u) (by rw [HN.out]; exact hun)
   obtain ⟨a2, k2, f2, _, _⟩ := sv2.ns
   obtain ⟨m2, hm2⟩ : ∃ m2, (L.drop u).length = m2 := ⟨_, rfl⟩
   rw [hm2] at f2
   subst f2; clear hm2; have HS1 := Lib.hid sv1; have HS2 := Lib.hid sv2; have HBL := Lib.hid HB4; have HBB := Lib.hid hb5; have lb4 := HB4.lt; have fz := HB4.free 2; clear sv1 sv2 HB4 HL4 HBK
   go_wp2_with fail
   go_ret
   refine ⟨v1, (.slice a2 m2 k2), rfl, ?_, ?_, HBL.out.put 2 (.slice a2 m2 k2), (OutL.ofBelow HBB.out).set (by simp) 2 none (.slice a2 m2 k2)⟩
   ·exact HS1.out.turn (by simp [World.setCell]) fun g hg hx => ⟨hx, Below.heap_setCell _ _ _ _ (fun e => HX.out g hx (by have : g = lb := e; exact this))⟩
   ·exact HS2.out.turn (by simp [World.setCell]) fun g hg hx => ⟨hx, Below.heap_setCell _ _ _ _ (fun e => HX.out g hx (by have : g = lb := e; exact this))⟩
end Go.Proofs.Ytkaolhlmimalkaa

namespace Go.Proofs.Ytkaolhlmimalkaa
open Go.RowKit

section
variable {P : Program} {Q : Exit → Act → World → Prop} {C : World → Prop} {l : List Oper} {T : Act → World → Prop} {σ : List (Nat × Nat)} {i : Nat} {o : Oper} {a : Act} {w : World} {W : World}
theorem quiet_itemN {C : World → Prop} {K : Act → Prop} (hp : ∃ x, o.op = .nilCheck x) (h : wpQuiet P l.toArray C K [o] a) : ∃ v, YieldsIf P l.toArray C o v a ∧ K (a.put o.dst v) := by
  obtain ⟨x, hx⟩ := hp
  unfold wpQuiet at h
  by_cases hw : Region.wanted o (yielded l.toArray a.tmps) = true
  · rw [if_pos hw] at h
    obtain ⟨v, h1, h2⟩ := h
    exact ⟨v, .inl ⟨hw, nil_yields hx h1⟩, h2⟩
  · rw [if_neg hw] at h
    exact ⟨undef, .inr ⟨by simpa using hw, rfl⟩, h⟩
theorem wpFG_takeN0 (ho : l[i]? = some o) (hp : ∃ x, o.op = .nilCheck x) (h : wpQuiet P l.toArray (fun w' => ∃ u : UpTo W.heap.size W, w' = u.w) (fun a' => wpFG P l.toArray W Q T σ a' w) [o] a) : wpFG P l.toArray W Q T ((0, i) :: σ) a w := by
  obtain ⟨v, h1, h2⟩ := quiet_itemN hp h
  exact ⟨o, v, by simpa using ho, h1, h2⟩
theorem wpFG_takeN2 (ho : l[i]? = some o) (hp : ∃ x, o.op = .nilCheck x) (h : wpQuiet P l.toArray (fun _ => True) (fun a' => wpFG P l.toArray W Q T σ a' w) [o] a) : wpFG P l.toArray W Q T ((2, i) :: σ) a w := by
  obtain ⟨v, h1, h2⟩ := quiet_itemN hp h
  exact ⟨o, v, by simpa using ho, h1, h2⟩
end
/-- the cells of a spot -/
abbrev pS12 (x : Int) : Array Value := #[.int .u64 (sc x 0), .int .u64 (sc x 1), .int .u64 (sc x 2), .int .u64 (sc x 3), .int .u64 (sc x 4), .int .u64 (sc x 5), .int .u64 (sc x 6), .int .u64 (sc x 7), .int .u64 (sc x 8), .int .u64 (sc x 9), .int .u64 (sc x 10), .int .u64 (sc x 11)]
theorem fill_aux {b : Nat} {t : TypeId} : ∀ (vs pre post : List Value) (w : World), post.length = vs.length → Blk w b (pre ++ post).toArray t → Blk (w.setCells b pre.length vs) b (pre ++ vs).toArray t
  | [], pre, post, w, h, hb => by have : post = [] := List.length_eq_zero_iff.1 h; subst this; exact hb
  | v :: vs, pre, [], w, h, hb => by simp at h
  | v :: vs, pre, x :: post, w, h, hb => by
    have h1 := hb.put pre.length v
    have e : (pre ++ x :: post).toArray.setIfInBounds pre.length v = ((pre ++ [v]) ++ post).toArray := by simp
    rw [e] at h1
    have h2 := fill_aux vs (pre ++ [v]) post _ (by simpa using h) h1
    rw [List.append_assoc, List.length_append] at h2
    exact h2
theorem Blk.fill {w : World} {b : Nat} {c : Array Value} {t : TypeId} (h : Blk w b c t) (vs : List Value) (hc : c.size = vs.length) : Blk (w.setCells b 0 vs) b vs.toArray t := by
  have := fill_aux vs [] c.toList w (by simpa using hc) (by simpa using h)
  simpa using this
theorem Blk.there {w : World} {b : Nat} {c : Array Value} {t : TypeId} (h : Blk w b c t) (n : Nat) (hn : n ≤ c.size) : w.there b 0 n := fun j hj => by
  rw [Nat.zero_add]
  exact ⟨by rw [h.cell j, Array.getElem?_eq_getElem (by omega)]; rfl, h.free j⟩
theorem size_cells (b : Nat) : ∀ (vs : List Value) (o : Nat) (w : World), (w.setCells b o vs).heap.size = w.heap.size
  | [], _, _ => rfl
  | v :: vs, o, w => by
    have := size_cells b vs (o + 1) (w.setCell ⟨b, o, none⟩ v)
    have e : (w.setCell ⟨b, o, none⟩ v).heap.size = w.heap.size := by simp [World.setCell]
    exact this.trans e
/-- a spot is stored -/
theorem wpList_store_spot {ops : Array Oper} {rest : List Oper} {op : Oper} {a : Act} {w : World} {Q : Exit → Act → World → Prop} (hgd : op.guard = none) (x y : Operand) (ho : op.op = .store 36 x y)
    (b : Nat) (q : Int) (hx : a.eval x = .pointer (some ⟨b, 0, none⟩)) (hy : a.eval y = pK q) {c : Array Value} (hb : Blk w b c 36) (hc : c.size = 12)
    (h : ∀ w', Blk w' b (pS12 q) 36 → OutL [b] w w' → w'.heap.size = w.heap.size → wpList Try.prog ops Q rest (a.put op.dst undef) w') : wpList Try.prog ops Q (op :: rest) a w := by
  refine wpList_store_mid hgd 36 x y ho b 0 (pS12 q) hx hy (hb.there 12 (by omega)) (by kernel_rfl) ?_ (h _ ?_ ?_ ?_)
  · simp [pS12, Value.oneCell']
  · exact hb.fill (pS12 q).toList hc
  · exact OutL.setCells (List.mem_singleton.2 rfl) _ _ (OutL.refl _ _)
  · exact size_cells _ _ _ _
theorem alSpot : AllocRuns Try.prog 36 #[.int .u64 0, .int .u64 0, .int .u64 0, .int .u64 0, .int .u64 0, .int .u64 0, .int .u64 0, .int .u64 0, .int .u64 0, .int .u64 0, .int .u64 0, .int .u64 0] := fun w => by kernel_rfl
def lkM (A : Nat → Nat → Int) (x y : Nat) (p : Int) (Q : List Int) : List Int := if meetK A x y = 1 ∧ 0 < ccmp (meetP A x y) p then qput (meetP A x y) Q else Q
/-- the places behind a look -/
def lkQ (A : Nat → Nat → Int) (L : List Nat) (Q : List Int) (i : Int) (k : Nat) (p : Int) : List Int := if i < 0 ∨ L.length ≤ k then Q else lkM A (L.getD i.toNat 0) (L.getD k 0) p Q

set_option maxRecDepth 100000 in
set_option maxHeartbeats 2000000 in
theorem look_no (lb t : Nat) (i : Int) (k : Nat) (p : Int) (sa : Option Addr) (m sq : Nat) (sv : Value) (ao : Option Addr) (cap n : Nat) (w : World) (hb : Blk w lb #[.slice sa m sq, ptr t 0, sv, .slice ao n cap] 59) (hi : i < 0 ∨ n ≤ k) (hi2 : -1 ≤ i) (hi3 : i < 100000) (_hk : k < 100000) (_hn : n ≤ 4096) :
    Calls Try.prog 50 #[ptr lb 0, .int .i64 i, .int .i64 (k : Nat), pK p] w fun e w' => (∃ v, e = .returned v) ∧ Below w.heap.size w w' := by
  have HLN := Lib.hid hb; have ll_ := hb.lt; clear hb
  go_enter Try.func50, Try.ntmps50
  by_cases h1 : i < 0
  · go_wp2_with fail
    (try simp only [Exit.inBlock, Exit.then])
    refine bodyPost_ret (results_none rfl _ _ _) rfl ?_
    exact ⟨⟨_, rfl⟩, below_a1 _ _⟩
  · have c3 : w.cell? ⟨lb, 3, none⟩ = _ := HLN.out.cell 3
    simp only [List.getElem?_toArray, List.getElem?_cons_zero, List.getElem?_cons_succ] at c3
    have h2 : (k : Int) ≥ (n : Int) := by omega
    go_wp2_with fail
    (try simp only [Exit.inBlock, Exit.then])
    refine bodyPost_ret (results_none rfl _ _ _) rfl ?_
    exact ⟨⟨_, rfl⟩, below_a1 _ _⟩
set_option maxRecDepth 100000 in
set_option maxHeartbeats 2000000 in
theorem look_yes (lb t : Nat) (i k : Nat) (p : Int) (sa : Option Addr) (m sq : Nat) (sv : Value) (A : Nat → Nat → Int) (ao : Option Addr) (cap n : Nat) (L : List Nat) (hl : L.length = n) (x y : Nat) (hx : L[i]? = some x) (hy : L[k]? = some y) (S : TS) (T : Tr) (q : Nat) (Ql : List Int) (w : World)
    (hb : Blk w lb #[.slice sa m sq, ptr t 0, sv, .slice ao n cap] 59) (hs : Sgs w sa m sq A) (hL : Ns w ao cap L) (hm : All m L) (hn : n ≤ 4096) (hQ : Que w t S T q Ql) (hq : q < 100000) :
    Calls Try.prog 50 #[ptr lb 0, .int .i64 (i : Nat), .int .i64 (k : Nat), pK p] w fun e w' => (∃ v, e = .returned v) ∧ ∃ S' T' q', q' ≤ q + 1 ∧ Que w' t S' T' q' (lkM A x y p Ql) ∧ Fr t S S' w w' := by
  have hin : i < n := by rw [← hl]; exact (List.getElem?_eq_some_iff.1 hx).1
  have hkn : k < n := by rw [← hl]; exact (List.getElem?_eq_some_iff.1 hy).1
  have hcl := hL.capl; have hcb := hL.capb
  rw [hl] at hcl
  obtain ⟨ag, ao', rfl, hagl, hc⟩ := hL.ptr (by omega)
  have himx : x < m := hm x (List.mem_of_getElem? hx)
  have himy : y < m := hm y (List.mem_of_getElem? hy)
  obtain ⟨sg, so, rfl, hsgl, hsc⟩ := hs.ptr (by omega)
  have hn4 := hn; clear hn; have hA := hs.i64; have hsl := hs.capl; have hsb := hs.capb; have ll_ := hb.lt; have HLN := Lib.hid hb; have HQ := Lib.hid hQ; have HC := Lib.hid hc; have HSC := Lib.hid hsc; have HX := Lib.hid hx; have HY := Lib.hid hy; clear hb hQ hc hsc hx hy hL hs hm hl
  have h1 : ¬ ((i : Int) < 0) := by omega
  have h2 : ¬ ((k : Int) ≥ (n : Int)) := by omega
  have c3 : w.cell? ⟨lb, 3, none⟩ = _ := HLN.out.cell 3
  simp only [List.getElem?_toArray, List.getElem?_cons_zero, List.getElem?_cons_succ] at c3
  go_enter Try.func50, Try.ntmps50
  go_wp2_with fail
  clear c3
  refine name_world ?_
  intro V hV
  have kbx : Blk V w.heap.size (pS12 p) 36 := by rw [hV]; exact Blk.new _ _ _
  have hbV : Below w.heap.size w V := by rw [hV]; exact below_a1 _ _
  clear hV; have hVs : w.heap.size ≤ V.heap.size := hbV.size; have lkb := kbx.lt; have KB := Lib.hid kbx; clear kbx; have hblk := HLN.out.of hbV; have c0 : V.cell? ⟨lb, 0, none⟩ = _ := hblk.cell 0; have c3 : V.cell? ⟨lb, 3, none⟩ = _ := hblk.cell 3
  simp only [List.getElem?_toArray, List.getElem?_cons_zero, List.getElem?_cons_succ] at c0 c3
  have e0 := (hbV.cell (p := ⟨ag, ao' + i, none⟩) hagl).trans (HC.out i x HX.out)
  have e1 := (hbV.cell (p := ⟨ag, ao' + k, none⟩) hagl).trans (HC.out k y HY.out)
  have sx0 := (hbV.cell (p := ⟨sg, so + x * 4, none⟩) hsgl).trans (HSC.out x himx 0 (by decide))
  have sx1 := (hbV.cell (p := ⟨sg, so + x * 4 + 1, none⟩) hsgl).trans (HSC.out x himx 1 (by decide))
  have sx2 := (hbV.cell (p := ⟨sg, so + x * 4 + 2, none⟩) hsgl).trans (HSC.out x himx 2 (by decide))
  have sx3 := (hbV.cell (p := ⟨sg, so + x * 4 + 3, none⟩) hsgl).trans (HSC.out x himx 3 (by decide))
  have sy0 := (hbV.cell (p := ⟨sg, so + y * 4, none⟩) hsgl).trans (HSC.out y himy 0 (by decide))
  have sy1 := (hbV.cell (p := ⟨sg, so + y * 4 + 1, none⟩) hsgl).trans (HSC.out y himy 1 (by decide))
  have sy2 := (hbV.cell (p := ⟨sg, so + y * 4 + 2, none⟩) hsgl).trans (HSC.out y himy 2 (by decide))
  have sy3 := (hbV.cell (p := ⟨sg, so + y * 4 + 3, none⟩) hsgl).trans (HSC.out y himy 3 (by decide))
  have ls : sg < V.heap.size := by omega
  have lg : ag < V.heap.size := by omega
  have ll2 : lb < V.heap.size := by omega
  obtain ⟨mk, hmk⟩ : ∃ r, meetK A x y = r := ⟨_, rfl⟩
  obtain ⟨mp, hmp⟩ : ∃ r, meetP A x y = r := ⟨_, rfl⟩
  obtain ⟨r, hr⟩ : ∃ r, ccmp mp p = r := ⟨_, rfl⟩
  have HMK := Lib.hid hmk; have HMP := Lib.hid hmp; have HRR := Lib.hid hr; clear hmk hmp hr hblk
  refine wp_region_FG1 31 30 [(0, 0), (0, 1), (0, 2), (0, 3), (0, 4), (0, 5), (0, 6), (0, 7), (0, 8), (0, 9), (0, 10), (0, 11), (0, 12), (0, 13), (0, 14), (0, 15), (0, 16), (0, 17), (0, 18), (0, 19), (0, 20), (0, 21), (0, 22), (0, 23), (0, 24), (0, 25), (1, 26), (0, 27), (0, 28), (2, 29)] [(3, 31), (3, 32)] (by kernel_rfl) (by kernel_rfl) (fun _ _ d _ _ => by cases d <;> exact Iff.rfl) rfl rfl rfl alSpot ?_
  have hb : Below V.heap.size V V.drew := (Below.refl _ _).drew
  iterate 26
    first | refine wpFG_take0 rfl rfl ?_ | refine wpFG_takeN0 rfl ⟨_, rfl⟩ ?_
    go_big_quiet_step (rfl)
    refine wpQuiet_nil ?_
  refine wpFG_do rfl ?_
  intro w1 hg K hK
  replace hb := hb.trans (hg.mono hb.size)
  clear hg
  go_wp2_with (go_at_call 73; (with_reducible refine (MeetK_is hA x y mk mp HMK.out HMP.out _).mono ?_); rintro e w4 ⟨rfl, hn⟩)
  refine hK.out _ _ hn ?_
  replace hb := hb.trans (hn.mono hb.size)
  clear hK K; clear hn
  iterate 2
    first | refine wpFG_take0 rfl rfl ?_ | refine wpFG_takeN0 rfl ⟨_, rfl⟩ ?_
    go_big_quiet_step (rfl)
    refine wpQuiet_nil ?_
  first | refine wpFG_take2 rfl rfl ?_ | refine wpFG_takeN2 rfl ⟨_, rfl⟩ ?_
  go_big_quiet_step (rfl)
  refine wpQuiet_nil ?_
  refine wpFG_nil ?_
  clear hb
  intro w1 hg hb b1 lb1 nb1
  clear hg
  simp only [Act.put, ptrTo, List.setIfInBounds_toArray, List.set_cons_succ, List.set_cons_zero]
  refine wpG_do3 rfl ?_
  intro K hK
  go_wp2_with (first | (refine wpList_store_spot rfl _ _ rfl b1 mp rfl rfl nb1 rfl ?_; intro w5 kb5 ho5 hs5) | skip)
  refine hK.out _ _ ?_
  clear hK K
  refine wpG_do3 rfl ?_
  intro K hK
  go_wp2_with (first | (refine wpList_store_spot rfl _ _ rfl b1 mp rfl rfl nb1 rfl ?_; intro w5 kb5 ho5 hs5) | skip)
  refine hK.out _ _ ?_
  clear hK K
  refine wpG_nil ?_
  have hb5 : Below V.heap.size V w5 := hb.trans (ho5.below hb.size (by intro g hg; have : g = b1 := by simpa using hg
                                                                       omega))
  have hb6 := hbV.trans (hb5.mono hVs)
  clear hb ho5 c0 c3 e0 e1 sx0 sx1 sx2 sx3 sy0 sy1 sy2 sy3 nb1 hs5; have kbr := KB.out.below hb5 lkb; obtain ⟨q0, q1, q2, q3, q4, q5, q6, q7, q8, q9, q10, q11⟩ := cel12 kbr; have lq := kbr.lt; obtain ⟨r0, r1, r2, r3, r4, r5, r6, r7, r8, r9, r10, r11⟩ := cel12 kb5; have lr := kb5.lt; have HB1 := Lib.hid kb5; have HKB := Lib.hid kbr; clear kb5 kbr
  by_cases hm1 : mk = 1
  · have hm2 : (mk == 1) = true := by simpa using hm1
    go_wp2_with fail
    refine (CCmp_is mp p r HRR.out _).mono ?_
    rintro e w6 ⟨rfl, hn6⟩
    have hb7 := hb6.trans (hn6.mono (by have := hb5.size; omega))
    have HB2 := HB1.out.of hn6; clear q0 q1 q2 q3 q4 q5 q6 q7 q8 q9 q10 q11 lq r0 r1 r2 r3 r4 r5 r6 r7 r8 r9 r10 r11 lr
    by_cases hr0 : 0 < r
    · have hgt : r > 0 := hr0
      have hblk := HLN.out.of hb7; have c1 : w6.cell? ⟨lb, 1, none⟩ = _ := hblk.cell 1
      simp only [List.getElem?_toArray, List.getElem?_cons_zero, List.getElem?_cons_succ] at c1
      obtain ⟨q0, q1, q2, q3, q4, q5, q6, q7, q8, q9, q10, q11⟩ := cel12 HB2; have lq := HB2.lt; have ll3 : lb < w6.heap.size := hblk.lt
      have HQ2 := Lib.hid (HQ.out.of hb7)
      have HE : Hid (lkM A x y p Ql = qput mp Ql) := by
        unfold lkM; rw [HMK.out, HMP.out, HRR.out, if_pos ⟨hm1, hr0⟩]; exact Lib.hid rfl
      have hsp : SpK mp := (ccmp_ne (show ccmp mp p ≠ 0 by rw [HRR.out]; omega)).1
      have HSP := Lib.hid hsp; have HB7 := Lib.hid hb7; clear hblk HB2 hsp hb7 hb6 hb5
      go_wp2_with fail
      refine wp_region_up w6.heap.size 5 [(true, 0), (true, 1), (true, 2), (true, 3), (true, 4)] (by kernel_rfl) (by kernel_rfl) (fun _ _ d _ _ h => by cases d <;> exact h) ?_
      have hb : Below w6.heap.size w6 w6.drew := (Below.refl _ _).drew
      iterate 5
        first | refine wpS_takeL rfl rfl ?_ | refine wpS_takeN rfl ⟨_, rfl⟩ ?_
        go_big_quiet_step (rfl)
        refine wpQuiet_nil ?_
      refine wpS_nil ?_
      simp only [List.drop_succ_cons, List.drop_zero]
      go_wp2_with fail
      refine (Que_put hq HSP.out (HQ2.out.of hb)).mono ?_
      rintro e w7 ⟨⟨bb, rfl⟩, S', T', hQ', hF'⟩
      have HH := Lib.hid (And.intro hQ' hF')
      have HBB := Lib.hid hb; clear hQ' hF' hb c1 q0 q1 q2 q3 q4 q5 q6 q7 q8 q9 q10 q11
      go_wp2_with fail
      go_end0
      refine ⟨⟨_, rfl⟩, S', T', q + 1, Nat.le_refl _, ?_, (Fr.ofBelow HB7.out).trans ((Fr.ofBelow HBB.out).trans HH.out.2)⟩
      rw [HE.out]; exact HH.out.1
    · have hgt : ¬ r > 0 := hr0
      have HE : Hid (lkM A x y p Ql = Ql) := by
        unfold lkM; rw [HMK.out, HMP.out, HRR.out, if_neg (fun h => hr0 h.2)]; exact Lib.hid rfl
      go_wp2_with fail
      go_end0
      refine ⟨⟨_, rfl⟩, S, T, q, by omega, ?_, Fr.ofBelow hb7⟩
      rw [HE.out]; exact HQ.out.of hb7
  · have hm2 : (mk == 1) = false := by simpa using hm1
    have HE : Hid (lkM A x y p Ql = Ql) := by
      unfold lkM; rw [HMK.out, if_neg (fun h => hm1 h.1)]; exact Lib.hid rfl
    go_wp2_with fail
    go_end0
    refine ⟨⟨_, rfl⟩, S, T, q, by omega, ?_, Fr.ofBelow hb6⟩
    rw [HE.out]; exact HQ.out.of hb6
end Go.Proofs.Ytkaolhlmimalkaa

namespace Go.Proofs.Ytkaolhlmimalkaa
open Go.RowKit

theorem Sgs.turn {w w' : World} {ao : Option Addr} {n cap : Nat} {A : Nat → Nat → Int} (h : Sgs w ao n cap A) (hs : w.heap.size ≤ w'.heap.size) (hx : ∀ g o s, 0 < n → ao = some ⟨g, o, s⟩ → w'.heap[g]? = w.heap[g]?) : Sgs w' ao n cap A := by
  refine ⟨fun h0 => ?_, h.i64, h.capl, h.capb⟩
  obtain ⟨g, o, e, hg, hc⟩ := h.ptr h0
  exact ⟨g, o, e, by omega, fun i hi j hj => (World.cell?_of_block (w := w) (hx g o none h0 e)).trans (hc i hi j hj)⟩
theorem Blk.turn {w w' : World} {b : Nat} {c : Array Value} {t : TypeId} (h : Blk w b c t) (hx : w'.heap[b]? = w.heap[b]?) : Blk w' b c t := hx.trans h
/-- a queue keeps all when its three blocks do -/
theorem Que.turn {w w' : World} {t : Nat} {S : TS} {T : Tr} {q : Nat} {L : List Int} (h : Que w t S T q L) (hs : w.heap.size ≤ w'.heap.size) (h1 : w'.heap[t]? = w.heap[t]?) (h2 : w'.heap[S.nb]? = w.heap[S.nb]?) (h3 : w'.heap[S.fb]? = w.heap[S.fb]?) : Que w' t S T q L := by
  refine ⟨⟨⟨h.m.m.blk.turn h1, h.m.m.row.same h2, ?_, h.m.m.tn⟩, Nat.lt_of_lt_of_le h.m.lf hs⟩, h.inv, h.ord, h.lv⟩
  rcases h.m.m.fre with a | ⟨a, b, c⟩
  · exact .inl a
  · exact .inr ⟨a, b.same h3, c⟩
theorem Que.lts {w : World} {t : Nat} {S : TS} {T : Tr} {q : Nat} {L : List Int} (h : Que w t S T q L) : t < w.heap.size ∧ S.nb < w.heap.size ∧ S.fb < w.heap.size := ⟨h.m.m.blk.lt, h.m.m.row.lt, h.m.lf⟩
/-- apart from the line's own blocks -/
def Lx (X : Nat → Prop) (lb t : Nat) (S : TS) (g : Nat) : Prop := X g ∧ g ≠ lb ∧ g ≠ t ∧ g ≠ S.nb ∧ g ≠ S.fb
/-- the line in memory; X tells what blocks it may have -/
structure Lin (w : World) (X : Nat → Prop) (lb t : Nat) (S : TS) (T : Tr) (q : Nat) (sa : Option Addr) (m sq : Nat) (Q : List Int) (sts st : List Nat) : Prop where
  row : ∃ sv av, Blk w lb #[.slice sa m sq, ptr t 0, sv, av] 59 ∧ Sv w (Lx X lb t S) sv sts ∧ Sv w (Lx X lb t S) av st
  que : Que w t S T q Q
  sep : lb ≠ t ∧ lb ≠ S.nb ∧ lb ≠ S.fb
  xs : X lb ∧ X t ∧ X S.nb ∧ X S.fb
section
variable {w : World} {X : Nat → Prop} {lb t : Nat} {S : TS} {T : Tr} {q : Nat} {sa : Option Addr} {m sq : Nat} {Q : List Int} {sts st : List Nat}
theorem Lin.turn {w' : World} {X' : Nat → Prop} (h : Lin w X lb t S T q sa m sq Q sts st) (hs : w.heap.size ≤ w'.heap.size) (hx : ∀ g, g < w.heap.size → X g → X' g ∧ w'.heap[g]? = w.heap[g]?) : Lin w' X' lb t S T q sa m sq Q sts st := by
  obtain ⟨sv, av, h1, h2, h3⟩ := h.row
  obtain ⟨l1, l2, l3⟩ := h.que.lts
  have l0 := h1.lt
  obtain ⟨x0, x1, x2, x3⟩ := h.xs
  have go : ∀ g, g < w.heap.size → Lx X lb t S g → Lx X' lb t S g ∧ w'.heap[g]? = w.heap[g]? := fun g hg hl => ⟨⟨(hx g hg hl.1).1, hl.2⟩, (hx g hg hl.1).2⟩
  exact ⟨⟨sv, av, h1.turn (hx _ l0 x0).2, h2.turn hs go, h3.turn hs go⟩, h.que.turn hs (hx _ l1 x1).2 (hx _ l2 x2).2 (hx _ l3 x3).2, h.sep, (hx _ l0 x0).1, (hx _ l1 x1).1, (hx _ l2 x2).1, (hx _ l3 x3).1⟩
theorem Lin.of {w' : World} (h : Lin w X lb t S T q sa m sq Q sts st) (hb : Below w.heap.size w w') : Lin w' X lb t S T q sa m sq Q sts st := h.turn hb.size fun g hg hx => ⟨hx, hb.block g hg⟩
/-- what a call of the queue leaves -/
theorem Lx.frame {w' : World} {S' : TS} (hF : Fr t S S' w w') {g : Nat} (hg : g < w.heap.size) (h : Lx X lb t S g) : Lx X lb t S' g ∧ w'.heap[g]? = w.heap[g]? := by
  obtain ⟨h0, h1, h2, h3, h4⟩ := h
  refine ⟨⟨h0, h1, h2, ?_, ?_⟩, hF.out.block g hg (by simp [h2, h3, h4])⟩
  · rcases hF.nb with e | e
    · rw [e]; exact h3
    · omega
  · rcases hF.fb with e | e
    · rw [e]; exact h4
    · omega
theorem Lin.frame {w' : World} {S' : TS} {T' : Tr} {q' : Nat} {Q' : List Int} (h : Lin w X lb t S T q sa m sq Q sts st) (hF : Fr t S S' w w') (hQ : Que w' t S' T' q' Q') (hX : ∀ g, w.heap.size ≤ g → X g) : Lin w' X lb t S' T' q' sa m sq Q' sts st := by
  obtain ⟨sv, av, h1, h2, h3⟩ := h.row
  have l0 := h1.lt
  obtain ⟨s1, s2, s3⟩ := h.sep
  obtain ⟨x0, x1, x2, x3⟩ := h.xs
  refine ⟨⟨sv, av, h1.turn (hF.out.block lb l0 (by simp [s1, s2, s3])), h2.turn hF.out.size fun g hg hl => hl.frame hF hg, h3.turn hF.out.size fun g hg hl => hl.frame hF hg⟩, hQ, ⟨s1, ?_, ?_⟩, x0, x1, ?_, ?_⟩
  · rcases hF.nb with e | e
    · rw [e]; exact s2
    · omega
  · rcases hF.fb with e | e
    · rw [e]; exact s3
    · omega
  · rcases hF.nb with e | e
    · rw [e]; exact x2
    · exact hX _ e
  · rcases hF.fb with e | e
    · rw [e]; exact x3
    · exact hX _ e
end
/-- a look of any kind -/
theorem look_is (lb t : Nat) (i : Int) (k : Nat) (p : Int) (sa : Option Addr) (m sq : Nat) (A : Nat → Nat → Int) (X : Nat → Prop) (S : TS) (T : Tr) (q : Nat) (Ql : List Int) (sts st : List Nat) (w : World)
    (h : Lin w X lb t S T q sa m sq Ql sts st) (hs : Sgs w sa m sq A) (hm : All m st) (hn : st.length ≤ 4096) (hi : -1 ≤ i) (hin : i < st.length) (hk : k < 100000) (hq : q < 100000) (hX : ∀ g, w.heap.size ≤ g → X g) :
    Calls Try.prog 50 #[ptr lb 0, .int .i64 i, .int .i64 (k : Nat), pK p] w fun e w' => (∃ v, e = .returned v) ∧ ∃ S' T' q', q' ≤ q + 1 ∧ Lin w' X lb t S' T' q' sa m sq (lkQ A st Ql i k p) sts st ∧ Fr t S S' w w' := by
  obtain ⟨sv, av, h1, h2, h3⟩ := h.row
  obtain ⟨ao, cap, rfl, hns, _⟩ := h3.ns
  by_cases hc : i < 0 ∨ st.length ≤ k
  · refine (look_no lb t i k p sa m sq sv ao cap st.length w h1 hc hi (by omega) hk hn).mono ?_
    rintro e w' ⟨hv, hb⟩
    refine ⟨hv, S, T, q, by omega, ?_, Fr.ofBelow hb⟩
    unfold lkQ; rw [if_pos hc]; exact h.of hb
  · obtain ⟨j, rfl⟩ : ∃ j : Nat, i = (j : Int) := ⟨i.toNat, by omega⟩
    have hj : j < st.length := by omega
    have hk2 : k < st.length := by omega
    refine (look_yes lb t j k p sa m sq sv A ao cap st.length st rfl (st.getD j 0) (st.getD k 0) (by rw [List.getD_eq_getElem?_getD, List.getElem?_eq_getElem hj]; rfl) (by rw [List.getD_eq_getElem?_getD, List.getElem?_eq_getElem hk2]; rfl) S T q Ql w h1 hs hns hm hn h.que hq).mono ?_
    rintro e w' ⟨hv, S', T', q', hq', hQ, hF⟩
    refine ⟨hv, S', T', q', hq', ?_, hF⟩
    unfold lkQ; rw [if_neg hc, Int.toNat_natCast]
    exact h.frame hF hQ hX
end Go.Proofs.Ytkaolhlmimalkaa

namespace Go.Proofs.Ytkaolhlmimalkaa
open Go.RowKit

/-- an event -/
abbrev evC (p : Int) (v : Value) : Array Value := #[.int .u64 (sc p 0), .int .u64 (sc p 1), .int .u64 (sc p 2), .int .u64 (sc p 3), .int .u64 (sc p 4), .int .u64 (sc p 5), .int .u64 (sc p 6), .int .u64 (sc p 7), .int .u64 (sc p 8), .int .u64 (sc p 9), .int .u64 (sc p 10), .int .u64 (sc p 11), v]
def quL (A : Nat → Nat → Int) (p : Int) (Q : List Int) (st2 : List Nat) (f nl : Nat) : List Int := if 0 < nl then lkQ A st2 (lkQ A st2 Q ((f : Int) - 1) f p) ((f : Int) + (nl : Int) - 1) (f + nl) p else lkQ A st2 Q ((f : Int) - 1) f p
theorem cut_le (l : List Nat) (a b : Nat) : (cut l a b).length ≤ b - a := by unfold cut; rw [List.length_take]; omega
theorem wpList_store_ev {ops : Array Oper} {rest : List Oper} {op : Oper} {a : Act} {w : World} {Q : Exit → Act → World → Prop} (hgd : op.guard = none) (x y : Operand) (ho : op.op = .store 39 x y)
    (b : Nat) (q : Int) (a1 : Option Addr) (l1 k1 : Nat) (hx : a.eval x = .pointer (some ⟨b, 0, none⟩)) (hy : a.eval y = .agg (evC q (.slice a1 l1 k1))) {c : Array Value} (hb : Blk w b c 39) (hc : c.size = 13)
    (h : ∀ w', Blk w' b (evC q (.slice a1 l1 k1)) 39 → OutL [b] w w' → w'.heap.size = w.heap.size → wpList Try.prog ops Q rest (a.put op.dst undef) w') : wpList Try.prog ops Q (op :: rest) a w := by
  refine wpList_store_mid hgd 39 x y ho b 0 (evC q (.slice a1 l1 k1)) hx hy (hb.there 13 (by omega)) (by kernel_rfl) ?_ (h _ ?_ ?_ ?_)
  · simp [evC, Value.oneCell']
  · exact hb.fill (evC q (.slice a1 l1 k1)).toList hc
  · exact OutL.setCells (List.mem_singleton.2 rfl) _ _ (OutL.refl _ _)
  · exact size_cells _ _ _ _
theorem Concat2_is (vb : Nat) (v1 v2 : Value) (L1 L2 : List Nat) (X : Nat → Prop) (w : World) (kv : Blk w vb #[v1, v2] 37) (h1 : Sv w X v1 L1) (h2 : Sv w X v2 L2) (hn : (L1 ++ L2).length ≤ 40000) :
    Calls Try.prog 47 #[.slice (some ⟨vb, 0, none⟩) 2 2] w fun e w' => ∃ v, e = .returned v ∧ NL w' w.heap.size v (L1 ++ L2) ∧ Below w.heap.size w w' := by
  refine (Concat_is vb 2 (fun i => if i = 0 then v1 else v2) (fun i => if i = 0 then L1 else L2) X w (by decide) kv.lt ?_ ?_ (by show (([] ++ L1) ++ L2).length ≤ _; rw [List.nil_append]; exact hn)).mono ?_
  · intro i hi
    rcases (show i = 0 ∨ i = 1 by omega) with rfl | rfl
    · exact kv.cell 0
    · exact kv.cell 1
  · intro i hi
    rcases (show i = 0 ∨ i = 1 by omega) with rfl | rfl
    · exact h1
    · exact h2
  · rintro e w' ⟨v, rfl, nl, hb⟩
    exact ⟨v, rfl, by have e : catN (fun i => if i = 0 then L1 else L2) 2 = L1 ++ L2 := by (show ([] ++ L1) ++ L2 = _; rw [List.nil_append])
                      rwa [e] at nl, hb⟩
theorem Concat3_is (vb : Nat) (v1 v2 v3 : Value) (L1 L2 L3 : List Nat) (X : Nat → Prop) (w : World) (kv : Blk w vb #[v1, v2, v3] 37) (h1 : Sv w X v1 L1) (h2 : Sv w X v2 L2) (h3 : Sv w X v3 L3) (hn : ((L1 ++ L2) ++ L3).length ≤ 40000) :
    Calls Try.prog 47 #[.slice (some ⟨vb, 0, none⟩) 3 3] w fun e w' => ∃ v, e = .returned v ∧ NL w' w.heap.size v ((L1 ++ L2) ++ L3) ∧ Below w.heap.size w w' := by
  refine (Concat_is vb 3 (fun i => if i = 0 then v1 else if i = 1 then v2 else v3) (fun i => if i = 0 then L1 else if i = 1 then L2 else L3) X w (by decide) kv.lt ?_ ?_ (by show ((([] ++ L1) ++ L2) ++ L3).length ≤ _; rw [List.nil_append]; exact hn)).mono ?_
  · intro i hi
    rcases (show i = 0 ∨ i = 1 ∨ i = 2 by omega) with rfl | rfl | rfl
    · exact kv.cell 0
    · exact kv.cell 1
    · exact kv.cell 2
  · intro i hi
    rcases (show i = 0 ∨ i = 1 ∨ i = 2 by omega) with rfl | rfl | rfl
    · exact h1
    · exact h2
    · exact h3
  · rintro e w' ⟨v, rfl, nl, hb⟩
    exact ⟨v, rfl, by have e : catN (fun i => if i = 0 then L1 else if i = 1 then L2 else L3) 3 = (L1 ++ L2) ++ L3 := by (show (([] ++ L1) ++ L2) ++ L3 = _; rw [List.nil_append])
                      rwa [e] at nl, hb⟩
/-- what a step writes -/
structure FrL (lb t : Nat) (S S' : TS) (w w' : World) : Prop where
  out : OutL [lb, t, S.nb, S.fb] w w'
  nb : S'.nb = S.nb ∨ w.heap.size ≤ S'.nb
  fb : S'.fb = S.fb ∨ w.heap.size ≤ S'.fb
theorem FrL.ofFr {lb t : Nat} {S S' : TS} {w w' : World} (h : Fr t S S' w w') : FrL lb t S S' w w' := ⟨h.out.mono fun k _ hk => List.mem_cons_of_mem _ hk, h.nb, h.fb⟩
theorem FrL.ofBelow {lb t : Nat} {S : TS} {w w' : World} (h : Below w.heap.size w w') : FrL lb t S S w w' := ⟨.ofBelow h, .inl rfl, .inl rfl⟩
theorem FrL.ofOut {lb t : Nat} {S : TS} {w w' : World} (h : OutL [lb] w w') : FrL lb t S S w w' := ⟨h.mono fun k _ hk => by simp at hk; simp [hk], .inl rfl, .inl rfl⟩
theorem FrL.trans {lb t : Nat} {S S1 S2 : TS} {w w1 w2 : World} (h : FrL lb t S S1 w w1) (k : FrL lb t S1 S2 w1 w2) : FrL lb t S S2 w w2 := by
  have hs := h.out.size
  refine ⟨⟨k.out.os.trans h.out.os, k.out.tape.trans h.out.tape, k.out.output.trans h.out.output, Nat.le_trans h.out.size k.out.size, fun b hb hc => ?_⟩, ?_, ?_⟩
  · simp only [List.mem_cons, List.not_mem_nil, or_false, not_or] at hc
    obtain ⟨c0, c1, c2, c3⟩ := hc
    refine (k.out.block b (by omega) ?_).trans (h.out.block b hb (by simp [c0, c1, c2, c3]))
    simp only [List.mem_cons, List.not_mem_nil, or_false, not_or]
    refine ⟨c0, c1, ?_, ?_⟩
    · rcases h.nb with e | e
      · rw [e]; exact c2
      · omega
    · rcases h.fb with e | e
      · rw [e]; exact c3
      · omega
  · rcases k.nb with e | e
    · rw [e]; exact h.nb
    · right; omega
  · rcases k.fb with e | e
    · rw [e]; exact h.fb
    · right; omega
theorem FrL.new {lb t b : Nat} {S S' : TS} {w w1 w2 : World} (h : FrL lb t S S' w w1) (k : OutL [b] w1 w2) (hb : w.heap.size ≤ b) : FrL lb t S S' w w2 := by
  have hs := h.out.size
  exact ⟨⟨k.os.trans h.out.os, k.tape.trans h.out.tape, k.output.trans h.out.output, Nat.le_trans h.out.size k.size, fun g hg hc => (k.block g (by omega) (by simp; omega)).trans (h.out.block g hg hc)⟩, h.nb, h.fb⟩
theorem NL.keep {w w' : World} {base b : Nat} {v : Value} {L : List Nat} (h : NL w base v L) (ho : OutL [b] w w') (hb : b < base) : NL w' base v L := by
  refine ⟨h.1, h.2.imp id ?_⟩
  rintro ⟨g, cap, cur, rfl, hbg, hg, r⟩
  exact ⟨g, cap, cur, rfl, hbg, (ho.block _ (Array.getElem?_eq_some_iff.1 hg).1 (by simp; omega)).trans hg, r⟩
theorem Sv.ns2 {w : World} {X : Nat → Prop} {a : Option Addr} {k n : Nat} {L : List Nat} (h : Sv w X (.slice a n k) L) : Ns w a k L ∧ n = L.length := by
  obtain ⟨a', k', e, hns, _⟩ := h.ns
  injection e with e1 e2 e3
  subst e1 e2 e3
  exact ⟨hns, rfl⟩
theorem Lin.line {w w' : World} {X : Nat → Prop} {lb t : Nat} {S : TS} {T : Tr} {q : Nat} {sa : Option Addr} {m sq : Nat} {Q : List Int} {sts st sts' st' : List Nat} {sv av : Value} (h : Lin w X lb t S T q sa m sq Q sts st) (ho : OutL [lb] w w') (hb : Blk w' lb #[.slice sa m sq, ptr t 0, sv, av] 59) (h1 : Sv w' (Lx X lb t S) sv sts') (h2 : Sv w' (Lx X lb t S) av st') : Lin w' X lb t S T q sa m sq Q sts' st' := by
  obtain ⟨l1, l2, l3⟩ := h.que.lts
  obtain ⟨s1, s2, s3⟩ := h.sep
  exact ⟨⟨sv, av, hb, h1, h2⟩, h.que.turn ho.size (ho.block t l1 (by simp [s1.symm])) (ho.block S.nb l2 (by simp [s2.symm])) (ho.block S.fb l3 (by simp [s3.symm])), h.sep, h.xs⟩
set_option maxRecDepth 100000 in
set_option maxHeartbeats 4000000 in
theorem step_is (lb t : Nat) (p : Int) (sa : Option Addr) (m sq : Nat) (A : Nat → Nat → Int) (X : Nat → Prop) (S : TS) (T : Tr) (q : Nat) (Q : List Int) (sts st : List Nat) (w : World)
    (h : Lin w X lb t S T q sa m sq Q sts st) (hs : Sgs w sa m sq A) (hm : All m st) (hm2 : All m sts) (hnn : st.length + sts.length ≤ 4096) (hq : q + 1 < 100000) (hX : ∀ g, w.heap.size ≤ g → X g) (hsx : ∀ g o s, 0 < m → sa = some ⟨g, o, s⟩ → g < w.heap.size ∧ ¬ X g)
    (f u k : Nat) (on nx st2 : List Nat) (hf : bnd A p st 0 = f) (hu : bnd A p st (-1) = u) (hk : bgn A p sts = k) (hon : cut st f u ++ sts.take k = on) (hnx : msort (ltS A) (on.filter (gon A p)) = nx) (hst : (st.take f ++ nx) ++ st.drop u = st2) :
    Calls Try.prog 19 #[ptr lb 0, pK p] w fun e w' => ∃ v S' T' q' B2, e = .returned (.agg (evC p v)) ∧ w.heap.size ≤ B2 ∧ NL w' B2 v (msort ltI on) ∧ q' ≤ q + 2 ∧ Lin w' (fun g => X g ∧ g < B2) lb t S' T' q' sa m sq (quL A p Q st2 f nx.length) (sts.drop k) st2 ∧ FrL lb t S S' w w' := by
 obtain ⟨Y, hY1, hY2, hY3⟩ : ∃ Y : Nat → Prop, (∀ g, w.heap.size + 2 ≤ g → Y g) ∧ (∀ g, Y g → X g ∧ g ≠ w.heap.size ∧ g ≠ w.heap.size + 1) ∧ (∀ g, g < w.heap.size → X g → Y g) :=
  ⟨fun g => X g ∧ g ≠ w.heap.size ∧ g ≠ w.heap.size + 1, fun g hg => ⟨hX g (by omega), by omega, by omega⟩, fun g hg => hg, fun g hg hx => ⟨hx, by omega, by omega⟩⟩
 have hx0 := h.xs.1
 replace h : Lin w Y lb t S T q sa m sq Q sts st := h.turn (Nat.le_refl _) fun g hg hx => ⟨hY3 g hg hx, rfl⟩
 obtain ⟨sv, av, hblk, hsv, hav⟩ := h.row
 obtain ⟨ao, cap, hav2, hns, _⟩ := hav.ns
 obtain ⟨n, hn0⟩ : ∃ n, st.length = n := ⟨_, rfl⟩
 obtain ⟨n2, hn2⟩ : ∃ n, sts.length = n := ⟨_, rfl⟩
 have hfu : f ≤ u ∧ u ≤ n := by rw [← hf, ← hu, ← hn0]; exact bnd_le A p st
 have hkn : k ≤ n2 := by rw [← hk, ← hn2]; exact tw_le _ _
 have ll_ := hblk.lt
 have hnm : n ≤ 4096 ∧ n2 ≤ 4096 := by omega
 have hol : on.length ≤ 4096 := by rw [← hon, List.length_append, List.length_take]; have := cut_le st f u; omega
 have HNO2 : Hid (on.length ≤ (u - f) + n2 ∧ n + n2 ≤ 4096) := Lib.hid ⟨by rw [← hon, List.length_append, List.length_take]; have := cut_le st f u; omega, by omega⟩
 have HMO : Hid (All m on) := Lib.hid (by
  rw [← hon]; intro z hz
  rcases List.mem_append.1 hz with hz | hz
  ·exact hm z (cut_mem hz)
  ·exact hm2 z (List.mem_of_mem_take hz))
 rw [hn0] at hav2
 have hlts := h.que.lts
 have HXL : Hid (∀ g, Lx Y lb t S g → g ≠ lb) := Lib.hid fun g hg => hg.2.1
 have HAV := Lib.hid hav2; have HL0 := Lib.hid h; have HS0 := Lib.hid hs; have HM := Lib.hid hm; have HM2 := Lib.hid hm2; have HB0 := Lib.hid hblk; have HSV := Lib.hid hsv; have HSA := Lib.hid hav; have HNS := Lib.hid hns
 have HF := Lib.hid (And.intro hf (And.intro hu (And.intro hk (And.intro hon (And.intro hnx hst)))))
 have HN0 := Lib.hid hn0; have HN2 := Lib.hid hn2; have HY1 := Lib.hid hY1; have HY2 := Lib.hid hY2; have HSX := Lib.hid hsx; have HNO := Lib.hid hol; clear h hs hm hm2 hblk hsv hav hns hf hu hk hon hnx hst hav2 hn0 hn2 hX hY1 hY2 hY3 hsx hol hnn
 go_enter Try.func19, Try.ntmps19
 go_wp2_with fail
 refine calls_w ?_
 intro V hV
 have kb : Blk V w.heap.size (pS12 p) 36 := by rw [hV]; exact (Blk.new w _ _).of (below_a1 _ _)
 have ke : Blk V (w.heap.size + 1) #[.int .u64 0, .int .u64 0, .int .u64 0, .int .u64 0, .int .u64 0, .int .u64 0, .int .u64 0, .int .u64 0, .int .u64 0, .int .u64 0, .int .u64 0, .int .u64 0, .slice none 0 0] 39 := by rw [hV]; have := Blk.new (w.alloc (.cells (pS12 p) 36)) #[.int .u64 0, .int .u64 0, .int .u64 0, .int .u64 0, .int .u64 0, .int .u64 0, .int .u64 0, .int .u64 0, .int .u64 0, .int .u64 0, .int .u64 0, .int .u64 0, .slice none 0 0] 39; rwa [World.size_alloc] at this
 have hbV : Below w.heap.size w V := by rw [hV]; exact below_a2 _ _ _
 have KB := Lib.hid kb; have KE := Lib.hid ke; clear hV kb ke
 refine (bounds_is lb p sa m sq (ptr t 0) sv A ao cap n st HN0.out f u HF.out.1 HF.out.2.1 V ⟨by rw [← HAV.out]; exact HB0.out.of hbV⟩ (HS0.out.of hbV) (HNS.out.of hbV) HM.out hnm.1).mono ?_
 rintro e w1 ⟨rfl, hb1⟩
 have hbw := hbV.trans (hb1.mono hbV.size)
 have KB1 := Lib.hid (KB.out.of hb1)
 have KE1 := Lib.hid (KE.out.of hb1)
 have HB1 := Lib.hid (HB0.out.of hbw)
 have HL1 := Lib.hid (HL0.out.of hbw)
 have HS1 := Lib.hid (HS0.out.of hbw)
 have HSV1 := Lib.hid (HSV.out.of hbw)
 have HSA1 := Lib.hid (HSA.out.of hbw)
 clear KB KE hb1 HB0 HSV HNS HS0 HL0
 go_wp2_with fail
 obtain ⟨v1, e1, sv1⟩ := HSA1.out.slice (a := f) (b := u) hfu.1 (by rw [HN0.out]; exact hfu.2)
 obtain ⟨a1, k1, hv1, _, _⟩ := sv1.ns
 obtain ⟨l1, hl1⟩ : ∃ l, (cut st f u).length = l := ⟨_, rfl⟩
 rw [hl1] at hv1
 subst hv1; clear hl1; have SV1 := Lib.hid sv1; have c3 : w1.cell? ⟨lb, 3, none⟩ = _ := HB1.out.cell 3
 simp only [List.getElem?_toArray, List.getElem?_cons_zero, List.getElem?_cons_succ] at c3
 have kbr := KB1.out; obtain ⟨cz0, cz1, cz2, cz3, cz4, cz5, cz6, cz7, cz8, cz9, cz10, cz11⟩ := cel12 kbr; have lcz := kbr.lt; have ll1 := HB1.out.lt
 have hne : w.heap.size ≠ lb := by omega
 have hbd : Below w1.heap.size w1 w1.drew := (Below.refl _ _).drew
 clear kbr sv1
 refine wp_region_upc [lb] [(lb,3)] 10 [(true, 0), (true, 1), (true, 2), (true, 3), (true, 4), (true, 5), (true, 6), (true, 7), (true, 8), (false, 9)] (by kernel_rfl) (by kernel_rfl) (fun _ _ d _ _ h => by cases d <;> exact h) ?_
 have hb : OutC [lb] [(lb,3)] w1 w1.drew := (OutC.refl _ _ _).drew
 iterate 9
  first | refine wpS_takeL rfl rfl ?_ | refine wpS_takeN rfl ⟨_, rfl⟩ ?_
  go_big_quiet_step (rfl)
  refine wpQuiet_nil ?_
 refine wpS_doL rfl ?_
 intro K hK
 go_wp2_with (go_at_call 48; (with_reducible refine (begin_is lb p sa m sq (ptr t 0) sv av A (Lx Y lb t S) HXL.out n2 sts HN2.out k HF.out.2.2.1 _ (HB1.out.of hbd) (HS1.out.of hbd) (HSV1.out.of hbd) HM2.out hnm.2).mono ?_); rintro e w4 ⟨v2, v3, rfl, sv2, sv3, hb4, ho4⟩; obtain ⟨a2, k2, hv2, _, _⟩ := sv2.ns; obtain ⟨l2, hl2⟩ : ∃ l, (sts.take k).length = l := ⟨_, rfl⟩; rw [hl2] at hv2; subst hv2; clear hl2; have hn : OutC [lb] [(lb, 3)] w1.drew w4 := ⟨ho4, fun q hq => by obtain rfl : q = (lb, 3) := (by simpa using hq); exact (hb4.cell 3).trans ((HB1.out.of hbd).cell 3).symm⟩)
 replace hb := hb.trans hn
 refine hK.out _ _ (upc hb) ?_
 clear hK K; clear hn
 refine wpS_nil ?_
 simp only [List.drop_succ_cons, List.drop_zero]
 clear c3 cz0 cz1 cz2 cz3 cz4 cz5 cz6 cz7 cz8 cz9 cz10 cz11 e1; have hs14 : OutL [lb] w1 w4 := hb.1
 have hne1 : w.heap.size + 1 ≠ lb := by omega
 have SV2 := Lib.hid sv2
 have SV1b := Lib.hid (SV1.out.turn hs14.size fun g hg hx => ⟨hx, hs14.block g hg (by simp [HXL.out g hx])⟩)
 have HSA4 := Lib.hid (HSA1.out.turn hs14.size fun g hg hx => ⟨hx, hs14.block g hg (by simp [HXL.out g hx])⟩)
 have KB4 := Lib.hid (KB1.out.turn (hs14.block _ lcz (by simp [hne])))
 have KE4 := Lib.hid (KE1.out.turn (hs14.block _ KE1.out.lt (by simp [hne1])))
 have HS4 := Lib.hid (HS1.out.turn hs14.size fun g o s h0 e => hs14.block g (by have := (HSX.out g o s h0 e).1; have := hbw.size; omega) (by have h2 := (HSX.out g o s h0 e).2; simp; intro e; subst e; exact h2 hx0))
 have HL4 := Lib.hid (HL1.out.line hs14 hb4 sv3 HSA4.out)
 have HB4 := Lib.hid hb4; have hsz4 := hs14.size
 have hF4 : FrL lb t S S w w4 := (FrL.ofBelow hbw).trans (.ofOut hs14)
 have HF4 := Lib.hid hF4; have hszw := hbw.size; have hszV := KE1.out.lt; clear sv2 sv3 hb4 ho4 hb hs14 SV1 KB1 KE1 HS1 HL1 HB1 HSV1 HSA1 hF4 hbw hbV hbd
 go_wp2_with fail
 refine calls_w ?_
 intro w5 hw5
 have kv : Blk w5 w4.heap.size #[.slice a1 l1 k1, .slice a2 l2 k2] 37 := by rw [hw5]; exact Blk.new _ _ _
 have hb5 : Below w4.heap.size w4 w5 := by rw [hw5]; exact below_a1 _ _
 have KV := Lib.hid kv; clear hw5 kv
 refine (Concat2_is w4.heap.size _ _ (cut st f u) (sts.take k) (Lx Y lb t S) w5 KV.out (SV1b.out.of hb5) (SV2.out.of hb5) (by rw [HF.out.2.2.2.1]; have := HNO.out; omega)).mono ?_
 rintro e w6 ⟨v6, rfl, nl6, hb6⟩
 rw [HF.out.2.2.2.1] at nl6
 have hb46 := hb5.trans (hb6.mono hb5.size)
 obtain ⟨a6, k6, rfl, ns6⟩ := Ns.ofNL nl6
 have NS6 := Lib.hid ns6
 have SV6 : Hid (Sv w6 (Lx Y lb t S) (.slice a6 on.length k6) on) := Lib.hid (Sv.ofNL nl6 fun g hg => by
  have h0 := hlts; have h1 : w4.heap.size ≤ g := Nat.le_trans hb5.size hg
  exact ⟨HY1.out g (by omega), by omega, by omega, by omega, by omega⟩)
 have KB6 := Lib.hid (KB4.out.of hb46)
 have KE6 := Lib.hid (KE4.out.of hb46)
 have HS6 := Lib.hid (HS4.out.of hb46)
 have HL6 := Lib.hid (HL4.out.of hb46)
 have HB6 := Lib.hid (HB4.out.of hb46)
 have HSA6 := Lib.hid (HSA4.out.of hb46)
 have HF6 := Lib.hid (HF4.out.trans (.ofBelow hb46))
 have hsz6 := hb46.size; clear nl6 ns6 hb5 hb6 hb46 KV SV1b SV2 KB4 KE4 HS4 HL4 HB4 HSA4 HF4
 go_wp2_with fail
 have c0 : w6.cell? ⟨lb, 0, none⟩ = _ := HB6.out.cell 0
 simp only [List.getElem?_toArray, List.getElem?_cons_zero] at c0
 have kbr := KB6.out; obtain ⟨cz0, cz1, cz2, cz3, cz4, cz5, cz6, cz7, cz8, cz9, cz10, cz11⟩ := cel12 kbr; have lcz := kbr.lt; have ll6 := HB6.out.lt; clear kbr
 refine wp_region_up w6.heap.size 6 [(true, 0), (true, 1), (true, 2), (true, 3), (true, 4), (true, 5)] (by kernel_rfl) (by kernel_rfl) (fun _ _ d _ _ h => by cases d <;> exact h) ?_
 have hb : Below w6.heap.size w6 w6.drew := (Below.refl _ _).drew
 iterate 6
  first | refine wpS_takeL rfl rfl ?_ | refine wpS_takeN rfl ⟨_, rfl⟩ ?_
  go_big_quiet_step (rfl)
  refine wpQuiet_nil ?_
 refine wpS_nil ?_
 simp only [List.drop_succ_cons, List.drop_zero]
 clear c0 cz0 cz1 cz2 cz3 cz4 cz5 cz6 cz7 cz8 cz9 cz10 cz11
 go_wp2_with fail
 refine (goes_is p sa m sq A a6 k6 on.length on rfl _ (HS6.out.of hb) (NS6.out.of hb) HMO.out HNO.out).mono ?_
 rintro e w7 ⟨v7, rfl, nl7, hmm7, hll7, hb7⟩
 rw [HF.out.2.2.2.2.1] at nl7 hmm7 hll7
 have hb67 := hb.trans (hb7.mono hb.size)
 obtain ⟨a7, k7, hv7, _⟩ := Ns.ofNL nl7
 obtain ⟨n7, hn7⟩ : ∃ r, nx.length = r := ⟨_, rfl⟩
 rw [hn7] at hv7
 subst hv7
 have SV7 : Hid (Sv w7 (Lx Y lb t S) (.slice a7 n7 k7) nx) := Lib.hid (Sv.ofNL nl7 fun g hg => by
  have h0 := hlts; have h1 : w6.heap.size ≤ g := Nat.le_trans hb.size hg; have h2 := HF6.out.out.size
  exact ⟨HY1.out g (by omega), by omega, by omega, by omega, by omega⟩)
 have HMN : Hid (All m nx) := Lib.hid fun z hz => HMO.out z ((List.mem_filter.1 ((hmm7 z).1 hz)).1)
 have hn7l : n7 ≤ on.length := by rw [← hn7, hll7]; exact List.length_filter_le _ _
 have HN7 := Lib.hid hn7
 have HN2B : Hid (st2.length ≤ 4096) := Lib.hid (by
  rw [← HF.out.2.2.2.2.2, List.length_append, List.length_append, List.length_take, List.length_drop, HN7.out, HN0.out]
  have := HNO2.out
  omega)
 have SV67 := Lib.hid (SV6.out.of hb67)
 have KB7 := Lib.hid (KB6.out.of hb67)
 have KE7 := Lib.hid (KE6.out.of hb67)
 have HS7 := Lib.hid (HS6.out.of hb67)
 have HL7 := Lib.hid (HL6.out.of hb67)
 have HB7 := Lib.hid (HB6.out.of hb67)
 have HSA7 := Lib.hid (HSA6.out.of hb67)
 have HF7 := Lib.hid (HF6.out.trans (.ofBelow hb67))
 have hsz7 := hb67.size; clear nl7 hmm7 hll7 hn7 hb hb7 hb67 NS6 SV6 KB6 KE6 HS6 HL6 HB6 HSA6 HF6 lcz
 go_wp2_with fail
 obtain ⟨v41, e41, sv41⟩ := HSA7.out.take (b := f) (by rw [HN0.out]; omega)
 obtain ⟨v42, e42, sv42⟩ := HSA7.out.drop (a := u) (by rw [HN0.out]; omega)
 obtain ⟨a41, k41, hv41, _, _⟩ := sv41.ns
 obtain ⟨a42, k42, hv42, _, _⟩ := sv42.ns
 obtain ⟨l41, hl41⟩ : ∃ l, (st.take f).length = l := ⟨_, rfl⟩
 obtain ⟨l42, hl42⟩ : ∃ l, (st.drop u).length = l := ⟨_, rfl⟩
 rw [hl41] at hv41
 rw [hl42] at hv42
 subst hv41 hv42; clear hl41 hl42; have SV41 := Lib.hid sv41; have SV42 := Lib.hid sv42; have c3 : w7.cell? ⟨lb, 3, none⟩ = _ := HB7.out.cell 3
 simp only [List.getElem?_toArray, List.getElem?_cons_zero, List.getElem?_cons_succ] at c3
 have ll7 := HB7.out.lt; clear sv41 sv42
 refine wp_region_up w7.heap.size 16 [(true, 0), (true, 1), (true, 2), (true, 3), (true, 4), (true, 5), (true, 6), (true, 7), (true, 8), (true, 9), (true, 10), (true, 11), (true, 12), (true, 13), (false, 14), (false, 15)] (by kernel_rfl) (by kernel_rfl) (fun _ _ d _ _ h => by cases d <;> exact h) ?_
 have hb : Below w7.heap.size w7 w7.drew := (Below.refl _ _).drew
 iterate 14
  first | refine wpS_takeL rfl rfl ?_ | refine wpS_takeN rfl ⟨_, rfl⟩ ?_
  go_big_quiet_step (rfl)
  refine wpQuiet_nil ?_
 refine wpS_doL rfl ?_
 intro K hK
 go_wp2_with (go_at_call 47; (with_reducible refine (Concat3_is w7.heap.size _ _ _ (st.take f) nx (st.drop u) (Lx Y lb t S) w8 KV8.out.1 (SV41.out.of hb) (SV7.out.of hb) (SV42.out.of hb) (by rw [HF.out.2.2.2.2.2]; have := HN2B.out; omega)).mono ?_); rintro e w9 ⟨v9, rfl, nl9, hn⟩; rw [HF.out.2.2.2.2.2] at nl9; obtain ⟨a9, k9, rfl, ns9⟩ := Ns.ofNL nl9)
 refine name_Kw ?_; intro w8 hw8; have kv8 : Blk w8 w7.heap.size #[.slice a41 l41 k41, .slice a7 n7 k7, .slice a42 l42 k42] 37 := (by rw [hw8]; exact (Blk.new w7 _ _).of (Below.refl _ _).drew); have h0 : Below w7.heap.size w7 w8 := (by rw [hw8]; exact ((Below.refl w7.heap.size w7).alloc (Nat.le_refl _) _).drew); have hn : Below w7.drew.heap.size w7.drew w8 := ⟨h0.os, h0.tape, h0.output, h0.size, fun g hg => h0.block g hg⟩; have KV8 := Lib.hid (And.intro kv8 hn); clear hw8 kv8
 replace hb := hb.trans (hn.mono hb.size)
 refine hK.out _ _ (up_iff.2 hb) ?_
 clear hK K; clear hn
 refine wpS_doL rfl ?_
 intro K hK
 go_wp2_with (go_at_call 47; (with_reducible refine (Concat3_is w7.heap.size _ _ _ (st.take f) nx (st.drop u) (Lx Y lb t S) w8 KV8.out.1 (SV41.out.of hb) (SV7.out.of hb) (SV42.out.of hb) (by rw [HF.out.2.2.2.2.2]; have := HN2B.out; omega)).mono ?_); rintro e w9 ⟨v9, rfl, nl9, hn⟩; rw [HF.out.2.2.2.2.2] at nl9; obtain ⟨a9, k9, rfl, ns9⟩ := Ns.ofNL nl9)
 replace hb := hb.trans (hn.mono hb.size)
 refine hK.out _ _ (up_iff.2 hb) ?_
 clear hK K; clear hn
 refine wpS_nil ?_
 simp only [List.drop_succ_cons, List.drop_zero]
 have SV9 : Hid (Sv w9 (Lx Y lb t S) (.slice a9 st2.length k9) st2) := Lib.hid (Sv.ofNL nl9 fun g hg => by
  have h0 := hlts; have h1 : w7.heap.size ≤ w8.heap.size := KV8.out.2.size
  exact ⟨HY1.out g (by omega), by omega, by omega, by omega, by omega⟩)
 have SV69 := Lib.hid (SV67.out.of hb)
 have KB9 := Lib.hid (KB7.out.of hb)
 have KE9 := Lib.hid (KE7.out.of hb)
 have HS9 := Lib.hid (HS7.out.of hb)
 have HL9 := Lib.hid (HL7.out.of hb)
 have HB9 := Lib.hid (HB7.out.of hb)
 have HF9 := Lib.hid (HF7.out.trans (.ofBelow hb))
 have hsz9 := hb.size
 have HMS : Hid (All m st2) := Lib.hid (by
  rw [← HF.out.2.2.2.2.2]; intro z hz
  rcases List.mem_append.1 hz with hz | hz
  ·rcases List.mem_append.1 hz with hz | hz
   ·exact HM.out z (List.mem_of_mem_take hz)
   ·exact HMN.out z hz
  ·exact HM.out z (List.mem_of_mem_drop hz))
 have HN2C : Hid (f + n7 ≤ st2.length) := Lib.hid (by
  rw [← HF.out.2.2.2.2.2, List.length_append, List.length_append, List.length_take, HN7.out, HN0.out]
  have := hfu
  omega)
 clear nl9 ns9 hb c3 e41 e42 SV41 SV42 SV7 KV8 SV67 KB7 KE7 HS7 HL7 HB7 HSA7 HF7 ll7; have c39 : w9.cell? ⟨lb, 3, none⟩ = _ := HB9.out.cell 3
 simp only [List.getElem?_toArray, List.getElem?_cons_zero, List.getElem?_cons_succ] at c39
 have fz9 := HB9.out.free 3; have ll9 := HB9.out.lt; have kbr := KB9.out; obtain ⟨cz0, cz1, cz2, cz3, cz4, cz5, cz6, cz7, cz8, cz9, cz10, cz11⟩ := cel12 kbr; have lcz := kbr.lt
 have hne2 : lb ≠ w.heap.size := by omega
 clear kbr
 have hw1 : wrap64 ((f : Int) - 1) = (f : Int) - 1 := wrap64_id (by unfold In64; omega)
 have HW1 := Lib.hid hw1
 go_wp2_with fail
 refine calls_w ?_
 intro w10 hw10
 clear hw1
 obtain ⟨sv', av', hblk', h1', h2'⟩ := HL9.out.row
 have ho10 : OutL [lb] w9 w10 := by rw [hw10]; exact (OutL.refl _ _).set (by simp) 3 none _
 have hb10 : Blk w10 lb #[.slice sa m sq, ptr t 0, sv', .slice a9 st2.length k9] 59 := by rw [hw10]; exact hblk'.put 3 _
 have HL10 := Lib.hid (HL9.out.line ho10 hb10 (h1'.turn ho10.size fun g hg hx => ⟨hx, ho10.block g hg (by simp [HXL.out g hx])⟩) (SV9.out.turn ho10.size fun g hg hx => ⟨hx, ho10.block g hg (by simp [HXL.out g hx])⟩))
 have SV610 := Lib.hid (SV69.out.turn ho10.size fun g hg hx => ⟨hx, ho10.block g hg (by simp [HXL.out g hx])⟩)
 have KB10 := Lib.hid (KB9.out.turn (ho10.block _ lcz (by simp [hne])))
 have KE10 := Lib.hid (KE9.out.turn (ho10.block _ KE9.out.lt (by simp [hne1])))
 have HS10 := Lib.hid (HS9.out.turn ho10.size fun g o s h0 e => ho10.block g (by have := (HSX.out g o s h0 e).1; omega) (by have h2 := (HSX.out g o s h0 e).2; simp; intro e; subst e; exact h2 hx0))
 have HF10 := Lib.hid (HF9.out.trans (.ofOut ho10))
 have hsz10 := ho10.size; clear hw10 hblk' h1' h2' hb10 ho10 c39 fz9 ll9 cz0 cz1 cz2 cz3 cz4 cz5 cz6 cz7 cz8 cz9 cz10 cz11 lcz HL9 SV9 SV69 KB9 KE9 HS9 HB9 HF9
 refine (look_is lb t ((f : Int) - 1) f p sa m sq A Y S T q Q (sts.drop k) st2 w10 HL10.out HS10.out HMS.out HN2B.out (by omega) (by have := HN2C.out; omega) (by omega) (by omega) (fun g hg => HY1.out g (by omega))).mono ?_
 rintro e w11 ⟨⟨vv, rfl⟩, S1, T1, q1, hq1, hl1, hF1⟩
 have hnt : w.heap.size ∉ [t, S.nb, S.fb] ∧ w.heap.size + 1 ∉ [t, S.nb, S.fb] := by have := hlts; simp; omega
 have KB11 := Lib.hid (KB10.out.turn (hF1.out.block _ KB10.out.lt hnt.1))
 have KE11 := Lib.hid (KE10.out.turn (hF1.out.block _ KE10.out.lt hnt.2))
 have SV611 := Lib.hid (SV610.out.turn hF1.out.size fun g hg hx => hx.frame hF1 hg)
 have HS11 := Lib.hid (HS10.out.turn hF1.out.size fun g o s h0 e => hF1.out.block g (by have := (HSX.out g o s h0 e).1; omega) (by
  have h2 := (HSX.out g o s h0 e).2
  have h3 := HL10.out.xs
  intro hm
  simp only [List.mem_cons, List.not_mem_nil, or_false] at hm
  rcases hm with e | e | e
  ·subst e; exact h2 (HY2.out _ h3.2.1).1
  ·subst e; exact h2 (HY2.out _ h3.2.2.1).1
  ·subst e; exact h2 (HY2.out _ h3.2.2.2).1))
 have HF11 := Lib.hid (HF10.out.trans (.ofFr hF1))
 have HL11 := Lib.hid hl1; have hsz11 := hF1.out.size; have hlt11 := hl1.que.lts; clear hl1 hF1 HL10 SV610 KB10 KE10 HS10 HF10; have kbr := KB11.out; obtain ⟨cz0, cz1, cz2, cz3, cz4, cz5, cz6, cz7, cz8, cz9, cz10, cz11⟩ := cel12 kbr; have lcz := kbr.lt; clear kbr
 by_cases hnz : 0 < n7
 ·obtain ⟨g2, hg2⟩ : ∃ g2, f + n7 = g2 := ⟨_, rfl⟩
  have hg2b : g2 ≤ 4096 ∧ 1 ≤ g2 := by have := HN2C.out; have := HN2B.out; omega
  have HG2 := Lib.hid hg2
  have hg3 : (f : Int) + (n7 : Int) = (g2 : Int) := by omega
  have HG3 := Lib.hid hg3
  have hwi : In64 ((g2 : Int) - 1) ∧ In64 (g2 : Int) := by unfold In64; omega
  have hwb : wrap64 ((g2 : Int) - 1) = (g2 : Int) - 1 := wrap64_id hwi.1
  have hwa : wrap64 ((f : Int) + (n7 : Int)) = (g2 : Int) := by rw [hg3]; exact wrap64_id hwi.2
  have HWA := Lib.hid hwa; have HWB := Lib.hid hwb; clear hwi hwa hwb hg2 hg3
  go_wp2_with fail
  clear cz0 cz1 cz2 cz3 cz4 cz5 cz6 cz7 cz8 cz9 cz10 cz11 lcz
  rw [HWA.out, HWB.out]
  have hx11 : ∀ g, w11.heap.size ≤ g → Y g := fun g hg => HY1.out g (by omega)
  refine (look_is lb t ((g2 : Int) - 1) g2 p sa m sq A Y S1 T1 q1 _ (sts.drop k) st2 w11 HL11.out HS11.out HMS.out HN2B.out (by omega) (by have := HN2C.out; have := HG2.out; omega) (by omega) (by omega) hx11).mono ?_
  rintro e w12 ⟨⟨vv2, rfl⟩, S2, T2, q2, hq2, hl2, hF2⟩
  have hnt2 : w.heap.size ∉ [t, S1.nb, S1.fb] ∧ w.heap.size + 1 ∉ [t, S1.nb, S1.fb] := by
   have h3 := HL11.out.xs; have a1 := HY2.out _ h3.2.1; have a2 := HY2.out _ h3.2.2.1; have a3 := HY2.out _ h3.2.2.2
   simp only [List.mem_cons, List.not_mem_nil, or_false, not_or]
   exact ⟨⟨Ne.symm a1.2.1, Ne.symm a2.2.1, Ne.symm a3.2.1⟩, Ne.symm a1.2.2, Ne.symm a2.2.2, Ne.symm a3.2.2⟩
  have KB12 := Lib.hid (KB11.out.turn (hF2.out.block _ KB11.out.lt hnt2.1))
  have KE12 := Lib.hid (KE11.out.turn (hF2.out.block _ KE11.out.lt hnt2.2))
  have SV612 := Lib.hid (SV611.out.turn hF2.out.size fun g hg hx => hx.frame hF2 hg)
  have HF12 := Lib.hid (HF11.out.trans (.ofFr hF2))
  have hqu : Hid (quL A p Q st2 f nx.length = lkQ A st2 (lkQ A st2 Q ((f : Int) - 1) f p) ((g2 : Int) - 1) g2 p) := by
   unfold quL; rw [HN7.out, if_pos hnz, HG2.out, HG3.out]; exact Lib.hid rfl
  have HL12 : Hid (Lin w12 Y lb t S2 T2 q2 sa m sq (quL A p Q st2 f nx.length) (sts.drop k) st2) := by rw [hqu.out]; exact Lib.hid hl2
  have hsz12 := hF2.out.size; clear hl2 hF2 hqu HL11 SV611 KB11 KE11 HS11 HF11 hx11; have kbr := KB12.out; obtain ⟨cz0, cz1, cz2, cz3, cz4, cz5, cz6, cz7, cz8, cz9, cz10, cz11⟩ := cel12 kbr; have lcz := kbr.lt; clear kbr
  go_wp2_with fail
  refine wp_region_up w12.heap.size 3 [(true, 0), (true, 1), (false, 2)] (by kernel_rfl) (by kernel_rfl) (fun _ _ d _ _ h => by cases d <;> exact h) ?_
  have hb : Below w12.heap.size w12 w12.drew := (Below.refl _ _).drew
  iterate 2
   refine wpS_takeL rfl rfl ?_
   go_big_quiet_step (rfl)
   refine wpQuiet_nil ?_
  refine wpS_doL rfl ?_
  intro K hK
  go_wp2_with (go_at_call 39; (with_reducible refine (Sort_is a6 k6 on _ _ ltI m (ord_int _ m) HMO.out (SV612.out.ns2.1.of (Below.refl _ _).drew) (by have := HNO.out; omega)).mono ?_); rintro e w13 ⟨v13, rfl, nl13, _, _, hn⟩; obtain ⟨a13, k13, hv13, _⟩ := Ns.ofNL nl13; obtain ⟨l13, hl13⟩ : ∃ l, (msort ltI on).length = l := ⟨_, rfl⟩; rw [hl13] at hv13; subst hv13; clear hl13)
  replace hb := hb.trans (hn.mono hb.size)
  refine hK.out _ _ (up_iff.2 hb) ?_
  clear hK K; clear hn
  refine wpS_nil ?_
  simp only [List.drop_succ_cons, List.drop_zero]
  clear cz0 cz1 cz2 cz3 cz4 cz5 cz6 cz7 cz8 cz9 cz10 cz11 lcz; have kez := KE12.out.of hb; have hbz : w.heap.size + 1 < w12.heap.size := KE12.out.lt
  have HLF := Lib.hid ((HL12.out.turn (X' := fun g => Y g ∧ g < w12.heap.size) (Nat.le_refl _) fun g hg hy => ⟨⟨hy, hg⟩, rfl⟩).of hb)
  have HFF := Lib.hid (HF12.out.trans (.ofBelow hb))
  have HNF := Lib.hid nl13; clear nl13
  go_wp2_with (refine wpList_store_ev rfl _ _ rfl (w.heap.size + 1) p a13 l13 k13 rfl rfl kez rfl ?_; intro w14 ke14 ho14 hs14)
  (try simp only [Exit.inBlock, Exit.then])
  refine bodyPost_ret (results_cell_row rfl _ _ (w.heap.size + 1) _ _ (0, 0) _ rfl ke14 Try.underlying39 rfl (by kernel_rfl)) rfl ?_
  refine ⟨_, S2, T2, q2, w12.heap.size, rfl, by omega, HNF.out.keep ho14 (show w.heap.size + 1 < w12.drew.heap.size from hbz), by omega, ?_, HFF.out.new ho14 (by omega)⟩
  ·exact HLF.out.turn ho14.size fun g hg hy => ⟨⟨(HY2.out g hy.1).1, hy.2⟩, ho14.block g hg (by simp; exact (HY2.out g hy.1).2.2)⟩
 ·obtain rfl : n7 = 0 := by omega
  have hqu : Hid (quL A p Q st2 f nx.length = lkQ A st2 Q ((f : Int) - 1) f p) := by
   unfold quL; rw [HN7.out, if_neg hnz]; exact Lib.hid rfl
  have HL12 : Hid (Lin w11 Y lb t S1 T1 q1 sa m sq (quL A p Q st2 f nx.length) (sts.drop k) st2) := by rw [hqu.out]; exact HL11
  clear hqu HL11 HS11
  go_wp2_with fail
  refine wp_region_up w11.heap.size 3 [(true, 0), (true, 1), (false, 2)] (by kernel_rfl) (by kernel_rfl) (fun _ _ d _ _ h => by cases d <;> exact h) ?_
  have hb : Below w11.heap.size w11 w11.drew := (Below.refl _ _).drew
  iterate 2
   refine wpS_takeL rfl rfl ?_
   go_big_quiet_step (rfl)
   refine wpQuiet_nil ?_
  refine wpS_doL rfl ?_
  intro K hK
  go_wp2_with (go_at_call 39; (with_reducible refine (Sort_is a6 k6 on _ _ ltI m (ord_int _ m) HMO.out (SV611.out.ns2.1.of (Below.refl _ _).drew) (by have := HNO.out; omega)).mono ?_); rintro e w13 ⟨v13, rfl, nl13, _, _, hn⟩; obtain ⟨a13, k13, hv13, _⟩ := Ns.ofNL nl13; obtain ⟨l13, hl13⟩ : ∃ l, (msort ltI on).length = l := ⟨_, rfl⟩; rw [hl13] at hv13; subst hv13; clear hl13)
  replace hb := hb.trans (hn.mono hb.size)
  refine hK.out _ _ (up_iff.2 hb) ?_
  clear hK K; clear hn
  refine wpS_nil ?_
  simp only [List.drop_succ_cons, List.drop_zero]
  clear cz0 cz1 cz2 cz3 cz4 cz5 cz6 cz7 cz8 cz9 cz10 cz11 lcz; have kez := KE11.out.of hb; have hbz : w.heap.size + 1 < w11.heap.size := KE11.out.lt
  have HLF := Lib.hid ((HL12.out.turn (X' := fun g => Y g ∧ g < w11.heap.size) (Nat.le_refl _) fun g hg hy => ⟨⟨hy, hg⟩, rfl⟩).of hb)
  have HFF := Lib.hid (HF11.out.trans (.ofBelow hb))
  have HNF := Lib.hid nl13; clear nl13
  go_wp2_with (refine wpList_store_ev rfl _ _ rfl (w.heap.size + 1) p a13 l13 k13 rfl rfl kez rfl ?_; intro w14 ke14 ho14 hs14)
  (try simp only [Exit.inBlock, Exit.then])
  refine bodyPost_ret (results_cell_row rfl _ _ (w.heap.size + 1) _ _ (0, 0) _ rfl ke14 Try.underlying39 rfl (by kernel_rfl)) rfl ?_
  refine ⟨_, S1, T1, q1, w11.heap.size, rfl, by omega, HNF.out.keep ho14 (show w.heap.size + 1 < w11.drew.heap.size from hbz), by omega, ?_, HFF.out.new ho14 (by omega)⟩
  ·exact HLF.out.turn ho14.size fun g hg hy => ⟨⟨(HY2.out g hy.1).1, hy.2⟩, ho14.block g hg (by simp; exact (HY2.out g hy.1).2.2)⟩
end Go.Proofs.Ytkaolhlmimalkaa

namespace Go.Proofs.Ytkaolhlmimalkaa
open Go.RowKit

/-- the places of the points -/
def pQ (X Y : Nat → Int) : Nat → List Int
  | 0 => []
  | k + 1 => qput (atK (X k) (Y k)) (pQ X Y k)
/-- the places of the segments' ends besides -/
def sQ (A : Nat → Nat → Int) (Q : List Int) : Nat → List Int
  | 0 => Q
  | k + 1 => qput (highK A k) (qput (lowK A k) (sQ A Q k))
theorem spK_at {x y : Int} (hx : In64 x) (hy : In64 y) (h : rp x y = true) : SpK (atK x y) := by
  have hh := h
  unfold rp inC at hh
  obtain ⟨a, b, c⟩ := cm_cd (atx_in x y hx hy) (aty_in x y hx hy) (atw_in x y hx hy)
  unfold SpK atK
  rw [a, b, c]
  unfold atx aty atw
  rw [h]
  simp only [cond_true]
  simp only [Bool.and_eq_true, decide_eq_true_eq] at hh
  exact ⟨by decide, by decide, by omega, by omega, by omega, by omega⟩
/-- one number more; it is told where the row lies then -/
theorem wpList_append_nl2 {w : World} {ops : Array Oper} {rest : List Oper} {o : Oper} {a : Act} {Q : Exit → Act → World → Prop} (hgd : o.guard = none) (s x : Operand)
    (ho : o.op = .call { callee := .builtin .append, args := #[s, x], argTypes := #[37, 37] })
    (base : Nat) (v : Value) (L : List Nat) (y : Nat) (vb : Nat) (hs : a.eval s = v) (hx : a.eval x = .slice (some ⟨vb, 0, none⟩) 1 1) (hb : Blk w vb #[.int .i64 (y : Nat)] 3)
    (hnl : NL w base v L) (hL : L.length < 100000) (hbase : base ≤ w.heap.size)
    (h : ∀ ao n cap w', NL w' base (.slice ao n cap) (L ++ [y]) → w.grownBy w' v.ownBlock → (∀ g', (Value.slice ao n cap).ownBlock = some g' → v.ownBlock = some g' ∨ w.heap.size ≤ g') → wpList Try.prog ops Q rest (a.put o.dst (.slice ao n cap)) w') : wpList Try.prog ops Q (o :: rest) a w := by
  obtain ⟨i0, hi, hz0, hz1, hz2⟩ := info_parts info_int
  refine wpList_append_lies w hgd s x 37 ho base 3 i0 (.int .i64 0) 1 8 Try.underlying37 hi hz0 hz1 hz2 rfl (by decide) v L.length _ hs hnl ⟨vb, 0, none⟩ 1 1 [.int .i64 y] hx rfl (int_src hb) (int_one _) (by unfold maxLen; omega) (by omega) hbase ?_
  intro v' w' own gr lies
  have hn : NL w' base v' (L ++ [y]) := by
    unfold NL
    rw [List.length_append, List.map_append]; exact own
  obtain ⟨ao, cap, rfl, _⟩ := hn.val
  exact h ao _ cap w' hn gr lies
theorem NL.turn {w w' : World} {base : Nat} {v : Value} {L : List Nat} (h : NL w base v L) (hx : ∀ g, v.ownBlock = some g → w'.heap[g]? = w.heap[g]?) : NL w' base v L := by
  refine ⟨h.1, h.2.imp id ?_⟩
  rintro ⟨g, cap, cur, rfl, hbg, hg, r⟩
  exact ⟨g, cap, cur, rfl, hbg, (hx g rfl).trans hg, r⟩
theorem Sv.empty {w w' : World} {X X' : Nat → Prop} {v : Value} (h : Sv w X v []) : Sv w' X' v [] := by
  rcases h with h | ⟨g, o, cap, e, h1, h2, _⟩
  · exact .inl h
  · exact .inr ⟨g, o, cap, e, h1, h2, fun h => absurd h (by simp)⟩
/-- a line of which nothing begins and nothing is crossed -/
theorem Lin.bare {w w' : World} {X : Nat → Prop} {lb t : Nat} {S : TS} {T : Tr} {q : Nat} {sa : Option Addr} {m sq : Nat} {Q : List Int} (h : Lin w X lb t S T q sa m sq Q [] []) (hs : w.heap.size ≤ w'.heap.size) (h0 : w'.heap[lb]? = w.heap[lb]?) (h1 : w'.heap[t]? = w.heap[t]?) (h2 : w'.heap[S.nb]? = w.heap[S.nb]?) (h3 : w'.heap[S.fb]? = w.heap[S.fb]?) : Lin w' X lb t S T q sa m sq Q [] [] := by
  obtain ⟨sv, av, a, b, c⟩ := h.row
  exact ⟨⟨sv, av, a.turn h0, b.empty, c.empty⟩, h.que.turn hs h1 h2 h3, h.sep, h.xs⟩
set_option maxRecDepth 100000 in
set_option maxHeartbeats 4000000 in
theorem begun_is (pa : Option Addr) (n pc : Nat) (Xp Yp : Nat → Int) (sa : Option Addr) (m sq : Nat) (A : Nat → Nat → Int) (w : World) (hp : Pns w pa n pc Xp Yp) (hs : Sgs w sa m sq A) (hnn : n ≤ 4096) (hm : m ≤ 4096) (hi : ∀ i, i < n → In64 (Xp i) ∧ In64 (Yp i)) (hsp : ∀ i, i < n → SpK (atK (Xp i) (Yp i))) (hlw : ∀ i, i < m → SpK (lowK A i) ∧ SpK (highK A i)) :
    Calls Try.prog 16 #[.slice pa n pc, .slice sa m sq] w fun e w' => ∃ lb t S T q, e = .returned (ptr lb 0) ∧ q ≤ n + 2 * m ∧ Lin w' (fun g => w.heap.size ≤ g) lb t S T q sa m sq (sQ A (pQ Xp Yp n) m) (msort (ltB A) (List.range m)) [] ∧ Below w.heap.size w w' := by
 have HP := Lib.hid hp; have HS := Lib.hid hs; have HI := Lib.hid hi; have HSP := Lib.hid hsp; have HLW := Lib.hid hlw; have hA := hs.i64; have hpl := hp.capl; have hpb := hp.capb; have hsl := hs.capl; have hsb := hs.capb; clear hp hs hi hsp hlw
 go_enter Try.func16, Try.ntmps16
 go_wp2_with fail
 refine name_world ?_
 intro V hV
 have kb : Blk V w.heap.size #[.slice sa m sq] 23 := by rw [hV]; exact Blk.new _ _ _
 have hbV : Below w.heap.size w V := by rw [hV]; exact below_a1 _ _
 have KB := Lib.hid kb; have hVs : w.heap.size ≤ V.heap.size := hbV.size; have c0 : V.cell? ⟨w.heap.size, 0, none⟩ = _ := kb.cell 0
 simp only [List.getElem?_toArray, List.getElem?_cons_zero] at c0
 have lk := kb.lt; clear hV kb
 refine wp_region_up V.heap.size 2 [(true, 0), (false, 1)] (by kernel_rfl) (by kernel_rfl) (fun _ _ d _ _ h => by cases d <;> exact h) ?_
 have hb : Below V.heap.size V V.drew := (Below.refl _ _).drew
 refine wpS_takeL rfl rfl ?_
 go_big_quiet_step (rfl)
 refine wpQuiet_nil ?_
 refine wpS_doL rfl ?_
 intro K hK
 go_wp2_with (go_at_call 35; (refine (Que_new _).mono ?_); rintro e w1 ⟨t, S0, rfl, hq0, ht0, hnb0, hfb0, hn⟩)
 replace hb := hb.trans (hn.mono hb.size)
 refine hK.out _ _ (up_iff.2 hb) ?_
 clear hK K; clear hn
 refine wpS_nil ?_
 simp only [List.drop_succ_cons, List.drop_zero]
 have hvd : V.drew.heap.size = V.heap.size := rfl
 rw [hvd] at ht0 hnb0 hfb0
 have hlt0 := hq0.lts
 have hb1 := hbV.trans (hb.mono hVs)
 have HQ0 := Lib.hid hq0
 have KB1 := Lib.hid (KB.out.of hb)
 clear hq0 hb hbV KB c0; have hs1 := hb1.size
 go_wp2_with fail
 refine name_world ?_
 intro W hW
 have kl : Blk W w1.heap.size #[.slice sa m sq, ptr t 0, .slice none 0 0, .slice none 0 0] 59 := by rw [hW]; exact Blk.new _ _ _
 have hbW : Below w1.heap.size w1 W := by rw [hW]; exact below_a1 _ _
 have ll := kl.lt
 have hbw : Below w.heap.size w W := hb1.trans (hbW.mono hs1)
 have KB2 := Lib.hid (KB1.out.of hbW)
 have hz0 : w.heap.size ≤ t ∧ w.heap.size ≤ S0.nb ∧ w.heap.size ≤ S0.fb := ⟨Nat.le_trans hVs ht0, Nat.le_trans hVs hnb0, Nat.le_trans hVs hfb0⟩
 have HL0 : Hid (Lin W (fun g => w.heap.size ≤ g ∧ g ≠ w.heap.size) w1.heap.size t S0 .nil 0 sa m sq [] [] []) := Lib.hid
  ⟨⟨_, _, kl, Sv.nil _ _, Sv.nil _ _⟩, HQ0.out.of hbW, ⟨by omega, by omega, by omega⟩, ⟨by omega, by omega⟩, ⟨by omega, by have := ht0; omega⟩, ⟨by omega, by have := hnb0; omega⟩, by omega, by have := hfb0; omega⟩
 have hbws := hbw.size; have HBW := Lib.hid hbw; clear hW kl hbW HQ0 KB1 hb1 hbw hz0
 go_wp2_with fail
 go_loopg [7, 17] n (fun gk _ s17 wr => ∃ (k : Nat) (S : TS) (T : Tr) (q : Nat), s17 = .int .i64 (k : Nat) ∧ k ≤ n ∧ n - k ≤ gk ∧ q ≤ k ∧ Hid (Lin wr (fun g => w.heap.size ≤ g ∧ g ≠ w.heap.size) w1.heap.size t S T q sa m sq (pQ Xp Yp k) [] []) ∧ Below (w.heap.size + 1) W wr)
 case atStart => exact ⟨0, S0, .nil, 0, rfl, Nat.zero_le _, by omega, by omega, HL0, Below.refl _ _⟩
 case round =>
  obtain ⟨k, S, T, q, rfl, hk, hg, hqk, HL, hbl⟩ := hrel
  have hsz := hbl.size
  have hbr := HBW.out.trans (hbl.mono (show w.heap.size ≤ w.heap.size + 1 by omega))
  by_cases h1 : k < n
  ·obtain ⟨pg, po, rfl, hpg, hpc⟩ := HP.out.ptr (by omega)
   have e0 := (hbr.cell (p := ⟨pg, po + k * 2, none⟩) hpg).trans (hpc k h1).1
   have e1 := (hbr.cell (p := ⟨pg, po + k * 2 + 1, none⟩) hpg).trans (hpc k h1).2
   have lpg : pg < wr.heap.size := by omega
   clear hpc
   go_wp2_with fail
   clear e0 e1
   refine name_world ?_
   intro U hU
   have kp : Blk U wr.heap.size #[.int .i64 (Xp k), .int .i64 (Yp k)] 44 := by rw [hU]; exact Blk.new _ _ _
   have hbU : Below wr.heap.size wr U := by rw [hU]; exact below_a1 _ _
   have HLU := Lib.hid (HL.out.of hbU)
   have p0 := kp.cell 0; have p1 := kp.cell 1
   simp only [List.getElem?_toArray, List.getElem?_cons_zero, List.getElem?_cons_succ] at p0 p1
   have lp := kp.lt
   obtain ⟨svx, avx, hblx, _, _⟩ := HLU.out.row
   have c1 : U.cell? ⟨w1.heap.size, 1, none⟩ = _ := hblx.cell 1
   simp only [List.getElem?_toArray, List.getElem?_cons_zero, List.getElem?_cons_succ] at c1
   have llx := hblx.lt; have hUs := hbU.size; clear hU kp hblx
   refine wp_region_up U.heap.size 6 [(true, 0), (true, 1), (true, 2), (true, 3), (true, 4), (false, 5)] (by kernel_rfl) (by kernel_rfl) (fun _ _ d _ _ h => by cases d <;> exact h) ?_
   have hb : Below U.heap.size U U.drew := (Below.refl _ _).drew
   iterate 5
    first | refine wpS_takeL rfl rfl ?_ | refine wpS_takeN rfl ⟨_, rfl⟩ ?_
    go_big_quiet_step (rfl)
    refine wpQuiet_nil ?_
   refine wpS_doL rfl ?_
   intro K hK
   go_wp2_with (go_at_call 11; (with_reducible refine (AtK_is (Xp k) (Yp k) (HI.out k h1).1 (HI.out k h1).2 _ rfl _).mono ?_); rintro e w4 ⟨rfl, hn⟩)
   replace hb := hb.trans (hn.mono hb.size)
   refine hK.out _ _ (up_iff.2 hb) ?_
   clear hK K; clear hn
   refine wpS_nil ?_
   simp only [List.drop_succ_cons, List.drop_zero]
   clear c1 p0 p1
   go_wp2_with fail
   refine (Que_put (show q < 100000 by omega) (HSP.out k h1) (HLU.out.of hb).que).mono ?_
   rintro e w5 ⟨⟨bb, rfl⟩, S', T', hQ', hF'⟩
   have hss := hb.size
   have HL5 : Hid (Lin w5 (fun g => w.heap.size ≤ g ∧ g ≠ w.heap.size) w1.heap.size t S' T' (q + 1) sa m sq (pQ Xp Yp (k + 1)) [] []) := Lib.hid ((HLU.out.of hb).frame hF' hQ' fun g hg => ⟨by omega, by omega⟩)
   have hxs := HLU.out.xs
   have hb5 : Below (w.heap.size + 1) W w5 := hbl.trans ((hbU.mono (by omega)).trans ((hb.mono (by omega)).trans (hF'.out.below (by omega) (by
    intro g hg
    simp only [List.mem_cons, List.not_mem_nil, or_false] at hg
    rcases hg with rfl | rfl | rfl <;> omega))))
   clear hQ' hF' hb HLU HL
   go_wp2_with fail
   go_roundg (n - (k + 1))
   case measure => omega
   case rel => exact ⟨k + 1, S', T', q + 1, by norm_cast, by omega, Nat.le_refl _, by omega, HL5, hb5⟩
  ·obtain rfl : k = n := by omega
   obtain ⟨sg_, hsg_⟩ : ∃ z, z = sa := ⟨_, rfl⟩
   clear hsg_ sg_
   have hblk0 : wr.cell? ⟨w.heap.size, 0, none⟩ = some (.slice sa m sq) := (hbl.cell (p := ⟨w.heap.size, 0, none⟩) (show w.heap.size < w.heap.size + 1 by omega)).trans (by have := KB2.out.cell 0; simpa using this)
   have lbx : w.heap.size < wr.heap.size := by omega
   have hsz9 : w.heap.size + 1 ≤ wr.heap.size := by omega
   go_wp2_with fail
   clear hblk0
   refine name_world ?_
   intro wo hwo
   subst hwo
   go_loopg [8, 9, 10, 31] m (fun gk s8 _ _ s31 wr => ∃ (j : Nat) (v8 : Value) (S : TS) (T : Tr) (q : Nat), s31 = .int .i64 (j : Nat) ∧ v8 = s8 ∧ j ≤ m ∧ m - j ≤ gk ∧ q ≤ k + 2 * j ∧ Hid (NL wr wo.heap.size v8 (List.range j)) ∧ Hid (∀ g, Value.ownBlock v8 = some g → g ≠ w1.heap.size ∧ g ≠ t ∧ g ≠ S.nb ∧ g ≠ S.fb) ∧ Hid (Lin wr (fun g => w.heap.size ≤ g ∧ g ≠ w.heap.size) w1.heap.size t S T q sa m sq (sQ A (pQ Xp Yp k) j) [] []) ∧ Below (w.heap.size + 1) wo wr)
   case atStart => exact ⟨0, _, S, T, q, rfl, rfl, Nat.zero_le _, by omega, by omega, Lib.hid NL.none, Lib.hid (fun g hg => by cases hg), HL, Below.refl _ _⟩
   case round =>
    obtain ⟨j, v8, S1, T1, q1, rfl, rfl, hj, hg1, hq1, HNL, HOW, HLj, hbj⟩ := hrel
    have hszj := hbj.size
    have hbrj := hbr.trans (hbj.mono (show w.heap.size ≤ w.heap.size + 1 by omega))
    by_cases h1 : j < m
    ·obtain ⟨sg, so, rfl, hsg, hsc⟩ := HS.out.ptr (by omega)
     have e0 := (hbrj.cell (p := ⟨sg, so + j * 4, none⟩) hsg).trans (hsc j h1 0 (by decide))
     have e1 := (hbrj.cell (p := ⟨sg, so + j * 4 + 1, none⟩) hsg).trans (hsc j h1 1 (by decide))
     have e2 := (hbrj.cell (p := ⟨sg, so + j * 4 + 2, none⟩) hsg).trans (hsc j h1 2 (by decide))
     have e3 := (hbrj.cell (p := ⟨sg, so + j * 4 + 3, none⟩) hsg).trans (hsc j h1 3 (by decide))
     have lsg : sg < wr.heap.size := by omega
     clear hsc
     go_wp2_with fail
     clear e0 e1 e2 e3
     refine name_world ?_
     intro U hU
     have ks : Blk U wr.heap.size #[.int .i64 (A j 0), .int .i64 (A j 1), .int .i64 (A j 2), .int .i64 (A j 3)] 46 := by rw [hU]; exact Blk.new _ _ _
     have hbU : Below wr.heap.size wr U := by rw [hU]; exact below_a1 _ _
     have KS := Lib.hid ks
     have HLU := Lib.hid (HLj.out.of hbU)
     have hUs := hbU.size; have lks := ks.lt; have s0 := ks.cell 0; have s1 := ks.cell 1; have s2 := ks.cell 2; have s3 := ks.cell 3
     simp only [List.getElem?_toArray, List.getElem?_cons_zero, List.getElem?_cons_succ] at s0 s1 s2 s3
     obtain ⟨svx, avx, hblx, _, _⟩ := HLU.out.row
     have c1 : U.cell? ⟨w1.heap.size, 1, none⟩ = _ := hblx.cell 1
     simp only [List.getElem?_toArray, List.getElem?_cons_zero, List.getElem?_cons_succ] at c1
     have llx := hblx.lt; have hqj := HLj.out.que.lts; have hxj := HLj.out.xs
     have hown : ∀ g, Value.ownBlock v8 = some g → wo.heap.size ≤ g ∧ g < wr.heap.size := fun g hg => HNL.out.own hg
     have HOWN := Lib.hid hown; clear hU ks hblx hown
     refine wp_region_up U.heap.size 6 [(true, 0), (true, 1), (true, 2), (true, 3), (true, 4), (false, 5)] (by kernel_rfl) (by kernel_rfl) (fun _ _ d _ _ h => by cases d <;> exact h) ?_
     have hb : Below U.heap.size U U.drew := (Below.refl _ _).drew
     iterate 5
      first | refine wpS_takeL rfl rfl ?_ | refine wpS_takeN rfl ⟨_, rfl⟩ ?_
      go_big_quiet_step (rfl)
      refine wpQuiet_nil ?_
     refine wpS_doL rfl ?_
     intro K hK
     go_wp2_with (go_at_call 37; (with_reducible refine (LowK_is hA j _ rfl _).mono ?_); rintro e w4 ⟨rfl, hn⟩)
     replace hb := hb.trans (hn.mono hb.size)
     refine hK.out _ _ (up_iff.2 hb) ?_
     clear hK K; clear hn
     refine wpS_nil ?_
     simp only [List.drop_succ_cons, List.drop_zero]
     clear c1 s0 s1 s2 s3
     go_wp2_with fail
     refine (Que_put (show q1 < 100000 by omega) (HLW.out j h1).1 (HLU.out.of hb).que).mono ?_
     rintro e w5 ⟨⟨bb, rfl⟩, S2, T2, hQ', hF'⟩
     have hs4 := hb.size; have hs5 := hF'.out.size
     have HL5 := Lib.hid ((HLU.out.of hb).frame hF' hQ' fun g hg => ⟨by omega, by omega⟩)
     have HF5 : Hid (Fr t S1 S2 wr w5) := Lib.hid ((Fr.ofBelow hbU).trans ((Fr.ofBelow hb).trans hF'))
     have KS5 := Lib.hid (((KS.out.of hb)).turn (hF'.out.block wr.heap.size (by omega) (by simp; omega)))
     clear hQ' hF' hb HLU KS; have lks5 := KS5.out.lt; have s0 := KS5.out.cell 0; have s1 := KS5.out.cell 1; have s2 := KS5.out.cell 2; have s3 := KS5.out.cell 3
     simp only [List.getElem?_toArray, List.getElem?_cons_zero, List.getElem?_cons_succ] at s0 s1 s2 s3
     obtain ⟨svy, avy, hbly, _, _⟩ := HL5.out.row
     have c1 : w5.cell? ⟨w1.heap.size, 1, none⟩ = _ := hbly.cell 1
     simp only [List.getElem?_toArray, List.getElem?_cons_zero, List.getElem?_cons_succ] at c1
     have lly := hbly.lt; clear hbly
     go_wp2_with fail
     refine wp_region_up w5.heap.size 6 [(true, 0), (true, 1), (true, 2), (true, 3), (true, 4), (false, 5)] (by kernel_rfl) (by kernel_rfl) (fun _ _ d _ _ h => by cases d <;> exact h) ?_
     have hb : Below w5.heap.size w5 w5.drew := (Below.refl _ _).drew
     iterate 5
      first | refine wpS_takeL rfl rfl ?_ | refine wpS_takeN rfl ⟨_, rfl⟩ ?_
      go_big_quiet_step (rfl)
      refine wpQuiet_nil ?_
     refine wpS_doL rfl ?_
     intro K hK
     go_wp2_with (go_at_call 38; (with_reducible refine (HighK_is hA j _ rfl _).mono ?_); rintro e w6 ⟨rfl, hn⟩)
     replace hb := hb.trans (hn.mono hb.size)
     refine hK.out _ _ (up_iff.2 hb) ?_
     clear hK K; clear hn
     refine wpS_nil ?_
     simp only [List.drop_succ_cons, List.drop_zero]
     clear c1 s0 s1 s2 s3
     go_wp2_with fail
     refine (Que_put (show q1 + 1 < 100000 by omega) (HLW.out j h1).2 (HL5.out.of hb).que).mono ?_
     rintro e w7 ⟨⟨bb2, rfl⟩, S3, T3, hQ', hF'⟩
     have hs6 := hb.size; have hs7 := hF'.out.size
     have HL7 := Lib.hid ((HL5.out.of hb).frame hF' hQ' fun g hg => ⟨by omega, by omega⟩)
     have HF7 : Hid (Fr t S1 S3 wr w7) := Lib.hid (HF5.out.trans ((Fr.ofBelow hb).trans hF'))
     have HQE : Hid (sQ A (pQ Xp Yp k) (j + 1) = qput (highK A j) (qput (lowK A j) (sQ A (pQ Xp Yp k) j))) := Lib.hid rfl; clear hQ' hF' hb HL5 HF5 KS5
     have HNL7 : Hid (NL w7 wo.heap.size v8 (List.range j)) := Lib.hid (HNL.out.turn fun g hg => HF7.out.out.block g (HOWN.out g hg).2 (by have := HOW.out g hg; simp [this.2.1, this.2.2.1, this.2.2.2]))
     have hq1l : (List.range j).length < 100000 := by rw [List.length_range]; omega
     have hb78 : wo.heap.size ≤ (w7.alloc (.cells #[.int .i64 (j : Nat)] 3)).heap.size := by simp; omega
     go_wp2_with (at_builtin; go_loud (refine wpList_append_nl2 rfl _ _ rfl wo.heap.size v8 (List.range j) j w7.heap.size rfl rfl (Blk.new w7 _ _) (HNL7.out.of (below_a1 _ _)) hq1l hb78 ?_))
     intro ho2 m2 hc2 w9 nl9 gr9 lies9
     have hl7 := HL7.out.que.lts; have hx7 := HL7.out.xs
     obtain ⟨svz, avz, hblz, _, _⟩ := HL7.out.row
     have lbz := hblz.lt; clear hblz
     have hsa : (w7.alloc (.cells #[.int .i64 (j : Nat)] 3)).heap.size = w7.heap.size + 1 := by simp
     have HG9 : Hid (Below (w.heap.size + 1) w7 w9 ∧ ∀ b, b < w7.heap.size → (∀ g, Value.ownBlock v8 = some g → b ≠ g) → w9.heap[b]? = w7.heap[b]?) := Lib.hid (by
      have h0 := gr9.size
      have hb0 := fun b (hb : b < w7.heap.size) => (below_a1 w7 (.cells #[.int .i64 (j : Nat)] 3)).block b hb
      have key : ∀ b, b < w7.heap.size → (∀ g, Value.ownBlock v8 = some g → b ≠ g) → w9.heap[b]? = w7.heap[b]? := fun b hb hn => (gr9.block b (by omega) (fun e => hn b e.symm rfl)).trans (hb0 b hb)
      exact ⟨⟨gr9.os, gr9.tape, gr9.output, by omega, fun b hb => key b (by omega) fun g hg => by have := HOWN.out g hg; omega⟩, key⟩)
     have HL9 := Lib.hid (HL7.out.bare (HG9.out.1.size) (HG9.out.2 _ lbz fun g hg e => (HOW.out g hg).1 e.symm) (HG9.out.2 _ hl7.1 fun g hg e => (HOW.out g hg).2.1 e.symm)
      (HG9.out.2 _ hl7.2.1 fun g hg e => by
       have h2 := HOW.out g hg
       have h3 := (HOWN.out g hg).2
       rcases HF7.out.nb with h4 | h4
       ·exact h2.2.2.1 (by rw [← h4]; exact e.symm)
       ·omega) (HG9.out.2 _ hl7.2.2 fun g hg e => by
       have h2 := HOW.out g hg
       have h3 := (HOWN.out g hg).2
       rcases HF7.out.fb with h4 | h4
       ·exact h2.2.2.2 (by rw [← h4]; exact e.symm)
       ·omega))
     have HOW9 : Hid (∀ g, Value.ownBlock (.slice ho2 m2 hc2) = some g → g ≠ w1.heap.size ∧ g ≠ t ∧ g ≠ S3.nb ∧ g ≠ S3.fb) := Lib.hid (by
      intro g hg
      rcases lies9 g hg with h2 | h2
      ·have h3 := HOW.out g h2
       have h4 := (HOWN.out g h2).2
       refine ⟨h3.1, h3.2.1, ?_, ?_⟩
       ·rcases HF7.out.nb with e | e
        ·rw [e]; exact h3.2.2.1
        ·omega
       ·rcases HF7.out.fb with e | e
        ·rw [e]; exact h3.2.2.2
        ·omega
      ·omega)
     have HN9 : Hid (NL w9 wo.heap.size (.slice ho2 m2 hc2) (List.range (j + 1))) := by rw [List.range_succ]; exact Lib.hid nl9
     have HB9 : Hid (Below (w.heap.size + 1) wo w9) := Lib.hid (hbj.trans ((HF7.out.out.below (by omega) (by
      intro g hg
      simp only [List.mem_cons, List.not_mem_nil, or_false] at hg
      rcases hg with rfl | rfl | rfl <;> omega)).trans HG9.out.1))
     clear nl9 gr9 lies9 HG9 HOWN HNL7 HNL HOW HLj hbj HF7 HL7
     go_wp2_with fail
     go_roundg (m - (j + 1))
     case measure => omega
     case rel => exact ⟨j + 1, _, S3, T3, q1 + 1 + 1, by norm_cast, rfl, by omega, Nat.le_refl _, by omega, HN9, HOW9, HL9, HB9.out⟩
    ·obtain rfl : j = m := by omega
     obtain ⟨a8, k8, hv8, ns8⟩ := Ns.ofNL HNL.out
     rw [List.length_range] at hv8
     subst hv8; have HNS := Lib.hid ns8
     have KBr := Lib.hid (KB2.out.below (hbl.trans hbj) (show w.heap.size < w.heap.size + 1 by omega))
     have HSr := Lib.hid (HS.out.of hbrj)
     have HORD := Lib.hid (ord_begn KBr.out HSr.out)
     have HAL : Hid (All j (List.range j)) := Lib.hid fun z hz => List.mem_range.1 hz
     have HLE : Hid ((List.range j).length ≤ 40000) := Lib.hid (by rw [List.length_range]; omega)
     have lkr := KBr.out.lt; clear HNL
     go_wp2_with fail
     have hso := Sort_is a8 k8 (List.range j) wr _ (ltB A) j HORD.out HAL.out HNS.out HLE.out
     rw [List.length_range] at hso
     refine hso.mono ?_
     rintro e w3 ⟨v3, rfl, nl3, _, _, hb3⟩
     clear hso
     obtain ⟨a3, k3, hv3, _⟩ := Ns.ofNL nl3
     obtain ⟨n3, hn3⟩ : ∃ r, (msort (ltB A) (List.range j)).length = r := ⟨_, rfl⟩
     rw [hn3] at hv3
     subst hv3; have HN3 := Lib.hid nl3; have hl3 := HLj.out.que.lts; have hx3 := HLj.out.xs
     have HL3 := Lib.hid (HLj.out.of hb3)
     have hs3 := hb3.size
     have HB3 := Lib.hid (hbrj.trans (hb3.mono (by omega)))
     obtain ⟨svz, avz, hblz, _, havz⟩ := HL3.out.row
     have hlr := HLj.out.row
     obtain ⟨_, _, hlr2, _, _⟩ := hlr
     have lbr := hlr2.lt; have c2 : w3.cell? ⟨w1.heap.size, 2, none⟩ = _ := hblz.cell 2
     simp only [List.getElem?_toArray, List.getElem?_cons_zero, List.getElem?_cons_succ] at c2
     have fz := hblz.free 2; have lbz := hblz.lt; have HBZ := Lib.hid hblz; have HAZ := Lib.hid havz; clear nl3 hb3 hblz hn3 hlr2 havz
     go_wp2_with fail
     go_ret
     have ho : OutL [w1.heap.size] w3 (w3.setCell ⟨w1.heap.size, 2, none⟩ (.slice a3 n3 k3)) := (OutL.refl _ _).set (by simp) 2 none _
     refine ⟨w1.heap.size, t, S1, T1, q1, rfl, by omega, ?_, ?_⟩
     ·have hsep := HL3.out.sep
      have hll := HL3.out.que.lts
      refine ⟨⟨_, avz, HBZ.out.put 2 _, ?_, HAZ.out.empty⟩, HL3.out.que.turn ho.size (ho.block _ hll.1 (by simp; exact hsep.1.symm)) (ho.block _ hll.2.1 (by simp; exact hsep.2.1.symm)) (ho.block _ hll.2.2 (by simp; exact hsep.2.2.symm)), hsep, by omega, by omega, by omega, by omega⟩
      exact (Sv.ofNL (X := fun g => wr.heap.size ≤ g) HN3.out fun g hg => hg).turn ho.size fun g hg hx => ⟨⟨by show w.heap.size ≤ g; omega, by omega, by omega, by omega, by omega⟩, ho.block g hg (by simp; omega)⟩
     ·exact HB3.out.trans (ho.below (by omega) (by simp; omega))
end Go.Proofs.Ytkaolhlmimalkaa

namespace Go.Proofs.Ytkaolhlmimalkaa
open Go.RowKit

def stO (A : Nat → Nat → Int) (p : Int) (sts st : List Nat) : List Nat := cut st (bnd A p st 0) (bnd A p st (-1)) ++ sts.take (bgn A p sts)
def stN (A : Nat → Nat → Int) (p : Int) (sts st : List Nat) : List Nat := msort (ltS A) ((stO A p sts st).filter (gon A p))
def stS (A : Nat → Nat → Int) (p : Int) (sts st : List Nat) : List Nat := (st.take (bnd A p st 0) ++ stN A p sts st) ++ st.drop (bnd A p st (-1))
def stQ (A : Nat → Nat → Int) (p : Int) (Q : List Int) (sts st : List Nat) : List Int := quL A p Q (stS A p sts st) (bnd A p st 0) (stN A p sts st).length
/-- the sweep, of at most so many places -/
def run (A : Nat → Nat → Int) : Nat → List Int → List Nat → List Nat → Option (List (Int × List Nat))
  | 0, [], _, _ => some []
  | 0, _ :: _, _, _ => none
  | _ + 1, [], _, _ => some []
  | g + 1, p :: Q, sts, st => (run A g (stQ A p Q sts st) (sts.drop (bgn A p sts)) (stS A p sts st)).map fun l => (p, msort ltI (stO A p sts st)) :: l
theorem run_nil {A : Nat → Nat → Int} {g : Nat} {sts st : List Nat} {l : List (Int × List Nat)} (h : run A g [] sts st = some l) : l = [] := by
  cases g <;> (unfold run at h; injection h with h; exact h.symm)
theorem run_cons {A : Nat → Nat → Int} {g : Nat} {p : Int} {Q : List Int} {sts st : List Nat} {l : List (Int × List Nat)} (h : run A g (p :: Q) sts st = some l) :
    ∃ g' l', g = g' + 1 ∧ l = (p, msort ltI (stO A p sts st)) :: l' ∧ run A g' (stQ A p Q sts st) (sts.drop (bgn A p sts)) (stS A p sts st) = some l' := by
  cases g with
  | zero => unfold run at h; cases h
  | succ g =>
    unfold run at h
    cases hr : run A g (stQ A p Q sts st) (sts.drop (bgn A p sts)) (stS A p sts st) with
    | none => rw [hr] at h; cases h
    | some l' => rw [hr] at h; injection h with h; exact ⟨g, l', rfl, h.symm, hr⟩
theorem pfx_ok {lt : Nat → Nat → Bool} {s n : Nat} {R : List Nat} (hs : 1 ≤ s) (hR : R.length = n) : ∀ j, (j = 0 ∨ (j - 1) * (2 * s) < n) → (pfx lt s R j).length = min (j * (2 * s)) n ∧ ∀ z, z ∈ pfx lt s R j ↔ z ∈ R.take (min (j * (2 * s)) n)
  | 0, _ => by
    refine ⟨by rw [Nat.zero_mul, Nat.zero_min]; rfl, fun z => ?_⟩
    rw [Nat.zero_mul, Nat.zero_min]; rfl
  | j + 1, h => by
    obtain ⟨c, hc⟩ : ∃ c, j * (2 * s) = c := ⟨_, rfl⟩
    have hcn : c < n := by
      rcases h with h | h
      · omega
      · rw [Nat.add_sub_cancel, hc] at h; exact h
    obtain ⟨i1, i2⟩ := pfx_ok (lt := lt) hs hR j (by
      rcases Nat.eq_zero_or_pos j with h0 | h0
      · exact .inl h0
      · right
        have : (j - 1) * (2 * s) ≤ j * (2 * s) := Nat.mul_le_mul_right _ (by omega)
        omega)
    rw [hc, Nat.min_eq_left (by omega)] at i1 i2
    obtain ⟨p1, p2, p3⟩ := pass_one (lt := lt) hs hR hc.symm hcn rfl rfl i1 rfl i2
    have e : (j + 1) * (2 * s) = c + 2 * s := by rw [Nat.add_mul, hc, Nat.one_mul]
    rw [e, ← p2]
    refine ⟨?_, p3⟩
    rw [List.length_append, i1, p1]
    omega
theorem rnd_ok (lt : Nat → Nat → Bool) (L : List Nat) : ∀ i, (∀ z, z ∈ rnd lt L i ↔ z ∈ L) ∧ (rnd lt L i).length = L.length
  | 0 => ⟨fun _ => Iff.rfl, rfl⟩
  | i + 1 => by
    obtain ⟨i1, i2⟩ := rnd_ok lt L i
    have hp : 0 < 2 ^ i := Nat.pos_of_ne_zero (by simp)
    obtain ⟨s, hs⟩ : ∃ s, 2 ^ i = s := ⟨_, rfl⟩
    rw [hs] at hp
    obtain ⟨n, hn⟩ : ∃ n, L.length = n := ⟨_, rfl⟩
    obtain ⟨j, hj⟩ : ∃ j, (n + 2 * s - 1) / (2 * s) = j := ⟨_, rfl⟩
    have d1 : n ≤ j * (2 * s) := by
      have := Nat.lt_div_mul_add (a := n + 2 * s - 1) (show 0 < 2 * s by omega)
      rw [hj] at this; omega
    have d2 : j = 0 ∨ (j - 1) * (2 * s) < n := by
      rcases Nat.eq_zero_or_pos j with h | h
      · exact .inl h
      · right
        have h1 : j * (2 * s) ≤ n + 2 * s - 1 := by rw [← hj]; exact Nat.div_mul_le_self _ _
        have h2 : j * (2 * s) = (j - 1) * (2 * s) + 2 * s := by
          conv => lhs; rw [show j = (j - 1) + 1 by omega]
          rw [Nat.add_mul, Nat.one_mul]
        omega
    have key := pfx_ok (lt := lt) (R := rnd lt L i) (s := s) (n := n) (by omega) (by rw [i2, hn]) j d2
    rw [Nat.min_eq_right d1] at key
    have e : rnd lt L (i + 1) = pfx lt s (rnd lt L i) j := by
      show pfx lt (2 ^ i) (rnd lt L i) ((L.length + 2 * 2 ^ i - 1) / (2 * 2 ^ i)) = _
      rw [hs, hn, hj]
    rw [e]
    refine ⟨fun z => ?_, by rw [key.1, hn]⟩
    rw [key.2, List.take_of_length_le (by rw [i2, hn]; exact Nat.le_refl _)]
    exact i1 z
/-- the sorted list has what the list has -/
theorem msort_ok (lt : Nat → Nat → Bool) (L : List Nat) : (∀ z, z ∈ msort lt L ↔ z ∈ L) ∧ (msort lt L).length = L.length := rnd_ok lt L _
theorem stS_ok {A : Nat → Nat → Int} {p : Int} {sts st : List Nat} {m : Nat} (h1 : All m st) (h2 : All m sts) :
    All m (stS A p sts st) ∧ All m (sts.drop (bgn A p sts)) ∧ (stS A p sts st).length + (sts.drop (bgn A p sts)).length ≤ st.length + sts.length := by
  have hs : (∀ z, z ∈ stN A p sts st ↔ z ∈ (stO A p sts st).filter (gon A p)) ∧ (stN A p sts st).length = ((stO A p sts st).filter (gon A p)).length := msort_ok _ _
  obtain ⟨b1, b2⟩ := bnd_le A p st
  have b3 := tw_le (bgf A p) sts
  have ho : All m (stO A p sts st) := fun z hz => by
    rcases List.mem_append.1 hz with hz | hz
    · exact h1 z (cut_mem hz)
    · exact h2 z (List.mem_of_mem_take hz)
  refine ⟨fun z hz => ?_, fun z hz => h2 z (List.mem_of_mem_drop hz), ?_⟩
  · rcases List.mem_append.1 hz with hz | hz
    · rcases List.mem_append.1 hz with hz | hz
      · exact h1 z (List.mem_of_mem_take hz)
      · exact ho z (List.mem_filter.1 ((hs.1 z).1 hz)).1
    · exact h1 z (List.mem_of_mem_drop hz)
  · have c1 := List.length_filter_le (gon A p) (stO A p sts st)
    have c2 : (stO A p sts st).length = (cut st (bnd A p st 0) (bnd A p st (-1))).length + (sts.take (bgn A p sts)).length := List.length_append
    have c3 := cut_le st (bnd A p st 0) (bnd A p st (-1))
    have c4 : (sts.take (bgn A p sts)).length ≤ bgn A p sts := by rw [List.length_take]; omega
    have c5 : (stS A p sts st).length = (st.take (bnd A p st 0)).length + (stN A p sts st).length + (st.drop (bnd A p st (-1))).length := by unfold stS; rw [List.length_append, List.length_append]
    have c6 : (st.take (bnd A p st 0)).length ≤ bnd A p st 0 := by rw [List.length_take]; omega
    rw [List.length_drop] at c5 ⊢
    have c7 : bgn A p sts ≤ sts.length := b3
    omega
end Go.Proofs.Ytkaolhlmimalkaa

namespace Go.Proofs.Ytkaolhlmimalkaa
open Go.RowKit Go.Shelf

/-- the iterator g (captured: lb) tells encs 0, encs 1, .. up to N, as far as it is asked; it turns nothing below B; a round keeps what lies at or above B; it asks Kp between two rounds -/
def TellsW (P : Program) (gf : Nat) (lb : Array Value) (N : Nat) (E : Nat → Value → (Nat → Prop) → World → Prop) (B : Nat) (Kp : World → Prop) : Prop :=
  ∀ (m lid : Nat) (I : (Nat → Prop) → Nat → World → Prop) (Ix : Nat → World → Prop), (∀ G k W, I G k W → Kp W) → (∀ G k W, I G k W → ∀ g, G g → B ≤ g ∧ g < W.heap.size) → (∀ G k W W', I G k W → BelowX B G W W' → I G k W') → (∀ k W W', Ix k W → Below B W W' → Ix k W') →
    (∀ G k v H W, k < N → I G k W → E k v H W → YieldAt Fence.wide m P lid #[v] W fun e W' => ((e = .returned (.bool true) ∧ ∃ G', (∀ g, G' g → G g ∨ H g ∨ W.heap.size ≤ g) ∧ I G' (k + 1) W') ∨ (e = .returned (.bool false) ∧ Ix (k + 1) W')) ∧ AboveX B G W W') →
    ∀ W, B ≤ W.heap.size → I (fun _ => False) 0 W → CallsIn Fence.wide (m + 1) P gf (#[.func (.yield lid) #[] #[]] ++ lb) W fun e W' => (∃ v, e = .returned v) ∧ ((∃ G, I G N W') ∨ ∃ k, k ≤ N ∧ Ix k W')
def rPostW (B l D : Nat) (W : World) (J : (Nat → Prop) → Nat → World → Prop) (Jx : Code → Nat → World → Prop) (G H : Nat → Prop) (k : Nat) : Exit → Act → World → Prop
  | .normal, _, W' => (Fix2 l D W W' ∧ ∃ G', (∀ g, G' g → G g ∨ H g ∨ W.heap.size ≤ g) ∧ J G' (k + 1) W') ∧ AboveX B G W W'
  | .ret, _, W' => (Fix2 l D W W' ∧ Jx .ret (k + 1) W') ∧ AboveX B G W W'
  | .exit id, _, W' => (Fix2 l D W W' ∧ Jx (.exit id) (k + 1) W') ∧ AboveX B G W W'
  | .goto t, _, W' => (Fix2 l D W W' ∧ Jx (.goto t) (k + 1) W') ∧ AboveX B G W W'
  | .panic _, _, _ => False
  | .outgrown, _, _ => False
set_option maxHeartbeats 1000000 in
theorem wpIn_rangeW {P : Program} {g : Operand} {ps : Array Tmp} {assign body : Code} {Q : Exit → Act → World → Prop} {a : Act} {w : World} {m : Nat} {gf : Nat} {lb : Array Value} {N : Nat} {E : Nat → Value → (Nat → Prop) → World → Prop} {Kp : World → Prop}
    (hg : a.eval g = .func (.func gf) #[] lb) (eg : ∀ args w, (callFunc gf args).run P w = .ok (.enter gf args) w)
    (hT : TellsW P gf lb N E (w.heap.size + 2) Kp) (hps : ps.size = 1)
    (J : (Nat → Prop) → Nat → World → Prop) (Jx : Code → Nat → World → Prop) (hG : ∀ G k W, J G k W → ∀ g, G g → w.heap.size + 2 ≤ g ∧ g < W.heap.size) (hst : ∀ G k W W', J G k W → BelowX w.heap.size G W W' → J G k W') (hxst : ∀ c k W W', Jx c k W → Below w.heap.size W W' → Jx c k W')
    (hKp : ∀ G k W, J G k W → Kp W) (h0 : J (fun _ => False) 0 w)
    (hround : ∀ (lid D k : Nat) (v : Value) (G H : Nat → Prop) (W : World), k < N → J G k W → E k v H W → lid = w.heap.size + 1 → D = w.heap.size → lid < W.heap.size → D < W.heap.size →
      assign.wpIn (Fence.wide.inRound lid) m P (Exit.then (fun a₁ w₁ => (Fix2 lid D W w₁ ∧ AboveX (w.heap.size + 2) G W w₁) ∧ ∀ w₂, OutL [lid] w₁ w₂ → body.wpIn (Fence.wide.inRound lid) m P (rPostW (w.heap.size + 2) lid D w₂ J Jx G H k) a₁ w₂) (fun _ _ _ => False))
        { tmps := (ps.zip #[v]).foldl (fun t (p, v) => t.setIfInBounds p v) a.tmps, defers := [] } W)
    (hdone : ∀ D G W, D = w.heap.size → J G N W → W.heap[D]? = some (.deferred (some [])) → Q .normal { a with defers := { target := .collected D, args := #[] } :: a.defers } W)
    (hstop : ∀ D c k W, D = w.heap.size → Jx c k W → W.heap[D]? = some (.deferred (some [])) → c.wpIn Fence.wide (m + 2) P Q { a with defers := { target := .collected D, args := #[] } :: a.defers } W) :
    (Code.rangeFunc g ps assign body).wpIn Fence.wide (m + 2) P Q a w := by
  refine wpIn_rangeFunc ?_
  intro fn hfn
  obtain ⟨rec, hrec⟩ : ∃ rec : LoopState → Option Code → Loop, rec = fun st pe => { state := st, pending := pe, fn, tmps := a.tmps, params := ps, assign, body, defers := w.heap.size } := ⟨_, rfl⟩
  obtain ⟨W1, hW1⟩ : ∃ W1, (w.alloc (.deferred (some []))).alloc (.loop (rec .ready none)) = W1 := ⟨_, rfl⟩
  have hL1 : W1.heap[w.heap.size + 1]? = some (.loop (rec .ready none)) := by
    rw [← hW1]; have := World.alloc_heap_new (w.alloc (.deferred (some []))) (.loop (rec .ready none)); rwa [World.size_alloc] at this
  have hK1 : W1.heap[w.heap.size]? = some (.deferred (some [])) := by
    rw [← hW1]; exact (Below.heap_alloc _ _ _ (by simp)).trans (World.alloc_heap_new w _)
  have hb1 : Below w.heap.size w W1 := by rw [← hW1]; exact below_a2 _ _ _
  have hsz : W1.heap.size = w.heap.size + 2 := by rw [← hW1]; simp
  refine ⟨w.heap.size + 1, [{ target := .collected w.heap.size, args := #[] }], W1, { target := .fn (.func gf) lb, args := #[.func (.yield (w.heap.size + 1)) #[] #[]] }, W1, gf,
    #[.func (.yield (w.heap.size + 1)) #[] #[]] ++ lb, W1, ?_, ?_, ?_, ?_, fun h => absurd h (by decide), ?_⟩
  · rw [← hW1, hrec]; exact run_enterLoop_outer _ _ _ _ _
  · simp only [resolve, hg]
    simp [go_sem]
  · intro f' hf'; trivial
  · simp [invoke, go_sem, eg]
  · refine (hT m (w.heap.size + 1)
      (fun G k W => J G k W ∧ W.heap[w.heap.size + 1]? = some (.loop (rec .ready none)) ∧ W.heap[w.heap.size]? = some (.deferred (some [])))
      (fun k W => ∃ c, Jx c k W ∧ W.heap[w.heap.size + 1]? = some (.loop (rec .done (some c))) ∧ W.heap[w.heap.size]? = some (.deferred (some [])))
      (fun G k W h => hKp G k W h.1) (fun G k W h => hG G k W h.1) (fun G k W W' h hb => ⟨hst G k W W' h.1 (hb.mono (by omega)), (hb.1.block _ (by omega)).trans h.2.1, (hb.1.block _ (by omega)).trans h.2.2⟩)
      (fun k W W' h hb => by obtain ⟨c, h1, h2, h3⟩ := h; exact ⟨c, hxst c k W W' h1 (hb.mono (by omega)), (hb.block _ (by omega)).trans h2, (hb.block _ (by omega)).trans h3⟩)
      ?_ W1 (by omega) ⟨hst _ 0 _ _ h0 ⟨hb1, fun g hg => hg.elim⟩, hL1, hK1⟩).mono ?_
    · rintro G k v H W hk ⟨hi, hl, hd⟩ hE
      have hlt : w.heap.size + 1 < W.heap.size := (Array.getElem?_eq_some_iff.1 hl).1
      have hy := run_yield (P := P) (args := #[v]) hl (by rw [hrec]; exact hps.symm)
      rw [hrec] at hy
      refine ⟨fn, _, assign, body, hy, roundIn_of_wpIn trivial (wpIn_mono (hround _ _ k v G H W hk hi hE rfl rfl hlt (by omega)) ?_)⟩
      rintro e a1 w1 he
      cases e with
      | normal =>
        obtain ⟨⟨hf1, hab1⟩, hbody⟩ := he
        have hl1 : w1.heap[w.heap.size + 1]? = some (.loop (rec .ready none)) := hf1.1.trans hl; have hd1 : w1.heap[w.heap.size]? = some (.deferred (some [])) := hf1.2.trans hd
        have hlt1 : w.heap.size + 1 < w1.heap.size := (Array.getElem?_eq_some_iff.1 hl1).1
        refine ⟨_, run_beginRound hl1 (by rw [hrec]), wpIn_mono (hbody _ (putObj_out _ _ _)) ?_⟩
        have hl2 : (w1.putObj (w.heap.size + 1) (.loop { rec .ready none with state := .busy })).heap[w.heap.size + 1]? = some (.loop { rec .ready none with state := .busy }) := World.putObj_heap_same hlt1
        have hd2 : (w1.putObj (w.heap.size + 1) (.loop { rec .ready none with state := .busy })).heap[w.heap.size]? = some (.deferred (some [])) := (World.putObj_heap_other (by omega)).trans hd1
        have fin : ∀ (jump : Option Code) (W3 : World), Fix2 (w.heap.size + 1) w.heap.size (w1.putObj (w.heap.size + 1) (.loop { rec .ready none with state := .busy })) W3 →
            (Instr.endRound (w.heap.size + 1) jump).run P W3 = .ok (.bool jump.isNone) (W3.putObj (w.heap.size + 1) (.loop (rec (if jump.isNone then .ready else .done) jump))) ∧
            (W3.putObj (w.heap.size + 1) (.loop (rec (if jump.isNone then .ready else .done) jump))).heap[w.heap.size + 1]? = some (.loop (rec (if jump.isNone then .ready else .done) jump)) ∧
            (W3.putObj (w.heap.size + 1) (.loop (rec (if jump.isNone then .ready else .done) jump))).heap[w.heap.size]? = some (.deferred (some [])) := fun jump W3 hk3 => by
          have hl3 := hk3.1.trans hl2
          have := run_endRound (P := P) jump hl3
          rw [hrec] at this ⊢
          exact ⟨this, World.putObj_heap_same (Array.getElem?_eq_some_iff.1 hl3).1, (World.putObj_heap_other (by omega)).trans (hk3.2.trans hd2)⟩
        have pb : ∀ (W3 : World) (o : Obj), w.heap.size ≤ W3.heap.size → Below w.heap.size W3 (W3.putObj (w.heap.size + 1) o) := fun W3 o h => (putObj_out W3 _ o).below h (by simp)
        have sz3 : ∀ W3 : World, Fix2 (w.heap.size + 1) w.heap.size (w1.putObj (w.heap.size + 1) (.loop { rec .ready none with state := .busy })) W3 → w.heap.size ≤ W3.heap.size := fun W3 h => by
          have := (Array.getElem?_eq_some_iff.1 (h.1.trans hl2)).1; omega
        rintro e a3 W3 hp
        have abv : ∀ o : Obj, AboveX (w.heap.size + 2) G (w1.putObj (w.heap.size + 1) (.loop { rec .ready none with state := .busy })) W3 → AboveX (w.heap.size + 2) G W (W3.putObj (w.heap.size + 1) o) := fun o h => ((hab1.trans (.ofAbove (.putObj _ (by omega) _))).trans h).trans (.ofAbove (.putObj _ (by omega) _))
        cases e with
        | normal =>
          obtain ⟨⟨hf3, G', hG', hJ3⟩, hab⟩ := hp
          obtain ⟨hr, hl4, hk4⟩ := fin none W3 hf3
          have hgg := hG _ _ _ hJ3
          refine ⟨_, _, hr, .inl ⟨rfl, G', fun g hg => ?_, hst _ _ _ _ hJ3 ⟨pb _ _ (sz3 _ hf3), fun g hg _ => World.putObj_heap_other (by have := hgg g hg; omega)⟩, hl4, hk4⟩, abv _ hab⟩
          rcases hG' g hg with h | h | h
          · exact .inl h
          · exact .inr (.inl h)
          · refine .inr (.inr (Nat.le_trans hab1.size ?_))
            simpa using h
        | ret =>
          obtain ⟨hp, hab⟩ := hp
          obtain ⟨hr, hl4, hk4⟩ := fin (some .ret) W3 hp.1
          exact ⟨_, _, hr, .inr ⟨rfl, .ret, hxst _ _ _ _ hp.2 (pb _ _ (sz3 _ hp.1)), hl4, hk4⟩, abv _ hab⟩
        | exit id =>
          obtain ⟨hp, hab⟩ := hp
          obtain ⟨hr, hl4, hk4⟩ := fin (some (.exit id)) W3 hp.1
          exact ⟨_, _, hr, .inr ⟨rfl, .exit id, hxst _ _ _ _ hp.2 (pb _ _ (sz3 _ hp.1)), hl4, hk4⟩, abv _ hab⟩
        | goto t =>
          obtain ⟨hp, hab⟩ := hp
          obtain ⟨hr, hl4, hk4⟩ := fin (some (.goto t)) W3 hp.1
          exact ⟨_, _, hr, .inr ⟨rfl, .goto t, hxst _ _ _ _ hp.2 (pb _ _ (sz3 _ hp.1)), hl4, hk4⟩, abv _ hab⟩
        | panic ch => exact hp.elim
        | outgrown => exact hp.elim
      | exit id => exact he.elim
      | goto t => exact he.elim
      | ret => exact he.elim
      | panic c => exact he.elim
      | outgrown => exact he.elim
    · rintro e W2 ⟨⟨v, rfl⟩, (⟨G, hi, hl, hd⟩ | ⟨k, _, c, hi, hl, hd⟩)⟩
      · have hlt : w.heap.size + 1 < W2.heap.size := (Array.getElem?_eq_some_iff.1 hl).1
        exact ⟨none, _, by have := run_endLoop (P := P) hl (by rw [hrec]; simp); rw [hrec] at this; exact this, hdone _ _ _ rfl (hst _ _ _ _ hi ⟨(putObj_out _ _ _).below (by omega) (by simp), fun g hg _ => World.putObj_heap_other (by have := hG _ _ _ hi g hg; omega)⟩) ((World.putObj_heap_other (by omega)).trans hd)⟩
      · have hlt : w.heap.size + 1 < W2.heap.size := (Array.getElem?_eq_some_iff.1 hl).1
        exact ⟨some c, _, by have := run_endLoop (P := P) hl (by rw [hrec]; simp); rw [hrec] at this; exact this, hstop _ c k _ rfl (hxst _ _ _ _ hi ((putObj_out _ _ _).below (by omega) (by simp))) ((World.putObj_heap_other (by omega)).trans hd)⟩
end Go.Proofs.Ytkaolhlmimalkaa

