/- The statement AvlSortsSaid: for every input the law returns true, and its arguments read as before. Conditions: none. -/
import Derived.Test.YtabdjplpagcniaaSAs2
import Derived.KernelRfl
import Derived.StillTail
import Derived.OrdersHeld
import Derived.Deep.Quiet
import Derived.Below
import Derived.WalkKit
import Derived.Test.YtabdjplpagcniaaProg
import Derived.WalkSpells
import Derived.StillTactics
import Derived.Laws.Pointers
import Derived.Deep.RegionHeld3
import Derived.RowKit3
import Derived.Deep.QuietTactic
import Derived.BigQuiet
import Derived.BigRegion
import Derived.Deep.LoopGhost
import Derived.Deep.DeepFit
import Derived.Deep.DeepCutAuto
import Derived.OwnWalk
import Derived.Lib.Hide
import Derived.RangeFuncNested
import Derived.RangeFuncBound
import Derived.RangeFuncCalls
import Derived.RangeFuncLeaves
import Derived.Shelf.Abstract
import Derived.Shelf.RegionOpen
import Derived.OwnWalkIn
import Derived.TacticsInMore
import Derived.LoopNIn
import Derived.LoopIn
import Derived.Deep.DeepAppendRoom
import Derived.Sort.LoopGhostIn
import Derived.Test.YtabdjplpagcniaaRows
import Derived.ProofKit
import Derived.OpenShut
import Derived.ChangeOld
import Derived.Deep.SlicePairs
namespace Go.Proofs.Ytabdjplpagcniaa
open Go.RowKit

def ak (n : Int) : Int := -(ten n)
def can (x y : Int) : Int := -(cten x y)
theorem ordk_an : OrdK can ak := fun x y => by
  have h := ordk_ten x y
  unfold can ak
  constructor
  · constructor <;> intro hh
    · have := h.2.1 (by omega); omega
    · have := h.2.2 (by omega); omega
  · constructor <;> intro hh
    · have := h.1.1 (by omega); omega
    · have := h.1.2 (by omega); omega
set_option maxRecDepth 100000 in
theorem anti_is (x y : Int) (hx : In64 x) (hy : In64 y) (w : World) :
    Calls Try.prog 16 #[.int .i64 x, .int .i64 y] w fun e w' => e = .returned (.int .i64 (can x y)) ∧ Below w.heap.size w w' := by
  have hb : -1 ≤ cten x y ∧ cten x y ≤ 1 := by unfold cten; split <;> (try split) <;> omega
  obtain ⟨c, hc⟩ : ∃ c, cten x y = c := ⟨_, rfl⟩
  rw [hc] at hb
  have hd : can x y = -c := by unfold can; rw [hc]
  rw [hd]
  have HC := Lib.hid hc
  clear hd hc
  go_enter Try.func16, Try.ntmps16
  go_wp2_with fail
  refine (tens_is x y hx hy w).mono ?_
  rintro e w2 ⟨rfl, hn⟩
  rw [HC.out]
  go_wp2
  go_ret
  exact ⟨rfl, hn⟩
theorem anti_ord : OrdOk (.func (.func 16) #[] #[]) can := ⟨_, rfl, run_anti, fun a b w ha hb => anti_is a b ha hb w⟩
/-- where a set stands, under any order -/
structure Sg (key : Int → Int) (o : Value) (B : Nat) (w : World) (t : Nat) (S : TS) (T : Tr) (q : Nat) : Prop where
  m : TM2 w t S
  inv : Inv key S T q
  ord : S.ord = o
  bt : B ≤ t
  bn : B ≤ S.nb
  bf : B ≤ S.fb
section
variable {key : Int → Int} {c : Int → Int → Int} {o : Value} {B : Nat} {w : World} {t : Nat} {S : TS} {T : Tr} {q : Nat}
theorem Sg.of {w' : World} (h : Sg key o B w t S T q) (hb : Below w.heap.size w w') : Sg key o B w' t S T q := ⟨h.m.of hb, h.inv, h.ord, h.bt, h.bn, h.bf⟩
theorem Sg.below {w' : World} {S' : TS} (h : Sg key o B w t S T q) (hf : Fr t S S' w w') : Below B w w' :=
  ⟨hf.out.os, hf.out.tape, hf.out.output, hf.out.size, fun k hk => hf.out.block k (by have := h.m.m.blk.lt; have := h.bt; omega) (by have := h.bt; have := h.bn; have := h.bf; simp; omega)⟩
theorem Sg.next {w' : World} {S' : TS} {T' : Tr} (h : Sg key o B w t S T q) (hm : TM2 w' t S') (hf : Fr t S S' w w') (hi : Inv key S' T' (q + 1)) (ho : S'.ord = S.ord) : Sg key o B w' t S' T' (q + 1) := by
  have hs := h.m.m.blk.lt
  have h1 := hf.nb
  have h2 := hf.fb
  have h3 := h.bt
  have h4 := h.bn
  have h5 := h.bf
  exact ⟨hm, hi, ho.trans h.ord, h.bt, by omega, by omega⟩
/-- what is not found is not there -/
theorem none_keys (hc : OrdK c key) (h : Inv key S T q) (x : Int) (h0 : T.found (fun i => c x (S.v i)) = 0) : ∀ y ∈ vals S T, key y ≠ key x := by
  have hpos := fun n hn => (h.ok.pos n hn).1
  intro z hz
  obtain ⟨n, hn, rfl⟩ := List.mem_map.1 hz
  have hnil := (zip_found (fun i => c x (S.v i)) T [] hpos).1 h0
  have hp := zip_plug (fun i => c x (S.v i)) T []
  have hs := zip_sides hc x T [] h.srt (fun n hn => by cases hn) (fun n hn => by cases hn)
  rw [hnil] at hp
  have hn' : n ∈ (plug (zipOf (fun i => c x (S.v i)) T []).1 .nil).no := by rw [hp]; exact hn
  rw [plug_split] at hn'
  rcases List.mem_append.1 hn' with hm | hm
  · rcases List.mem_append.1 hm with hm | hm
    · have := (hc x (S.v n)).2.1 (hs.1 n hm); omega
    · cases hm
  · have := (hc x (S.v n)).1.1 (hs.2 n hm); omega
theorem Sg.put (hc : OrdK c key) (ho : OrdOk o c) (h : Sg key o B w t S T q) (x : Int) (hx : In64 x) (hq : q ≤ 400) :
    Calls Try.prog 17 #[ptr t 0, .int .i64 x] w fun e w' => ∃ b S' T', e = .returned (.bool b) ∧ Sg key o B w' t S' T' (q + 1) ∧ (∀ y ∈ vals S' T', y = x ∨ y ∈ vals S T) ∧ Fr t S S' w w' := by
  have ho' : OrdOk S.ord c := by rw [h.ord]; exact ho
  by_cases h0 : T.found (fun i => c x (S.v i)) = 0
  · refine (Put_ok t hc h.inv x hx h0 hq w h.m ho').mono ?_
    rintro e w' ⟨rfl, S', ⟨T', P, Q, i1, i2, i3, i4, i5⟩, i6, i7, i8⟩
    refine ⟨_, S', T', rfl, h.next i7 i8 i1 i6, fun y hy => ?_, i8⟩
    have hL : vals S T = P.map S.v ++ Q.map S.v := by unfold vals; rw [i2, List.map_append]
    rw [i5] at hy
    rw [hL]
    rcases List.mem_append.1 hy with hy | hy
    · exact .inr (List.mem_append.2 (.inl hy))
    · rcases List.mem_cons.1 hy with hy | hy
      · exact .inl hy
      · exact .inr (List.mem_append.2 (.inr hy))
  · refine (Put_old t S c x T _ rfl h0 w h.m.m ho' hx h.inv.ok.rep h.inv.v64 (by have := h.inv.sz; omega)).mono ?_
    rintro e w' ⟨rfl, hn⟩
    exact ⟨_, S, T, rfl, ⟨h.m.of hn, h.inv.more, h.ord, h.bt, h.bn, h.bf⟩, fun y hy => .inr hy, Fr.ofBelow hn⟩
theorem Sg.del (hc : OrdK c key) (ho : OrdOk o c) (h : Sg key o B w t S T q) (x : Int) (hx : In64 x) (hq : q ≤ 400) :
    Calls Try.prog 18 #[ptr t 0, .int .i64 x] w fun e w' => ∃ b S' T', e = .returned (.bool b) ∧ Sg key o B w' t S' T' (q + 1) ∧ (∀ y ∈ vals S' T', y ∈ vals S T ∧ key y ≠ key x) ∧ Fr t S S' w w' := by
  have ho' : OrdOk S.ord c := by rw [h.ord]; exact ho
  by_cases h0 : T.found (fun i => c x (S.v i)) = 0
  · refine (Del_none t S c x T _ rfl h0 w h.m.m ho' hx h.inv.ok.rep h.inv.v64 (by have := h.inv.sz; omega)).mono ?_
    rintro e w' ⟨rfl, hn⟩
    exact ⟨_, S, T, rfl, ⟨h.m.of hn, h.inv.more, h.ord, h.bt, h.bn, h.bf⟩, fun y hy => ⟨hy, none_keys hc h.inv x h0 y hy⟩, Fr.ofBelow hn⟩
  · refine (Del_ok t hc h.inv x hx h0 hq w h.m ho').mono ?_
    rintro e w' ⟨rfl, S', ⟨T', n, P, Q, i1, i2, i6, i3, i4, i5⟩, i7, i8, i9⟩
    refine ⟨_, S', T', rfl, h.next i8 i9 i1 i7, fun y hy => ?_, i9⟩
    have hL : vals S T = P.map S.v ++ S.v n :: Q.map S.v := by unfold vals; rw [i2, List.map_append, List.map_cons]
    rw [i5] at hy
    rw [hL]
    rcases List.mem_append.1 hy with hy | hy
    · obtain ⟨m, hm, rfl⟩ := List.mem_map.1 hy
      exact ⟨List.mem_append.2 (.inl hy), by have := i3 m hm; omega⟩
    · obtain ⟨m, hm, rfl⟩ := List.mem_map.1 hy
      exact ⟨List.mem_append.2 (.inr (List.mem_cons_of_mem _ hy)), by have := i4 m hm; omega⟩
end
end Go.Proofs.Ytabdjplpagcniaa

namespace Go.Proofs.Ytabdjplpagcniaa
open Go.ChangeShapes Go.WideShapes Go.ChangeAt Go.RowKit

theorem own : ownKnob Try.prog.godebug = none := by kernel_rfl
theorem laidOut : laidOutB Try.prog = true := by kernel_rfl
theorem in64_wf {x : Int} (h : (Lit.int .i64 x).wf = true) : In64 x := by
  simp [Lit.wf, IntKind.min, IntKind.max, IntKind.signed, IntKind.bits] at h
  unfold In64; omega
theorem blk_add (a : Addr) (n : Nat) : (a.add n).block = a.block := by unfold Addr.add; split <;> rfl
/-- a slice of numbers -/
structure Nums (w : World) (ao : Option Addr) (n cap : Nat) (X : Nat → Int) : Prop where
  ptr : 0 < n → ∃ a, ao = some a ∧ a.block < w.heap.size ∧ ∀ i, i < n → w.cell? (a.add i) = some (.int .i64 (X i))
  capl : n ≤ cap
  capb : cap ≤ 9223372036854775807
  x64 : ∀ i, i < n → In64 (X i)
section
variable {H : Type} {enc : TypeId × Value → H} {w : World} {base : Nat} {held : Bool}
set_option maxRecDepth 100000 in
theorem open_nums {r : Reach} {b0 : Nat} {v : Value} {d : DataW H} {p : List MemPlace} (hv : Value.okWide Try.prog w r b0 27 v) (h : DataW.Trod enc Try.prog w base (fun _ => true) held 27 v d p) :
    ∃ ao n cap X, v = .slice ao n cap ∧ Nums w ao n cap X := by
  obtain ⟨ao, n, cap, rfl⟩ := okWide_slice Try.underlying27 hv
  obtain ⟨fuel, hf⟩ := h
  have hC1 : Try.prog.cellsOf 3 = 1 := by kernel_rfl
  rcases Go.Deep.open_slice1 Try.underlying27 hC1 hf with ⟨hc, hx⟩ | ⟨a, len, c2, m, k, V0, D0, P0, hc, _, hl, hm, hmm, hx, hall⟩
  · obtain ⟨rfl, rfl, rfl⟩ : ao = none ∧ n = 0 ∧ cap = 0 := by simpa [Value.cells] using hc
    exact ⟨none, 0, 0, fun _ => 0, rfl, fun h => absurd h (by omega), Nat.le_refl _, by omega, fun i h => absurd h (by omega)⟩
  · obtain ⟨rfl, rfl, rfl⟩ : ao = some a ∧ n = len ∧ cap = c2 := by simpa [Value.cells] using hc
    have hmc : m = cap := by rw [hmm]; rfl
    have key : ∀ i, i < n → ∃ y : Int, V0 i = .int .i64 y ∧ In64 y := by
      intro i hi
      obtain ⟨_, t0⟩ := hall i (by omega)
      obtain ⟨a0, e0, _, g0⟩ := DataW.trod_int Try.underlying3 t0
      exact ⟨a0, by simpa using e0, in64_wf g0⟩
    refine ⟨some a, n, cap, fun i => if h : i < n then (key i h).choose else 0, rfl, fun h0 => ⟨a, rfl, ?_, fun i hi => ?_⟩, hl, hm, fun i hi => ?_⟩
    · have := (hall 0 (by omega)).1
      have := World.block_lt_of_cell? _ _ this
      rwa [blk_add] at this
    · have e0 := (hall i (by omega)).1
      rw [(key i hi).choose_spec.1] at e0
      simp only [dif_pos hi]
      exact e0
    · simp only [dif_pos hi]
      exact (key i hi).choose_spec.2
end
end Go.Proofs.Ytabdjplpagcniaa

namespace Go.Proofs.Ytabdjplpagcniaa
open Go.RowKit Go.Shelf
attribute [local go_sem] Oper.semAt_some

theorem Nums.at {w wr : World} {ao : Option Addr} {n cap : Nat} {X : Nat → Int} (h : Nums w ao n cap X) (hb : Below w.heap.size w wr) {i : Nat} (hi : i < n) :
    ∃ a, ao = some a ∧ wr.cell? (a.add i) = some (.int .i64 (X i)) ∧ In64 (X i) := by
  obtain ⟨a, h1, h2, h3⟩ := h.ptr (by omega)
  exact ⟨a, h1, by rw [hb.cell (by rw [blk_add]; exact h2)]; exact h3 i hi, h.x64 i hi⟩
theorem Sg.new {B : Nat} {w : World} {t : Nat} (nb : Nat) (hm : TM2 w t (TS.new (.func (.func 16) #[] #[]) nb)) (ht : B ≤ t) (hn : B ≤ nb) :
    Sg ak (.func (.func 16) #[] #[]) B w t (TS.new (.func (.func 16) #[] #[]) nb) .nil 0 := by
  refine ⟨hm, ⟨rfl, trivial, List.nodup_nil, Nat.zero_lt_one, rfl, rfl, ?_, ?_, ?_, ?_, rfl, List.Pairwise.nil, ?_, Nat.le_refl _, Nat.le_refl _, Nat.le_refl _⟩, rfl, ht, hn, hn⟩
  · intro i hi s hs; exact Nat.zero_lt_one
  · intro i hi; exact ⟨by show (0 : Int) ≤ 0; omega, by show (0 : Int) ≤ _; omega⟩
  · intro j hj; exact absurd hj (Nat.not_lt_zero _)
  · intro i j hi; exact absurd hi (Nat.not_lt_zero _)
  · intro i hi; show In64 0; unfold In64; omega
theorem turns {n tn j : Nat} (hj : j < n) : ∃ r, r < n ∧ (r + tn) % n = j := by
  refine ⟨(j + (n - tn % n)) % n, Nat.mod_lt _ (by omega), ?_⟩
  have h1 : tn % n < n := Nat.mod_lt _ (by omega)
  rw [Nat.mod_add_mod]
  have h2 := Nat.div_add_mod tn n
  have : j + (n - tn % n) + tn = j + n * (tn / n + 1) := by rw [Nat.mul_add]; omega
  rw [this, Nat.add_mul_mod_self_left, Nat.mod_eq_of_lt hj]
theorem vals_nil {S : TS} {T : Tr} (h : vals S T = []) : T = .nil := by
  cases T with
  | nil => rfl
  | nd i l r => exfalso; unfold vals at h; rw [nd_no] at h; simp at h
/-- the thing told last -/
def lastV (S : TS) (T : Tr) : Nat → Int
  | 0 => 0
  | k + 1 => S.v (T.ino.getD k 0)
set_option maxRecDepth 100000 in
set_option maxHeartbeats 4000000 in
theorem AvlSorts_any (ao : Option Addr) (n cap : Nat) (X : Nat → Int) (tu : Int) (w : World) (h : Nums w ao n cap X) (htu : In64 tu) :
    Calls Try.prog 5 #[.slice ao n cap, .int .i64 tu] w fun e w' => e = .returned (.bool true) ∧ Below w.heap.size w w' := by
  have hcl := h.capl
  have hcb := h.capb
  have HO := Lib.hid h
  clear h
  refine (callsIn_wide (n := 3)).1 ?_
  refine callsIn_of_wp_marks Try.func5 rfl trivial ?_ rfl
  simp only [Try.ntmps5, List.size_toArray, List.length_cons, List.length_nil, Nat.reduceAdd, Nat.reduceSub, Array.replicate_succ, Array.replicate_zero, List.push_toArray, List.append_toArray, List.nil_append, List.cons_append]
  gi_wp2_with fail
  refine ⟨trivial, callsIn_wide.2 ?_⟩
  refine calls_w ?_
  intro V hV
  have kr : Blk V w.heap.size #[.bool false] 4 := by rw [hV]; exact Blk.new _ _ _
  have hbV : Below w.heap.size w V := by rw [hV]; exact below_a1 _ _
  clear hV
  refine (New_is 16 V).mono ?_
  rintro e W1 ⟨t, nb, rfl, hm, ht, hnb, hn⟩
  have z0 := kr.lt
  have S0 := Lib.hid (Sg.new (B := w.heap.size + 1) nb hm (by omega) (by omega))
  have K1 := Lib.hid (kr.of hn)
  have hb1 := hbV.trans (hn.mono hbV.size)
  obtain ⟨rb, erb⟩ : ∃ b, w.heap.size = b := ⟨_, rfl⟩
  have hrb : w.heap.size ≤ rb := by omega
  rw [erb] at K1 S0
  rw [show (w.heap.size) = rb from erb]
  clear hn hm kr ht hnb hbV z0
  by_cases hbig : 150 < n ∨ tu < 0 ∨ 1000 < tu
  · have k3 := K1.out.cell 0
    have k4 := K1.out.free 0
    have k5 := K1.out.lt
    simp only [List.getElem?_toArray, List.getElem?_cons_zero] at k3
    clear S0
    have fin : ∀ W2, Below W1.heap.size W1 W2 → Blk (W2.setCell ⟨rb, 0, none⟩ (.bool true)) rb #[.bool true] 4 ∧ Below w.heap.size w (W2.setCell ⟨rb, 0, none⟩ (.bool true)) := fun W2 hn =>
      ⟨(K1.out.of hn).put 0 (.bool true), (hb1.trans (hn.mono hb1.size)).setCell hrb _⟩
    have FIN := Lib.hid fin
    clear fin
    by_cases hx1 : 150 < n
    · clear hbig
      gi_wp2_with fail
      refine ⟨trivial, callsIn_wide.2 ?_⟩
      refine (awake_is W1).mono ?_
      rintro e W2 ⟨rfl, hn⟩
      have q3 := (K1.out.of hn).cell 0
      have q4 := (K1.out.of hn).free 0
      have q5 := (K1.out.of hn).lt
      simp only [List.getElem?_toArray, List.getElem?_cons_zero] at q3
      have F := Lib.hid (FIN.out W2 hn)
      clear hn FIN
      gi_wp2_with fail
      have h6 : (W2.setCell ⟨rb, 0, none⟩ (.bool true)).cell? ⟨rb, 0, none⟩ = some (.bool true) := F.out.1.cell 0
      refine ⟨.bool true, ?_, rfl, F.out.2⟩
      simp [results, Try.results5, go_sem, h6]
    · by_cases hx2 : tu < 0
      · clear hbig
        gi_wp2_with fail
        refine ⟨trivial, callsIn_wide.2 ?_⟩
        refine (awake_is W1).mono ?_
        rintro e W2 ⟨rfl, hn⟩
        have q3 := (K1.out.of hn).cell 0
        have q4 := (K1.out.of hn).free 0
        have q5 := (K1.out.of hn).lt
        simp only [List.getElem?_toArray, List.getElem?_cons_zero] at q3
        have F := Lib.hid (FIN.out W2 hn)
        clear hn FIN
        gi_wp2_with fail
        have h6 : (W2.setCell ⟨rb, 0, none⟩ (.bool true)).cell? ⟨rb, 0, none⟩ = some (.bool true) := F.out.1.cell 0
        refine ⟨.bool true, ?_, rfl, F.out.2⟩
        simp [results, Try.results5, go_sem, h6]
      · have hx3 : 1000 < tu := by omega
        clear hbig
        gi_wp2_with fail
        refine ⟨trivial, callsIn_wide.2 ?_⟩
        refine (awake_is W1).mono ?_
        rintro e W2 ⟨rfl, hn⟩
        have q3 := (K1.out.of hn).cell 0
        have q4 := (K1.out.of hn).free 0
        have q5 := (K1.out.of hn).lt
        simp only [List.getElem?_toArray, List.getElem?_cons_zero] at q3
        have F := Lib.hid (FIN.out W2 hn)
        clear hn FIN
        gi_wp2_with fail
        have h6 : (W2.setCell ⟨rb, 0, none⟩ (.bool true)).cell? ⟨rb, 0, none⟩ = some (.bool true) := F.out.1.cell 0
        refine ⟨.bool true, ?_, rfl, F.out.2⟩
        simp [results, Try.results5, go_sem, h6]
  · have hb1' : n ≤ 150 ∧ 0 ≤ tu ∧ tu ≤ 1000 := by omega
    obtain ⟨hn1, ht1, ht2⟩ := hb1'
    obtain ⟨tn, rfl⟩ : ∃ tn : Nat, tu = tn := ⟨tu.toNat, by omega⟩
    have hq1 : ¬ 150 < n := by omega
    have hq2 : ¬ (tn : Int) < 0 := by omega
    have hq3 : ¬ 1000 < (tn : Int) := by omega
    clear hbig
    gi_wp2_with fail
    gi_loopg [35] n (fun gk s35 wr => ∃ (i : Nat) (S : TS) (T : Tr), s35 = .int .i64 i ∧ i ≤ n ∧ n - i ≤ gk ∧ Hid (Sg ak (.func (.func 16) #[] #[]) (rb + 1) wr t S T i) ∧ Hid (∀ y ∈ vals S T, ∃ j, j < n ∧ y = X j) ∧ Hid (Blk wr rb #[.bool false] 4) ∧ Below w.heap.size w wr)
    case atStart => exact ⟨0, _, _, rfl, Nat.zero_le _, by omega, S0, Lib.hid (fun y hy => by cases hy), K1, hb1⟩
    case round =>
      clear S0 K1 hb1
      obtain ⟨i, S, T, rfl, hi, hg, hS, hV, hK, hb⟩ := hrel
      by_cases hlt : i < n
      · obtain ⟨a, rfl, o0, hx⟩ := HO.out.at hb hlt
        have hi4 : i ≤ 400 := by omega
        gi_wp2_with fail
        refine ⟨trivial, callsIn_wide.2 ?_⟩
        refine (hS.out.put ordk_an anti_ord (X i) hx hi4).mono ?_
        rintro e W2 ⟨b, S', T', rfl, hs, hv, hf⟩
        have S2 := Lib.hid hs
        have V2 : Hid (∀ y ∈ vals S' T', ∃ j, j < n ∧ y = X j) := Lib.hid fun y hy => by
          rcases hv y hy with h1 | h1
          · exact ⟨i, hlt, h1⟩
          · exact hV.out y h1
        have bl := hS.out.below hf
        have K2 := Lib.hid (hK.out.below bl (by omega))
        have hb2 := hb.trans (bl.mono (by omega))
        clear hs hv hf bl hS hV hK hb o0
        gi_wp2_with fail
        gi_roundg (n - (i + 1))
        case measure => omega
        case rel => exact ⟨i + 1, S', T', by norm_cast, by omega, Nat.le_refl _, S2, V2, K2, hb2⟩
      · have hi4 : i ≤ 400 := by omega
        gi_wp2_with fail
        refine ⟨trivial, callsIn_wide.2 ?_⟩
        refine calls_w ?_
        intro Z hZ
        have kl : Blk Z wr.heap.size #[.int .i64 0] 3 := by rw [hZ]; exact (Blk.new _ _ _).alloc _
        have kc : Blk Z (wr.heap.size + 1) #[.int .i64 0] 3 := by rw [hZ]; exact Blk.new1 _ _ _ _
        have hbZ : Below wr.heap.size wr Z := by rw [hZ]; exact below_a2 _ _ _
        clear hZ
        refine (All_is t Z).mono ?_
        rintro e W2 ⟨rfl, kb, hn⟩
        have hm2 := hbZ.trans (hn.mono hbZ.size)
        have T2 := Lib.hid (hS.out.of hm2)
        have kl2 := kl.of hn
        have kc2 := kc.of hn
        have kr2 := hK.out.of hm2
        have hb2 := hb.trans (hm2.mono hb.size)
        have z1 := kc.lt
        have z2 := kb.lt
        have t1 := hS.out.m.m.blk.lt
        have t2 := hS.out.m.m.row.lt
        have t3 := hS.out.m.lf
        have t4 := hK.out.lt
        have t5 := hS.out.bt
        have t6 := hS.out.bn
        have t7 := hS.out.bf
        clear kl kc hbZ hn hm2 hK
        obtain ⟨lb, elb⟩ : ∃ b, wr.heap.size = b := ⟨_, rfl⟩
        obtain ⟨cb, ecb⟩ : ∃ b, wr.heap.size + 1 = b := ⟨_, rfl⟩
        obtain ⟨bt, ebt⟩ : ∃ b, Z.heap.size = b := ⟨_, rfl⟩
        have o1 : lb < cb := by omega
        have o2 : cb < bt := by omega
        have o3 : rb < lb := by omega
        rw [ebt] at kb z2 ⊢
        rw [ecb] at kc2 ⊢
        rw [elb] at kl2 t1 t2 t3
        rw [show wr.heap.size = lb from elb]
        clear ecb ebt elb z1
        have T2' := T2.out.m
        gi_wp2_with fail
        obtain ⟨J, hJ⟩ : ∃ J : Nat → World → Prop, J = fun k W => TM2 W t S ∧ Blk W bt #[ptr t 0] 23 ∧ Blk W rb #[.bool false] 4 ∧ Blk W lb #[.int .i64 (lastV S T k)] 3 ∧ Blk W cb #[.int .i64 (k : Nat)] 3 ∧ Below w.heap.size w W := ⟨_, rfl⟩
        have HJ : Hid (∀ k W, J k W ↔ (TM2 W t S ∧ Blk W bt #[ptr t 0] 23 ∧ Blk W rb #[.bool false] 4 ∧ Blk W lb #[.int .i64 (lastV S T k)] 3 ∧ Blk W cb #[.int .i64 (k : Nat)] 3 ∧ Below w.heap.size w W)) := Lib.hid fun k W => by rw [hJ]
        clear hJ
        refine wpIn_rangeK (m := 1) (gf := 31) (lb := #[ptr bt 0]) (N := T.size) (encs := valE S T) (Kp := fun W => Blk W bt #[ptr t 0] 23 ∧ TM W t S) rfl (fun args w => by go_simp) (All1_tells bt t S T _ hS.out.inv.ok.rep (by have := hS.out.inv.sz; omega)) (fun _ => rfl)
          J (fun _ _ _ => False) ?stable (fun _ _ _ _ h _ => h.elim) ?keeps ?start ?round ?done (fun _ _ _ _ _ h _ => h.elim)
        case stable =>
          intro k W W' hj hbl
          obtain ⟨j1, j2, j3, j4, j5, j6⟩ := (HJ.out k W).1 hj
          exact (HJ.out k W').2 ⟨⟨j1.m.below hbl (by omega) (by omega) (.inr (by omega)), Nat.lt_of_lt_of_le j1.lf hbl.size⟩, j2.below hbl (by omega), j3.below hbl (by omega), j4.below hbl (by omega), j5.below hbl (by omega), j6.trans (hbl.mono (by omega))⟩
        case keeps =>
          intro k W hj
          obtain ⟨j1, j2, j3, j4, j5, j6⟩ := (HJ.out k W).1 hj
          exact ⟨j2, j1.m⟩
        case start => exact (HJ.out 0 W2).2 ⟨T2', kb, kr2, kl2, kc2, hb2⟩
        case round =>
          clear T2' kl2 kc2 kr2 kb T2
          rintro l2 D k W3 hk hj g1 g2 g3 g4
          obtain ⟨j1, j2, j3, j4, j5, j6⟩ := (HJ.out k W3).1 hj
          unfold valE
          have hin := hS.out.inv.ok.rep.ino_at hk
          obtain ⟨y, hy⟩ : ∃ y, S.v (T.ino.getD k 0) = y := ⟨_, rfl⟩
          have hy64 : In64 y := by rw [← hy]; exact hS.out.inv.v64 _ hin.2
          rw [hy]
          have HY := Lib.hid hy
          have J2 := Lib.hid (And.intro j1 (And.intro j2 (And.intro j3 (And.intro j4 (And.intro j5 j6)))))
          clear j1 j2 j3 j4 j5 j6 hj hy hin
          gi_wp2
          refine ⟨⟨Fix2.of (OutL.refl [] _) g3 g4 (by simp) (by simp), Above.refl _ _⟩, ?_⟩
          intro W4 hW4
          obtain ⟨j1, j2, j3, j4, j5, j6⟩ := J2.out
          have GGf : Hid (∀ Wx, Below W4.heap.size W4 Wx → (Fix2 l2 D W4 (((Wx.setCell ⟨lb, 0, none⟩ (.int .i64 y)).setCell ⟨cb, 0, none⟩ (.int .i64 ((k + 1 : Nat) : Int))).drew) ∧ J (k + 1) (((Wx.setCell ⟨lb, 0, none⟩ (.int .i64 y)).setCell ⟨cb, 0, none⟩ (.int .i64 ((k + 1 : Nat) : Int))).drew)) ∧ Above (W2.heap.size + 2) W4 (((Wx.setCell ⟨lb, 0, none⟩ (.int .i64 y)).setCell ⟨cb, 0, none⟩ (.int .i64 ((k + 1 : Nat) : Int))).drew)) := Lib.hid fun Wx hx => by
            have s4 := hW4.size
            have sx := hx.size
            have osets : OutL [lb, cb] Wx (((Wx.setCell ⟨lb, 0, none⟩ (.int .i64 y)).setCell ⟨cb, 0, none⟩ (.int .i64 ((k + 1 : Nat) : Int))).drew) := (((OutL.refl [lb, cb] Wx).set (b := lb) (by simp) 0 none _).set (b := cb) (by simp) 0 none _).drew
            have oall : OutL [lb, cb] W4 (((Wx.setCell ⟨lb, 0, none⟩ (.int .i64 y)).setCell ⟨cb, 0, none⟩ (.int .i64 ((k + 1 : Nat) : Int))).drew) := (OutL.ofBelow hx).trans osets
            have x1 := ((j1.outs hW4 (by simp; omega) (by simp; omega) (by simp; omega)).of hx).outs osets (by simp; omega) (by simp; omega) (by simp; omega)
            have x2 := ((j2.out hW4 (by simp; omega)).of hx).out osets (by simp; omega)
            have x3 := ((j3.out hW4 (by simp; omega)).of hx).out osets (by simp; omega)
            have x4 := ((j4.out hW4 (by simp; omega)).of hx)
            have x5 := ((j5.out hW4 (by simp; omega)).of hx)
            refine ⟨⟨Fix2.of oall (by omega) (by omega) (by simp; omega) (by simp; omega), (HJ.out (k + 1) _).2 ⟨x1, x2, x3, ?_, ?_, ?_⟩⟩, Above.ofOut oall (by simp; omega)⟩
            · rw [show lastV S T (k + 1) = y from HY.out]
              exact ((x4.put 0 (.int .i64 y)).set (by omega) 0 none _).of (Below.refl _ _).drew
            · exact ((x5.set (by omega) 0 none _).put 0 _).of (Below.refl _ _).drew
            · refine j6.trans (Below.trans ⟨hW4.os, hW4.tape, hW4.output, hW4.size, fun u hu => hW4.block u (by have := j6.size; omega) (by have := hb2.size; simp; omega)⟩ ⟨oall.os, oall.tape, oall.output, oall.size, fun u hu => oall.block u (by have := j6.size; omega) (by have := hb.size; simp; omega)⟩)
          have x1 := (j4.out hW4 (by simp; omega)).cell 0
          have x2 := (j5.out hW4 (by simp; omega)).cell 0
          have x3 := (j4.out hW4 (by simp; omega)).free 0
          have x4 := (j5.out hW4 (by simp; omega)).free 0
          have x5 := (j4.out hW4 (by simp; omega)).lt
          have x6 := (j5.out hW4 (by simp; omega)).lt
          have K4 := Lib.hid (And.intro (j4.out hW4 (by simp; omega)) (j5.out hW4 (by simp; omega)))
          simp only [List.getElem?_toArray, List.getElem?_cons_zero] at x1 x2
          clear j1 j2 j3 j4 j5 j6 J2
          have ne1 : lb ≠ cb := by omega
          cases k with
          | zero =>
            rw [show lastV S T 0 = 0 from rfl] at x1
            gi_wp2_with fail
            refine ⟨trivial, ?_⟩
            gi_wp2_with fail
            have e1 : IntKind.i64.wrap 1 = ((0 + 1 : Nat) : Int) := by decide
            have E1 := Lib.hid e1
            clear e1
            gi_region
            all_goals
              gi_wp2_with fail
              rw [E1.out]
              exact GGf.out W4 (Below.refl _ _)
          | succ k =>
            have hrise := hS.out.inv.rises ordk_an k hk
            rw [HY.out] at hrise
            obtain ⟨y1, hy1⟩ : ∃ y1, S.v (T.ino.getD k 0) = y1 := ⟨_, rfl⟩
            rw [hy1] at hrise
            rw [show lastV S T (k + 1) = y1 from hy1] at x1
            have hin1 := hS.out.inv.ok.rep.ino_at (k := k) (by omega)
            have hy164 : In64 y1 := by rw [← hy1]; exact hS.out.inv.v64 _ hin1.2
            have hc1 : cten y1 y = 1 := by
              unfold can at hrise
              unfold cten at hrise ⊢
              split
              · rename_i h1; rw [if_pos h1] at hrise; omega
              · rename_i h1
                rw [if_neg h1] at hrise
                split
                · rfl
                · rename_i h2; rw [if_neg h2] at hrise; omega
            have HC := Lib.hid hc1
            obtain ⟨kk, hkk⟩ : ∃ kk : Int, (((k + 1) : Nat) : Int) = kk := ⟨_, rfl⟩
            have hkp : 0 < kk := by omega
            rw [hkk] at x2
            have HKK := Lib.hid (show IntKind.i64.wrap ((k : Int) + 1 + 1) = ((k + 1 + 1 : Nat) : Int) from (IntWalk.i64_in _ (by have := hS.out.inv.sz; omega)).trans (by omega))
            clear hrise hy1 hin1 hc1 hkk
            gi_wp2_with fail
            refine ⟨trivial, CallsIn.inRound l2 (callsIn_wide.2 ?_)⟩
            refine (tens_is y1 y hy164 hy64 W4).mono ?_
            rintro e W5 ⟨rfl, hn⟩
            rw [HC.out]
            have x1 := (K4.out.1.of hn).cell 0
            have x2 := (K4.out.2.of hn).cell 0
            have x3 := (K4.out.1.of hn).free 0
            have x4 := (K4.out.2.of hn).free 0
            have x5 := (K4.out.1.of hn).lt
            have x6 := (K4.out.2.of hn).lt
            have GG5 := Lib.hid (GGf.out W5 hn)
            clear hn
            gi_wp2_with fail
            gi_region
            all_goals
              gi_wp2_with fail
              rw [HKK.out]
              exact GG5.out
        case done =>
          clear T2' kl2 kc2 kr2 kb T2
          intro D W g1 hj hD
          obtain ⟨j1, j2, j3, j4, j5, j6⟩ := (HJ.out T.size W).1 hj
          have S0 := Lib.hid (show Sg ak (.func (.func 16) #[] #[]) (rb + 1) W t S T i from ⟨j1, hS.out.inv, hS.out.ord, hS.out.bt, hS.out.bn, hS.out.bf⟩)
          have K0 := Lib.hid j3
          have D0 : Hid (W.heap[D]? = some (.deferred (some [])) ∧ D ≠ t ∧ D ≠ S.nb ∧ D ≠ S.fb ∧ D < W.heap.size ∧ rb < D) := Lib.hid ⟨hD, by omega, by omega, by omega, (Array.getElem?_eq_some_iff.1 hD).1, by omega⟩
          have hV0 : Hid (∀ y ∈ vals S T, ∀ r', r' < 0 → ak y ≠ ak (X ((r' + tn) % n))) := Lib.hid fun y _ r' h => absurd h (Nat.not_lt_zero _)
          have b0 := j6
          clear j1 j2 j3 j4 j5 j6 hj hD hb2 z2 t1 t2 t3 t4 t5 t6 t7 o1 o2 o3 g1
          gi_wp2_with fail
          gi_loopg [59] n (fun gk s59 wr => ∃ (r : Nat) (S' : TS) (T' : Tr), s59 = .int .i64 r ∧ r ≤ n ∧ n - r ≤ gk ∧ Hid (Sg ak (.func (.func 16) #[] #[]) (rb + 1) wr t S' T' (i + r)) ∧ Hid (∀ y ∈ vals S' T', ∃ j, j < n ∧ y = X j) ∧ Hid (∀ y ∈ vals S' T', ∀ r', r' < r → ak y ≠ ak (X ((r' + tn) % n))) ∧ Hid (Blk wr rb #[.bool false] 4) ∧ Below w.heap.size w wr ∧ Hid (wr.heap[D]? = some (.deferred (some [])) ∧ D ≠ t ∧ D ≠ S'.nb ∧ D ≠ S'.fb ∧ D < wr.heap.size ∧ rb < D))
          case atStart => exact ⟨0, S, T, rfl, Nat.zero_le _, by omega, S0, hV, hV0, K0, b0, D0⟩
          case round =>
            clear S0 K0 b0 D0 hV0 hS hV hb
            obtain ⟨r, S', T', rfl, hr, hg2, hS, hV, hR, hK, hb, hD⟩ := hrel
            by_cases hlt2 : r < n
            · obtain ⟨p, hp⟩ : ∃ p, (r + tn) % n = p := ⟨_, rfl⟩
              have hpn : p < n := by rw [← hp]; exact Nat.mod_lt _ (by omega)
              obtain ⟨a, rfl, o0, hx⟩ := HO.out.at hb hpn
              have hmod : Int.tmod ((r : Int) + (tn : Int)) (n : Int) = (p : Int) := by
                rw [Int.tmod_eq_emod_of_nonneg (by omega), ← hp]; norm_cast
              have HP := Lib.hid hp
              have hn0 : ¬ n = 0 := by omega
              have hq4 : i + r ≤ 400 := by omega
              clear hp
              gi_wp2_with fail
              refine ⟨trivial, callsIn_wide.2 ?_⟩
              refine (hS.out.del ordk_an anti_ord (X p) hx hq4).mono ?_
              rintro e W5 ⟨b, S5, T5, rfl, hs, hv, hf⟩
              have S5' := Lib.hid hs
              have V5 : Hid (∀ y ∈ vals S5 T5, ∃ j, j < n ∧ y = X j) := Lib.hid fun y hy => hV.out y (hv y hy).1
              have R5 : Hid (∀ y ∈ vals S5 T5, ∀ r', r' < r + 1 → ak y ≠ ak (X ((r' + tn) % n))) := Lib.hid fun y hy r' hr' => by
                rcases Nat.lt_or_ge r' r with h1 | h1
                · exact hR.out y (hv y hy).1 r' h1
                · have h2 : r' = r := by omega
                  rw [h2, HP.out]; exact (hv y hy).2
              have bl := hS.out.below hf
              have K5 := Lib.hid (hK.out.below bl (by omega))
              have b5 := hb.trans (bl.mono (by omega))
              have D5 : Hid (W5.heap[D]? = some (.deferred (some [])) ∧ D ≠ t ∧ D ≠ S5.nb ∧ D ≠ S5.fb ∧ D < W5.heap.size ∧ rb < D) := by
                obtain ⟨d1, d2, d3, d4, d5, d6⟩ := hD.out
                have d7 := hf.keep d5 d2 d3 d4
                exact Lib.hid ⟨d7.1.trans d1, d2, d7.2.1, d7.2.2, Nat.lt_of_lt_of_le d5 hf.out.size, d6⟩
              clear hs hv hf bl hS hV hR hK hb hD o0 hmod HP
              gi_wp2_with fail
              refine ⟨trivial, callsIn_wide.2 ?_⟩
              refine (S5'.out.inv.check ordk_an (by omega) t W5 S5'.out.m (by rw [S5'.out.ord]; exact anti_ord)).mono ?_
              rintro e W6 ⟨rfl, hm, hf⟩
              have S6 := Lib.hid (show Sg ak (.func (.func 16) #[] #[]) (rb + 1) W6 t S5 T5 (i + r + 1) from ⟨hm, S5'.out.inv, S5'.out.ord, S5'.out.bt, S5'.out.bn, S5'.out.bf⟩)
              have bl := S5'.out.below hf
              have K6 := Lib.hid (K5.out.below bl (by omega))
              have b6 := b5.trans (bl.mono (by omega))
              have D6 : Hid (W6.heap[D]? = some (.deferred (some [])) ∧ D ≠ t ∧ D ≠ S5.nb ∧ D ≠ S5.fb ∧ D < W6.heap.size ∧ rb < D) := by
                obtain ⟨d1, d2, d3, d4, d5, d6⟩ := D5.out
                have d7 := hf.keep d5 d2 d3 d4
                exact Lib.hid ⟨d7.1.trans d1, d2, d7.2.1, d7.2.2, Nat.lt_of_lt_of_le d5 hf.out.size, d6⟩
              clear hm hf bl S5' K5 b5 D5
              gi_wp2_with fail
              gi_roundg (n - (r + 1))
              case measure => omega
              case rel => exact ⟨r + 1, S5, T5, by norm_cast, by omega, Nat.le_refl _, S6, V5, R5, K6, b6, D6⟩
            · have hnil : T' = .nil := by
                refine vals_nil (S := S') ?_
                cases hv : vals S' T' with
                | nil => rfl
                | cons y l =>
                  exfalso
                  obtain ⟨j, hj, e1⟩ := hV.out y (by rw [hv]; simp)
                  obtain ⟨r', hr', e2⟩ := turns (tn := tn) hj
                  have := hR.out y (by rw [hv]; simp) r' (by omega)
                  rw [e2, e1] at this
                  exact this rfl
              subst hnil
              have en : S'.n = 0 := hS.out.inv.n
              have ed : S'.d S'.root = 0 := by have := Ok.d hS.out.inv.d0 hS.out.inv.ok; exact this
              have L6 := Lib.hid (Len_is t S' wr hS.out.m.m)
              have EN := Lib.hid en
              have ED := Lib.hid ed
              clear hV hR en ed
              gi_wp2_with fail
              refine ⟨trivial, callsIn_wide.2 ?_⟩
              refine L6.out.mono ?_
              rintro e W5 ⟨rfl, hn⟩
              rw [EN.out]
              have S5 := Lib.hid (hS.out.of hn)
              have K5 := Lib.hid (hK.out.of hn)
              have b5 := hb.trans (hn.mono hb.size)
              have D5 := Lib.hid ((hn.block D hD.out.2.2.2.2.1).trans hD.out.1)
              have Dr := hD.out.2.2.2.2.2
              have Ds := Nat.lt_of_lt_of_le hD.out.2.2.2.2.1 hn.size
              clear hn hS hK hb hD L6
              gi_wp2_with fail
              refine ⟨trivial, callsIn_wide.2 ?_⟩
              refine (Deep_is t S' W5 S5.out.m.m S5.out.inv.root).mono ?_
              rintro e W6 ⟨rfl, hn⟩
              rw [ED.out]
              have K6 := Lib.hid (K5.out.of hn)
              have b6 := b5.trans (hn.mono b5.size)
              have D6 := Lib.hid ((hn.block D Ds).trans D5.out)
              have Ds6 := Nat.lt_of_lt_of_le Ds hn.size
              clear hn S5 K5 b5 D5 Ds
              gi_wp2_with fail
              refine ⟨trivial, callsIn_wide.2 ?_⟩
              refine (awake_is W6).mono ?_
              rintro e W7 ⟨rfl, hn⟩
              have K7 := Lib.hid (K6.out.of hn)
              have b7 := b6.trans (hn.mono b6.size)
              have D7 := Lib.hid ((hn.block D Ds6).trans D6.out)
              have q3 := K7.out.cell 0
              have q4 := K7.out.free 0
              have q5 := K7.out.lt
              simp only [List.getElem?_toArray, List.getElem?_cons_zero] at q3
              clear hn K6 b6 D6 Ds6
              have wsz := b7.size
              have HB7 := Lib.hid b7
              clear b7
              gi_wp2_with fail
              have hK : (W7.setCell ⟨rb, 0, none⟩ (.bool true)).heap[D]? = some (.deferred (some [])) := (Below.heap_setCell _ _ _ _ (show D ≠ rb by omega)).trans D7.out
              refine ⟨by simp, .inl ⟨_, _, rfl, run_takeDeferred hK, ?_⟩⟩
              have h6 : ((W7.setCell ⟨rb, 0, none⟩ (.bool true)).putObj D (.deferred none)).cell? ⟨rb, 0, none⟩ = some (.bool true) := ((K7.out.put 0 (.bool true)).out (putObj_out _ D (.deferred none)) (by simp; omega)).cell 0
              have o7 : OutL [rb, D] W7 ((W7.setCell ⟨rb, 0, none⟩ (.bool true)).putObj D (.deferred none)) := (((OutL.refl [rb, D] W7).set (b := rb) (by simp) 0 none _).trans ((putObj_out _ D _).mono fun k _ h => by simp at h ⊢; exact .inr h))
              refine ⟨.bool true, ?_, rfl, HB7.out.trans ⟨o7.os, o7.tape, o7.output, o7.size, fun u hu => o7.block u (by omega) (by simp; omega)⟩⟩
              simp [results, Try.results5, go_sem, h6]
end Go.Proofs.Ytabdjplpagcniaa

namespace Go.Proofs.Ytabdjplpagcniaa
open Go.ChangeShapes Go.WideShapes Go.ChangeAt Go.RowKit

set_option maxRecDepth 100000 in
set_option maxHeartbeats 1000000 in
theorem avlSorts_lifted (os : Os) (started : os.Started) (H : Type) (enc : TypeId × Value → H) :
    ReturnsInHanded {} Try.checked os 5 .any (Rows.avlSortsSpec.pre6 enc Try.prog Try.f5 Rows.avlSortsRow.domain false) (Rows.avlSortsSpec.post enc Try.prog Try.f5 false true false false) := by
  refine returnsInHanded_of_change (C := Try.checked) own started (by kernel_rfl) Try.func5
    (ChangeSpec.witness6 (enc := enc) (C := Try.checked) false ⟨#[], #[.slice none 0 0, .int .i64 0], []⟩ 8 (by kernel_rfl) (by kernel_rfl) (by kernel_rfl) (by kernel_rfl)) ?_
  intro W base args ds gs before hval0 hW hcnd _
  have hval : ∀ (j : Nat) t v, Try.f5.params[j]? = some t → args[j]? = some v → Value.okWide Try.prog W .any base t v := hval0
  have hW' := hW
  obtain ⟨p, q, hA0, hV, rfl, hfz, hnd⟩ := hW
  have hA : DataW.TrodAll enc Try.prog W 0 (fun _ => true) true Try.f5.params.toList args.toList ds p := hA0
  rw [Try.params5] at hA hval
  obtain ⟨v0, vs0, d0, ds0, p0, q0, hargs, rfl, rfl, h0, r0⟩ := trodAll_cons hA
  obtain ⟨v1, vs1, d1, ds1, p1, q1, rfl, rfl, rfl, h1, r1⟩ := trodAll_cons r0
  obtain ⟨rfl, rfl, rfl⟩ := trodAll_nil r1
  obtain rfl : args = #[v0, v1] := by cases args; simp_all
  obtain ⟨rfl, rfl⟩ := trodVars_none hV
  have k0 := h0
  have lt0 : ∀ x ∈ p0, x.block < W.heap.size := by obtain ⟨m, hm⟩ := k0; exact DataW.trod_lt m _ _ _ hm
  obtain ⟨ao0, n0, cap0, X0, rfl, io0⟩ := open_nums (hval 0 27 v0 rfl rfl) h0
  obtain ⟨x1, rfl, rfl, rfl, wx1⟩ := open_int Try.underlying3 (hval 1 3 v1 rfl rfl) h1
  have ix1 := in64_wf wx1
  clear hA0 hval0
  refine (AvlSorts_any ao0 n0 cap0 X0 x1 W io0 ix1).mono fun e W' ⟨he, bel⟩ => ?_
  subst he
  exact ⟨_, rfl, _, _, _, [], _, [], hW', trodAll_mk1 (shut_bool Try.underlying4 _), (trodAll_cons_mk (Below.trod laidOut (by kernel_rfl) (of_decide_eq_true (by kernel_rfl)) k0 bel lt0) (trodAll_cons_mk (shut_int Try.underlying3 wx1) trodAll_mk0)), rfl, bel.frame _, fun h => by cases h⟩

theorem avlSorts_holds : Rows.AvlSortsSaid :=
  OpenClaim.holds_of_wide 5 Try.f5 rfl rfl rfl rfl rfl rfl rfl ⟨rfl, rfl, rfl, rfl, rfl⟩ rfl rfl rfl rfl rfl (by kernel_rfl) Try.func5 (by kernel_rfl)
    (of_decide_eq_true (by kernel_rfl)) (by unfold Func.isWrapper; rw [if_neg (by decide +kernel)]; exact ⟨rfl, rfl⟩)
    (fun os started H enc _ => avlSorts_lifted os started H enc)
#print axioms avlSorts_holds
end Go.Proofs.Ytabdjplpagcniaa

