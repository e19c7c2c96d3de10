/- My texts TrA, TrB, TrC, TrD, TrE, RegKB, TrF, TrG, TrH, TrI, AwNB, AwUB, TrJ, PaA, TrK, TrL, TrM, TrN, TrO, TrP, TrQ, TrR, TrS, joined: what the last one needs of them. Conditions: as each lemma says. -/
import Derived.Test.YtdlpfiiakmhnlaaSTe1
import Derived.KernelRfl
import Derived.StillTail
import Derived.OrdersHeld
import Derived.Deep.Quiet
import Derived.Below
import Derived.WalkKit
import Derived.Test.YtdlpfiiakmhnlaaProg
import Derived.WalkSpells
import Derived.StillTactics
import Derived.Laws.Pointers
import Derived.Deep.RegionHeld3
import Derived.RowKit3
import Derived.Deep.QuietTactic
import Derived.BigQuiet
import Derived.BigRegion
import Derived.Lib.Hide
import Derived.WalkSmall
import Derived.Laws.BitsAllLaws
import Derived.IntWalk
import Derived.Deep.OwnRows
import Derived.Deep.LoopGhost
import Derived.Shelf.Bits.Mul64
import Derived.ProofKit
import Derived.OpenShut
import Derived.ShutString
import Derived.ChangeOld
import Derived.Lib.SmallJoins
import Derived.Laws.IdiomArrays
import Derived.Laws.CopyOwn
import Derived.Laws.AppendOwn
import Derived.Deep.DeepAppendRoom
import Derived.Lib.AppendZerosOnto
import Derived.Lib.Overlaps
import Derived.Deep.RegionLaw
import Derived.Shelf.RegionOpenPlain
import Derived.Deep.RegionWith
import Derived.Sort.LoopGhostIn
import Derived.RangeFuncNested
import Derived.RangeFuncBound
import Derived.RangeFuncCalls
import Derived.RangeFuncLeaves
import Derived.OwnWalk
import Derived.OwnWalkIn
import Derived.TacticsInMore
import Derived.LoopNIn
import Derived.LoopIn
import Derived.Deep.DeepFit
import Derived.Deep.DeepCutAuto
import Derived.Shelf.Abstract
import Derived.Shelf.RegionOpen
import Derived.Maps.OwnIn
import Derived.WalkMore
import Derived.Deep.SlicePairs
namespace Go.Proofs.Ytdlpfiiakmhnlaa
open Go.RowKit

section
variable {P : Program}
/-- a copy of elements of k cells into a row -/
theorem run_copy_rowk (w : World) (dT sT ty elem : TypeId) (g o dLen dCap : Nat) (a : Addr) (sLen sCap k : Nat) (cur : Array Value) (t : TypeId) (cs : List Value)
    (hu : P.underlying dT = some (.slice elem)) (hs : (P.info? elem).map (·.size) = some k)
    (hg : w.heap[g]? = some (.cells cur t (0, 0))) (hn : cs.length = Nat.min sLen dLen * k)
    (hsrc : ∀ j v, cs[j]? = some v → w.cell? (a.add j) = some v) (hfit : o + cs.length ≤ cur.size) (h1 : ∀ v ∈ cs, v.oneCell' = true) :
    (Builtin.copy_ #[dT, sT] ty #[.slice (some ⟨g, o, none⟩) dLen dCap, .slice (some a) sLen sCap]).run P w =
      .ok (goInt (Nat.min sLen dLen)) (w.setRow g (cur.toList.take o ++ cs ++ cur.toList.drop (o + cs.length)).toArray) := by
  have hl := run_loadCells_list (P := P) w a cs hsrc
  have hst := run_storeCells_at P g o t cs 0 cur w hg (by simpa using hfit) h1
  cases hq : P.info? elem with
  | none => simp [hq] at hs
  | some i =>
    have hi : i.size = k := by simpa [hq] using hs
    simp [Builtin.copy_, run_underlying hu, Builtin.lenOf, Builtin.firstCells, sizeOf, typeInfo, hq, hi, ← hn, hl, hst]
/-- a clear of a part of a row -/
theorem run_clear_rowk (w : World) (t e ty : TypeId) (i : TypeInfo) (z : Value) (ht : P.underlying t = some (.slice e)) (hi : P.info? e = some i) (hz : i.zero = some z) (g o n c : Nat) (cur : Array Value) (t' : TypeId)
    (hg : w.heap[g]? = some (.cells cur t' (0, 0))) (hn : 0 < n) (hfit : o + n * z.cells.size ≤ cur.size) (h1 : ∀ v ∈ z.cells.toList, v.oneCell' = true) :
    (Builtin.clear_ #[t] ty #[.slice (some ⟨g, o, none⟩) n c]).run P w = .ok (.tuple #[]) (w.setRow g (cur.toList.take o ++ (Builtin.zeroCells z.cells n).toList ++ cur.toList.drop (o + n * z.cells.size)).toArray) := by
  have hsz : (Builtin.zeroCells z.cells n).toList.length = n * z.cells.size := by rw [Array.length_toList]; exact size_zeroCells z.cells n
  have hst := run_storeCells_at P g o t' (Builtin.zeroCells z.cells n).toList 0 cur w hg (by rw [hsz]; simpa using hfit) (by
    intro v hv
    simp [Builtin.zeroCells] at hv
    obtain ⟨k, hk, hv⟩ := hv
    subst hv
    have hs0 : 0 < z.cells.size := by
      rcases Nat.eq_zero_or_pos z.cells.size with h0 | h0
      · rw [h0] at hk; omega
      · exact h0
    have hm : k % z.cells.size < z.cells.size := Nat.mod_lt _ hs0
    refine h1 _ ?_
    rw [getElem!_pos z.cells _ hm]; simp)
  rw [hsz] at hst
  obtain ⟨m, rfl⟩ : ∃ m, n = m + 1 := ⟨n - 1, by omega⟩
  simp [Builtin.clear_, run_underlying ht, zeroValue, typeInfo, hi, hz, hst]
theorem step_copy_rowk {ops : Array Oper} {o : Oper} {a : Act} {w : World} {K : Act → World → Prop} {Q : Exit → Act → World → Prop} {E : Prop} (hgd : o.guard = none) (d s : Operand) (dT sT : TypeId)
    (ho : o.op = .call { callee := .builtin .copy, args := #[d, s], argTypes := #[dT, sT] }) (v u : Value) (hd : a.eval d = v) (hs : a.eval s = u) {v' : Value} {w' : World} (hr : (Builtin.copy_ #[dT, sT] o.type #[v, u]).run P w = .ok v' w') (hK : K (a.put o.dst v') w') :
    if Region.wanted o (yielded ops a.tmps) = true then Oper.wp P o a w K Q else E := by
  have hw : Region.wanted o (yielded ops a.tmps) = true := by simp [Region.wanted, hgd]
  rw [if_pos hw]
  unfold Oper.wp
  simp [execOp, ho, resolve, invoke, builtin, hd, hs, hr, Result.andThen]
  exact hK
theorem wpList_copy_rowk {w : World} {ops : Array Oper} {rest : List Oper} {o : Oper} {a : Act} {Q : Exit → Act → World → Prop} (hgd : o.guard = none) (d s : Operand) (dT sT : TypeId)
    (ho : o.op = .call { callee := .builtin .copy, args := #[d, s], argTypes := #[dT, sT] }) (v u : Value) (hd : a.eval d = v) (hs : a.eval s = u) {v' : Value} {w' : World} (hr : (Builtin.copy_ #[dT, sT] o.type #[v, u]).run P w = .ok v' w') (h : wpList P ops Q rest (a.put o.dst v') w') : wpList P ops Q (o :: rest) a w := by
  refine wpList_plain hgd fun K hK => ?_
  unfold Oper.wp
  simp [execOp, ho, resolve, invoke, builtin, hd, hs, hr, Result.andThen]
  exact hK _ _ h
theorem wpList_clear_run {w : World} {ops : Array Oper} {rest : List Oper} {o : Oper} {a : Act} {Q : Exit → Act → World → Prop} (hgd : o.guard = none) (d : Operand) (dT : TypeId)
    (ho : o.op = .call { callee := .builtin .clear, args := #[d], argTypes := #[dT] }) (v : Value) (hd : a.eval d = v) {v' : Value} {w' : World} (hr : (Builtin.clear_ #[dT] o.type #[v]).run P w = .ok v' w') (h : wpList P ops Q rest (a.put o.dst v') w') : wpList P ops Q (o :: rest) a w := by
  refine wpList_plain hgd fun K hK => ?_
  unfold Oper.wp
  simp [execOp, ho, resolve, invoke, builtin, hd, hr, Result.andThen]
  exact hK _ _ h
theorem wpList_append_run {w : World} {ops : Array Oper} {rest : List Oper} {o : Oper} {a : Act} {Q : Exit → Act → World → Prop} (hgd : o.guard = none) (s x : Operand) (t t' : TypeId)
    (ho : o.op = .call { callee := .builtin .append, args := #[s, x], argTypes := #[t, t'] }) (v u : Value) (hs : a.eval s = v) (hx : a.eval x = u) {v' : Value} {w' : World} (hr : (Builtin.append_ #[t, t'] o.type #[v, u]).run P w = .ok v' w') (h : wpList P ops Q rest (a.put o.dst v') w') : wpList P ops Q (o :: rest) a w := by
  refine wpList_plain hgd fun K hK => ?_
  unfold Oper.wp
  simp [execOp, ho, resolve, invoke, builtin, hs, hx, hr, Result.andThen]
  exact hK _ _ h
end
theorem add_pl (g o n : Nat) : (⟨g, o, none⟩ : Addr).add n = ⟨g, o + n, none⟩ := by
  unfold Addr.add; split
  · rename_i h; rw [h, Nat.add_zero]
  · rfl
/-- the cells of a list of halves -/
def hC : List (Nat × Nat) → List Value
  | [] => []
  | h :: l => .int .i64 h.1 :: .int .i64 h.2 :: hC l
theorem hC_len : ∀ l, (hC l).length = l.length * 2
  | [] => rfl
  | h :: l => by show (hC l).length + 1 + 1 = (l.length + 1) * 2; rw [hC_len l]; omega
theorem hC_app : ∀ l m, hC (l ++ m) = hC l ++ hC m
  | [], _ => rfl
  | h :: l, m => by show _ :: _ :: hC (l ++ m) = _; rw [hC_app l m]; rfl
theorem hC_take : ∀ l i, (hC l).take (i * 2) = hC (l.take i)
  | [], i => by cases i <;> rfl
  | h :: l, 0 => rfl
  | h :: l, i + 1 => by
    rw [show (i + 1) * 2 = i * 2 + 1 + 1 by omega]
    show _ :: _ :: (hC l).take (i * 2) = _ :: _ :: hC (l.take i)
    rw [hC_take l i]
theorem hC_drop : ∀ l i, (hC l).drop (i * 2) = hC (l.drop i)
  | [], i => by cases i <;> rfl
  | h :: l, 0 => rfl
  | h :: l, i + 1 => by
    rw [show (i + 1) * 2 = i * 2 + 1 + 1 by omega]
    show (hC l).drop (i * 2) = hC (l.drop i)
    exact hC_drop l i
theorem hC_one : ∀ l, ∀ u ∈ hC l, u.oneCell' = true
  | [], u, h => by cases h
  | x :: l, u, h => by
    rcases List.mem_cons.1 h with rfl | h
    · rfl
    · rcases List.mem_cons.1 h with rfl | h
      · rfl
      · exact hC_one l u h
theorem hC_at : ∀ l j x, l[j]? = some x → (hC l)[j * 2]? = some (.int .i64 (x.1 : Nat)) ∧ (hC l)[j * 2 + 1]? = some (.int .i64 (x.2 : Nat))
  | [], j, x, h => by simp at h
  | y :: l, 0, x, h => by simp at h; subst h; exact ⟨rfl, rfl⟩
  | y :: l, j + 1, x, h => by
    rw [show (j + 1) * 2 = j * 2 + 1 + 1 by omega]
    exact hC_at l j x (by simpa using h)
end Go.Proofs.Ytdlpfiiakmhnlaa

namespace Go.Proofs.Ytdlpfiiakmhnlaa
open Go.RowKit

section
variable {P : Program} (w : World)
theorem append_lies {base : Nat} {t ty e : TypeId} {i : TypeInfo} {z : Value} {size bytes : Nat} (ht : P.underlying t = some (.slice e)) (hi : P.info? e = some i) (hz : i.zero = some z)
    (hsize : i.size = size) (hby : i.bytes = bytes) (hzs : z.cells.size = size) (hsz : 0 < size)
    {v : Value} {n : Nat} {xs : List Value} (hown : w.ownsRow base e size v n xs)
    {a : Addr} {m c : Nat} {news : List Value} (hl : news.length = m * size) (hnews : ∀ j u, news[j]? = some u → w.cell? (a.add j) = some u) (h1 : ∀ u ∈ news, u.oneCell' = true)
    (h63 : n + m ≤ maxLen) (hbytes : (n + m) * bytes ≤ 140737488355328) {v' : Value} {w' : World} (hr : (Builtin.append_ #[t, t] ty #[v, .slice (some a) m c]).run P w = .ok v' w') :
    ∀ g', v'.ownBlock = some g' → v.ownBlock = some g' ∨ w.heap.size ≤ g' := by
  intro g' hg'
  have h63' := h63
  unfold maxLen at h63'
  rcases hown.2 with ⟨rfl, rfl⟩ | ⟨g, cap, cur, rfl, hbg, hg, hnc, hcm, hcs, htake⟩
  · have hx : xs = [] := List.eq_nil_of_length_eq_zero (by simpa using hown.1)
    subst hx
    obtain ⟨v2, w2, hr2, h2, _⟩ := run_append_own (P := P) w w.heap.size t ty e i z size bytes ht hi hz hsize hby hzs hsz _ 0 [] (World.ownsRow_nil w _ e size) a m c news hl hnews h1 h63 hbytes (Nat.le_refl _)
    rw [hr] at hr2
    cases hr2
    right
    rcases h2.2 with ⟨rfl, _⟩ | ⟨g2, cap2, cur2, rfl, hb2, _⟩
    · cases hg'
    · cases hg'; exact hb2
  · by_cases hroom : n + m ≤ cap
    · obtain ⟨w2, hr2, _⟩ := run_append_own_spare (P := P) w base t ty e i size ht hi hsize g n cap xs hown a m c news hl hnews h1 hroom
      rw [hr] at hr2
      cases hr2
      exact .inl hg'
    · subst hsize; subst hby
      have holds : ∀ j u, xs[j]? = some u → w.cell? ((⟨g, 0, none⟩ : Addr).add j) = some u := hown.cells (g := g) rfl
      have hr2 := run_append_grow (P := P) w t ty e i z ht hi hz ⟨g, 0, none⟩ n cap xs hown.1 holds a m c news hl hnews (by omega) (by omega) (growslice_fits (by omega) hbytes)
      rw [hr] at hr2
      cases hr2
      cases hg'
      exact .inr (Nat.le_refl _)
theorem wpList_append_lies {ops : Array Oper} {rest : List Oper} {o : Oper} {a : Act} {Q : Exit → Act → World → Prop} (hgd : o.guard = none) (s x : Operand) (t : TypeId)
    (ho : o.op = .call { callee := .builtin .append, args := #[s, x], argTypes := #[t, t] })
    (base : Nat) (e : TypeId) (i : TypeInfo) (z : Value) (size bytes : Nat) (ht : P.underlying t = some (.slice e)) (hi : P.info? e = some i) (hz : i.zero = some z)
    (hsize : i.size = size) (hby : i.bytes = bytes) (hzs : z.cells.size = size) (hsz : 0 < size)
    (v : Value) (n : Nat) (xs : List Value) (hs : a.eval s = v) (hown : w.ownsRow base e size v n xs)
    (ad : Addr) (m c : Nat) (news : List Value) (hx : a.eval x = .slice (some ad) m c) (hl : news.length = m * size) (hnews : ∀ j u, news[j]? = some u → w.cell? (ad.add j) = some u) (h1 : ∀ u ∈ news, u.oneCell' = true)
    (h63 : n + m ≤ maxLen) (hbytes : (n + m) * bytes ≤ 140737488355328) (hbase : base ≤ w.heap.size)
    (h : ∀ v' w', w'.ownsRow base e size v' (n + m) (xs ++ news) → w.grownBy w' v.ownBlock → (∀ g', v'.ownBlock = some g' → v.ownBlock = some g' ∨ w.heap.size ≤ g') → wpList P ops Q rest (a.put o.dst v') w') : wpList P ops Q (o :: rest) a w := by
  refine wpList_plain hgd fun K hK => ?_
  obtain ⟨v', w', hr, h2, h3, _⟩ := run_append_own (P := P) w base t o.type e i z size bytes ht hi hz hsize hby hzs hsz v n xs hown ad m c news hl hnews h1 h63 hbytes hbase
  have h4 := append_lies w ht hi hz hsize hby hzs hsz hown hl hnews h1 h63 hbytes hr
  unfold Oper.wp execOp
  simp only [ho, resolve, invoke, builtin, Sem.run_bind, Sem.run_pure, Result.andThen_ok, List.map_toArray, List.map_cons, List.map_nil, hs, hx, hr]
  exact hK _ _ (h v' w' h2 h3 h4)
end

theorem info_half : (Try.prog.info? 102).map (fun i => (i.zero, i.size, i.bytes)) = some (some (.agg #[.int .i64 0, .int .i64 0]), 2, 16) := by kernel_rfl
/-- a list of halves in own memory -/
def HRow (w : World) (base : Nat) (v : Value) (L : List (Nat × Nat)) : Prop := w.ownsRow base 102 2 v L.length (hC L)
theorem HRow.of {w w' : World} {base : Nat} {v : Value} {L : List (Nat × Nat)} (h : HRow w base v L) (hb : Below w.heap.size w w') : HRow w' base v L := by
  refine ⟨h.1, h.2.imp id ?_⟩
  rintro ⟨g, cap, cur, rfl, hbg, hg, r⟩
  exact ⟨g, cap, cur, rfl, hbg, (hb.block _ (Array.getElem?_eq_some_iff.1 hg).1).trans hg, r⟩
theorem HRow.grown {w w' : World} {base : Nat} {v : Value} {L : List (Nat × Nat)} {row : Option Nat} (h : HRow w base v L) (hg : w.grownBy w' row) (hne : ∀ g, v.ownBlock = some g → row ≠ some g) : HRow w' base v L := by
  refine ⟨h.1, h.2.imp id ?_⟩
  rintro ⟨g, cap, cur, rfl, hbg, hh, r⟩
  exact ⟨g, cap, cur, rfl, hbg, (hg.block _ (Array.getElem?_eq_some_iff.1 hh).1 (fun e => hne g rfl e.symm)).trans hh, r⟩
theorem take_put {l cs : List Value} {o : Nat} (h : o + cs.length ≤ l.length) : (l.take o ++ cs ++ l.drop (o + cs.length)).take (o + cs.length) = l.take o ++ cs := by
  rw [List.take_append_of_le_length (by simp; omega)]
  rw [List.take_of_length_le (by simp; omega)]
theorem cell_row {w : World} {g : Nat} {cur : Array Value} {t : TypeId} (hg : w.heap[g]? = some (.cells cur t (0, 0))) (o : Nat) : w.cell? ⟨g, o, none⟩ = cur[o]? := by
  unfold World.cell?; simp [hg]
theorem HRow.n {w : World} {base n : Nat} {v : Value} {L : List (Nat × Nat)} (h : Hid (HRow w base v L)) (hn : Hid (L.length = n)) : w.ownsRow base 102 2 v n (hC L) := hn.out ▸ h.out
theorem half_src {w : World} {vb b c : Nat} (h : Hid (Blk w vb #[.int .i64 b, .int .i64 c] 102)) (j : Nat) (u : Value) (hj : [Value.int .i64 (b : Int), Value.int .i64 (c : Int)][j]? = some u) : w.cell? ((⟨vb, 0, none⟩ : Addr).add j) = some u := by
  rw [add_pl, Nat.zero_add, h.out.cell j, ← hj, ← Array.getElem?_toList]
theorem half_one (b c : Int) : ∀ u ∈ [Value.int .i64 b, Value.int .i64 c], u.oneCell' = true := by
  intro u hu; simp at hu; rcases hu with rfl | rfl <;> rfl
set_option maxRecDepth 100000 in
set_option maxHeartbeats 1000000 in
theorem Insert_end (base : Nat) (v : Value) (L : List (Nat × Nat)) (b c : Nat) (vb : Nat) (w : World) (hown : HRow w base v L) (hvb : Blk w vb #[.int .i64 b, .int .i64 c] 102) (hL : L.length < 100000) (hbase : base ≤ w.heap.size) :
    Calls Try.prog 91 #[v, .int .i64 (L.length : Nat), .slice (some ⟨vb, 0, none⟩) 1 1] w fun e w' => ∃ v', e = .returned v' ∧ HRow w' base v' (L ++ [(b, c)]) ∧ w.grownBy w' v.ownBlock ∧ (∀ g, v'.ownBlock = some g → v.ownBlock = some g ∨ w.heap.size ≤ g) := by
  obtain ⟨i0, hi, hz0, hz1, hz2⟩ := info_parts info_half
  have hv : ∃ ao cap, v = .slice ao L.length cap ∧ L.length ≤ cap ∧ cap ≤ 9223372036854775807 := by
    rcases hown.2 with ⟨rfl, hn⟩ | ⟨g, cap, cur, rfl, _, _, h1, h2, _⟩
    · exact ⟨none, 0, by rw [hn], by omega, by omega⟩
    · exact ⟨_, cap, rfl, h1, by unfold maxLen at h2; omega⟩
  obtain ⟨ao, cap, rfl, hc1, hc2⟩ := hv
  have HO := Lib.hid hown
  obtain ⟨n, hn⟩ : ∃ n, L.length = n := ⟨_, rfl⟩
  rw [hn] at hc1 hL HO ⊢
  have HN := Lib.hid hn
  clear hown hn
  have HB := Lib.hid hvb
  clear hvb
  go_enter Try.func91, Try.ntmps91
  go_wp2_with (at_builtin; refine wpList_append_lies w rfl _ _ 103 rfl base 102 i0 (Value.agg #[.int .i64 0, .int .i64 0]) 2 16 Try.underlying103 hi hz0 hz1 hz2 rfl (by decide) _ n (hC L) rfl (HRow.n HO HN) ⟨vb, 0, none⟩ 1 1 [.int .i64 b, .int .i64 c] rfl rfl (half_src HB) (half_one _ _) (by unfold maxLen; omega) (by omega) hbase ?_)
  all_goals
    intro v' w' own gr lies
    have HW := Lib.hid own
    clear own
    go_wp2
    go_ret
    refine ⟨_, rfl, ?_, (by first | exact gr | (cases ao <;> exact gr)), (by first | exact lies | (cases ao <;> exact lies))⟩
    unfold HRow
    rw [List.length_append, HN.out, hC_app]
    exact HW.out
end Go.Proofs.Ytdlpfiiakmhnlaa

namespace Go.Proofs.Ytdlpfiiakmhnlaa
open Go.RowKit

theorem half_sz : (Try.prog.info? 102).map (·.size) = some 2 := by
  obtain ⟨i0, hi, hz0, hz1, hz2⟩ := info_parts info_half
  rw [hi]; simp [hz1]
theorem half_sizeOf (w : World) : (Go.sizeOf 102).run Try.prog w = .ok 2 w := by
  obtain ⟨i0, hi, hz0, hz1, hz2⟩ := info_parts info_half
  simp [sizeOf, typeInfo, hi, hz1]
theorem shape_row {w : World} {g : Nat} {cur : Array Value} {t : TypeId} (hg : w.heap[g]? = some (.cells cur t (0, 0))) : w.shape? g = some (t, cur.size) := by
  unfold World.shape?; simp [hg]
theorem frozen_row {w : World} {g : Nat} {cur : Array Value} {t : TypeId} (hg : w.heap[g]? = some (.cells cur t (0, 0))) (o : Nat) : w.frozen? ⟨g, o, none⟩ = false := by
  unfold World.frozen?; simp [hg]
/-- cells laid over a list -/
def lay (l : List Value) (o : Nat) (cs : List Value) : List Value := l.take o ++ cs ++ l.drop (o + cs.length)
theorem lay_len {l cs : List Value} {o : Nat} (h : o + cs.length ≤ l.length) : (lay l o cs).length = l.length := by unfold lay; simp; omega
theorem lay_take {l cs : List Value} {o k : Nat} (h : o + cs.length ≤ l.length) (hk : k ≤ o) : (lay l o cs).take k = l.take k := by
  unfold lay
  rw [List.append_assoc, List.take_append_of_le_length (by simp; omega), List.take_take]
  congr 1; omega
theorem lay_mid {l cs : List Value} {o : Nat} (h : o + cs.length ≤ l.length) : (lay l o cs).take (o + cs.length) = l.take o ++ cs := take_put h
theorem lay_drop {l cs : List Value} {o k : Nat} (h : o + cs.length ≤ l.length) (hk : o + cs.length ≤ k) : (lay l o cs).drop k = l.drop k := by
  unfold lay
  rw [List.drop_append]
  rw [List.drop_of_length_le (by simp; omega)]
  rw [List.nil_append, List.drop_drop]
  congr 1; simp; omega
theorem take_split {l : List Value} (a b : Nat) : l.take (a + b) = l.take a ++ (l.drop a).take b := List.take_add
set_option maxRecDepth 100000 in
set_option maxHeartbeats 2000000 in
theorem Insert_shift (base g cap : Nat) (cur : Array Value) (L : List (Nat × Nat)) (i b c : Nat) (vb : Nat) (w : World) (hbg : base ≤ g) (hg : w.heap[g]? = some (.cells cur 102 (0, 0))) (hcs : cur.size = cap * 2) (htk : cur.toList.take (L.length * 2) = hC L)
    (hvb : Blk w vb #[.int .i64 b, .int .i64 c] 102) (hne : vb ≠ g) (hi : i < L.length) (hroom : L.length + 1 ≤ cap) (hcap : cap ≤ maxLen) :
    Calls Try.prog 91 #[.slice (some ⟨g, 0, none⟩) L.length cap, .int .i64 (i : Nat), .slice (some ⟨vb, 0, none⟩) 1 1] w fun e w' => ∃ v', e = .returned v' ∧ HRow w' base v' (L.take i ++ (b, c) :: L.drop i) ∧ w.grownBy w' (some g) ∧ (∀ g', v'.ownBlock = some g' → some g = some g' ∨ w.heap.size ≤ g') := by
  obtain ⟨n, hn⟩ : ∃ n, L.length = n := ⟨_, rfl⟩
  have hc63 : cap ≤ 9223372036854775807 := by unfold maxLen at hcap; omega
  have hovf : ∀ lb cb, (callFunc 100 #[.slice (some ⟨vb, 0, none⟩) 1 1, .slice (some ⟨g, (i + 1) * 2, none⟩) lb cb]).run Try.prog w = .ok (.value (.bool false)) w := fun lb cb => by
    rw [run_callFunc_extern Try.func100 (by kernel_rfl) (by kernel_rfl) (by kernel_rfl) (e := Extern.SlicesOverlaps.overlaps #[103, 103] #[4]) (by kernel_rfl),
      Lib.run_overlaps_apart w 103 4 102 Try.underlying103 2 half_sizeOf ⟨vb, 0, none⟩ ⟨g, (i + 1) * 2, none⟩ 1 1 lb cb hne _ _ _ _ (shape_row hvb) (shape_row hg) (by rw [hcs]; omega) (frozen_row hvb 0) (frozen_row hvb _)]
    rfl
  have hdl : (hC (L.drop i)).length = (n - i) * 2 := by rw [hC_len, List.length_drop, hn]
  have hcl : cur.toList.length = cap * 2 := by rw [Array.length_toList, hcs]
  have hsrc : ∀ j u, (hC (L.drop i))[j]? = some u → w.cell? ((⟨g, i * 2, none⟩ : Addr).add j) = some u := fun j u hj => by
    have hjl : j < (n - i) * 2 := by rw [← hdl]; exact (List.getElem?_eq_some_iff.1 hj).1
    rw [add_pl, cell_row hg, ← hC_drop, List.getElem?_drop, ← htk, List.getElem?_take_of_lt (by omega)] at *
    rw [← Array.getElem?_toList]; exact hj
  rw [hn] at hi hroom ⊢
  have hcp1 : ∀ ty dc sc, (Builtin.copy_ #[103, 103] ty #[.slice (some ⟨g, (i + 1) * 2, none⟩) (n - i) dc, .slice (some ⟨g, i * 2, none⟩) (n + 1 - i) sc]).run Try.prog w.drew = .ok (goInt (Nat.min (n + 1 - i) (n - i))) (w.drew.setRow g (lay cur.toList ((i + 1) * 2) (hC (L.drop i))).toArray) := fun ty dc sc =>
    run_copy_rowk w.drew _ _ ty 102 g ((i + 1) * 2) (n - i) dc ⟨g, i * 2, none⟩ (n + 1 - i) sc 2 cur 102 (hC (L.drop i)) Try.underlying103 half_sz hg (by rw [hdl]; simp only [Nat.min_def]; split <;> omega) hsrc (by rw [hdl, hcs]; omega) (hC_one _)
  obtain ⟨W1, hW1⟩ : ∃ W1, W1 = w.drew.setRow g (lay cur.toList ((i + 1) * 2) (hC (L.drop i))).toArray := ⟨_, rfl⟩
  have hg1 : W1.heap[g]? = some (.cells (lay cur.toList ((i + 1) * 2) (hC (L.drop i))).toArray 102 (0, 0)) := by rw [hW1]; exact setRow_heap w.drew g cur _ _ _ hg
  have hvb1 : Blk W1 vb #[.int .i64 b, .int .i64 c] 102 := by rw [hW1]; exact (setRow_other w.drew g vb _ hne).trans hvb
  have hl1 : (lay cur.toList ((i + 1) * 2) (hC (L.drop i))).length = cap * 2 := by rw [lay_len (by rw [hdl, hcl]; omega), hcl]
  have hcp2 : ∀ ty dc, (Builtin.copy_ #[103, 103] ty #[.slice (some ⟨g, i * 2, none⟩) (n + 1 - i) dc, .slice (some ⟨vb, 0, none⟩) 1 1]).run Try.prog W1 = .ok (goInt (Nat.min 1 (n + 1 - i))) (W1.setRow g (lay (lay cur.toList ((i + 1) * 2) (hC (L.drop i))) (i * 2) [.int .i64 b, .int .i64 c]).toArray) := fun ty dc =>
    run_copy_rowk W1 _ _ ty 102 g (i * 2) (n + 1 - i) dc ⟨vb, 0, none⟩ 1 1 2 _ 102 [.int .i64 b, .int .i64 c] Try.underlying103 half_sz hg1 (by show 2 = _; simp only [Nat.min_def]; split <;> omega) (half_src (Lib.hid hvb1)) (by rw [List.size_toArray]; show i * 2 + 2 ≤ (lay cur.toList ((i + 1) * 2) (hC (L.drop i))).length; rw [hl1]; omega) (half_one _ _)
  have hq : W1.setRow g (lay (lay cur.toList ((i + 1) * 2) (hC (L.drop i))) (i * 2) [.int .i64 b, .int .i64 c]).toArray = W1.setRow g (lay (lay cur.toList ((i + 1) * 2) (hC (L.drop i))) (i * 2) [.int .i64 b, .int .i64 c]).toArray := rfl
  obtain ⟨W2, hW2⟩ : ∃ W2, W2 = W1.setRow g (lay (lay cur.toList ((i + 1) * 2) (hC (L.drop i))) (i * 2) [.int .i64 b, .int .i64 c]).toArray := ⟨_, rfl⟩
  clear hq
  have hpost : HRow W2 base (.slice (some ⟨g, 0, none⟩) (n + 1) cap) (L.take i ++ (b, c) :: L.drop i) := by
    have hll : (L.take i ++ (b, c) :: L.drop i).length = n + 1 := by simp; omega
    have hsz : (lay (lay cur.toList ((i + 1) * 2) (hC (L.drop i))) (i * 2) [.int .i64 b, .int .i64 c]).length = cap * 2 := by rw [lay_len (by rw [hl1]; show i * 2 + 2 ≤ _; omega), hl1]
    unfold HRow
    rw [hll]
    refine ⟨by rw [hC_len, hll], .inr ⟨g, cap, (lay (lay cur.toList ((i + 1) * 2) (hC (L.drop i))) (i * 2) [.int .i64 b, .int .i64 c]).toArray, rfl, hbg, ?_, hroom, hcap, ?_, ?_⟩⟩
    · rw [hW2]; exact setRow_heap W1 g _ _ _ _ hg1
    · rw [List.size_toArray, hsz]
    · show List.take ((n + 1) * 2) (lay (lay cur.toList ((i + 1) * 2) (hC (L.drop i))) (i * 2) [.int .i64 (b : Int), .int .i64 (c : Int)]) = _
      have e1 : (n + 1) * 2 = (i * 2 + 2) + (n - i) * 2 := by omega
      rw [e1, take_split, show i * 2 + 2 = i * 2 + [Value.int .i64 (b : Int), Value.int .i64 (c : Int)].length from rfl, lay_mid (by rw [hl1]; show i * 2 + 2 ≤ _; omega), lay_drop (by rw [hl1]; show i * 2 + 2 ≤ _; omega) (Nat.le_refl _)]
      rw [lay_take (by rw [hdl, hcl]; omega) (by omega)]
      have e2 : cur.toList.take (i * 2) = hC (L.take i) := by
        rw [← hC_take, ← htk, List.take_take]; congr 1; omega
      have e3 : ((lay cur.toList ((i + 1) * 2) (hC (L.drop i))).drop (i * 2 + [Value.int .i64 (b : Int), Value.int .i64 (c : Int)].length)).take ((n - i) * 2) = hC (L.drop i) := by
        have := lay_mid (l := cur.toList) (cs := hC (L.drop i)) (o := (i + 1) * 2) (by rw [hdl, hcl]; omega)
        rw [take_split, hdl] at this
        have h4 := lay_take (l := cur.toList) (cs := hC (L.drop i)) (o := (i + 1) * 2) (k := (i + 1) * 2) (by rw [hdl, hcl]; omega) (Nat.le_refl _)
        rw [h4] at this
        have h5 := List.append_cancel_left this
        rw [show i * 2 + [Value.int .i64 (b : Int), Value.int .i64 (c : Int)].length = (i + 1) * 2 by show i * 2 + 2 = _; omega]
        exact h5
      rw [e2, e3, hC_app]
      show _ = hC (L.take i) ++ (_ :: _ :: hC (L.drop i))
      simp
  have hgr : w.grownBy W2 (some g) := by
    refine ⟨by rw [hW2, hW1]; rfl, by rw [hW2, hW1]; rfl, by rw [hW2, hW1]; rfl, by rw [hW2, hW1]; simp, fun k hk hne' => ?_⟩
    have hkg : k ≠ g := fun e => hne' (by rw [e])
    rw [hW2, setRow_other W1 g k _ hkg, hW1, setRow_other w.drew g k _ hkg]; rfl
  have HP := Lib.hid hpost
  have HG := Lib.hid hgr
  rw [← hW1] at hcp1
  rw [← hW2] at hcp2
  have hz2 : ¬ ((i : Int) = (n : Int)) := by omega
  have hw1 : IntKind.i64.wrap ((i : Int) + 1) = (i : Int) + 1 := by rw [IntKind.wrap_i64]; omega
  have hin : i ≤ n := by omega
  have hb2 : ¬ (cap = i + 1) := by omega
  have hb4 : ¬ (cap = i) := by omega
  have hb3 : (i : Int) ≤ (n : Int) + 1 := by omega
  have hb1 : (0 : Int) ≤ (i : Int) + 1 := by omega
  have htn : ((i : Int) + 1).toNat = i + 1 := by omega
  have hb5 : (i : Int) + 1 ≤ (n : Int) + 1 := by omega
  have mixed : Try.prog.follows .mixedOrders = true := by kernel_rfl
  clear hpost hgr hW1 hW2 hg1 hvb1 hl1 hsrc hdl hcl htk hg hcs hvb
  go_enter Try.func91, Try.ntmps91
  go_wp2_with (simp only [hovf])
  go_region_law_o (refine step_copy_rowk rfl _ _ 103 103 rfl _ _ (by simp [Act.eval, Act.put]) (by simp [Act.eval, Act.put]) (hcp1 _ _ _) ?_)
  go_wp2_with (at_builtin; refine wpList_copy_rowk rfl _ _ 103 103 rfl _ _ rfl rfl (hcp2 _ _) ?_)
  go_ret
  exact ⟨_, rfl, HP.out, HG.out, fun g' h => .inl h⟩
end Go.Proofs.Ytdlpfiiakmhnlaa

namespace Go.Proofs.Ytdlpfiiakmhnlaa
open Go.RowKit

set_option maxRecDepth 100000 in
set_option maxHeartbeats 2000000 in
theorem Insert_grow (base g cap : Nat) (cur : Array Value) (L : List (Nat × Nat)) (i b c : Nat) (vb : Nat) (w : World) (hbase : base ≤ w.heap.size) (hg : w.heap[g]? = some (.cells cur 102 (0, 0))) (hcs : cur.size = cap * 2) (htk : cur.toList.take (L.length * 2) = hC L)
    (hvb : Blk w vb #[.int .i64 b, .int .i64 c] 102) (hi : i < L.length) (hfull : cap < L.length + 1) (hnc : L.length ≤ cap) (hL : L.length < 100000) :
    Calls Try.prog 91 #[.slice (some ⟨g, 0, none⟩) L.length cap, .int .i64 (i : Nat), .slice (some ⟨vb, 0, none⟩) 1 1] w fun e w' => ∃ v', e = .returned v' ∧ HRow w' base v' (L.take i ++ (b, c) :: L.drop i) ∧ w.grownBy w' (some g) ∧ (∀ g', v'.ownBlock = some g' → some g = some g' ∨ w.heap.size ≤ g') := by
  obtain ⟨n, hn⟩ : ∃ n, L.length = n := ⟨_, rfl⟩
  obtain rfl : cap = n := by omega
  clear hnc hfull
  rw [hn] at hi hL htk ⊢
  obtain ⟨i0, hi0, hz0, hz1, hz2⟩ := info_parts info_half
  have hgl := (Array.getElem?_eq_some_iff.1 hg).1
  have hvl : vb < w.heap.size := hvb.lt
  have hcl : cur.toList.length = cap * 2 := by rw [Array.length_toList, hcs]
  have hol : (hC (L.take i)).length = i * 2 := by rw [hC_len, List.length_take]; omega
  have holdc : ∀ j u, (hC (L.take i))[j]? = some u → w.drew.cell? ((⟨g, 0, none⟩ : Addr).add j) = some u := fun j u hj => by
    have hjl : j < i * 2 := by rw [← hol]; exact (List.getElem?_eq_some_iff.1 hj).1
    show w.cell? _ = _
    rw [add_pl, Nat.zero_add, cell_row hg, ← Array.getElem?_toList]
    rw [← hC_take, ← htk, List.take_take, List.getElem?_take_of_lt (by omega)] at hj
    exact hj
  obtain ⟨gc, hgc⟩ : ∃ gc, grownCap w (cap + 1) cap 102 = gc := ⟨_, rfl⟩
  have hgc1 : cap + 1 ≤ gc := by rw [← hgc]; exact grownCap_ge _ _ _ _
  have hgc2 : gc ≤ maxLen := by rw [← hgc]; exact grownCap_le_maxLen _ _ _ _ (by unfold maxLen; omega)
  obtain ⟨cu, hcu⟩ : ∃ cu, (hC (L.take i)).toArray ++ Builtin.zeroCells (Value.agg #[.int .i64 0, .int .i64 0]).cells (cap + 1 - i) ++ Builtin.zeroCells (Value.agg #[.int .i64 0, .int .i64 0]).cells (gc - (cap + 1)) = cu := ⟨_, rfl⟩
  have hcus : cu.size = gc * 2 := by
    rw [← hcu, Array.size_append, Array.size_append, size_zeroCells, size_zeroCells, List.size_toArray, hol]
    show i * 2 + (cap + 1 - i) * 2 + (gc - (cap + 1)) * 2 = gc * 2
    omega
  have hcut : cu.toList.take (i * 2) = hC (L.take i) := by
    rw [← hcu, Array.toList_append, Array.toList_append, List.append_assoc, List.take_append_of_le_length (by rw [List.toList_toArray, hol]; exact Nat.le_refl _), List.toList_toArray, List.take_of_length_le (by rw [hol]; exact Nat.le_refl _)]
  obtain ⟨Wa, hWa⟩ : ∃ Wa, Wa = w.drew.alloc (.cells cu 102) := ⟨_, rfl⟩
  have hrun : ∀ ty, (Builtin.append_ #[103, 3] ty #[.slice (some ⟨g, 0, none⟩) i cap, .int .i64 ((cap : Int) + 1 - (i : Int))]).run Try.prog w = .ok (.slice (some ⟨w.heap.size, 0, none⟩) (cap + 1) gc) Wa := fun ty => by
    have h := Lib.run_append_grow_zeros (P := Try.prog) w 103 3 ty 102 i0 (Value.agg #[.int .i64 0, .int .i64 0]) .i64 .i64 Try.underlying103 Try.underlying3 hi0 hz0 (some ⟨g, 0, none⟩) i cap (hC (L.take i)) (by rw [hz1]; exact run_firstCells_some w.drew 2 i ⟨g, 0, none⟩ i cap (hC (L.take i)) hol holdc) (cap + 1 - i) (by omega) (by rw [hz1]; omega) (by omega) (by omega) (by rw [hz2]; omega) (by rw [hz2]; exact growslice_fits (by omega) (by omega))
    rw [show i + (cap + 1 - i) = cap + 1 by omega, hgc, hcu, ← hWa, show ((cap + 1 - i : Nat) : Int) = (cap : Int) + 1 - (i : Int) by omega] at h
    exact h
  have hga : Wa.heap[w.heap.size]? = some (.cells cu 102 (0, 0)) := by rw [hWa]; exact heap_alloc_new w.drew _
  have hbk : ∀ k, k < w.heap.size → Wa.heap[k]? = w.heap[k]? := fun k hk => by rw [hWa]; exact Below.heap_alloc w.drew _ k hk
  have hvba : Blk Wa vb #[.int .i64 b, .int .i64 c] 102 := (hbk vb hvl).trans hvb
  have hcl2 : cu.toList.length = gc * 2 := by rw [Array.length_toList, hcus]
  have hcp1 : ∀ ty dc, (Builtin.copy_ #[103, 103] ty #[.slice (some ⟨w.heap.size, i * 2, none⟩) (cap + 1 - i) dc, .slice (some ⟨vb, 0, none⟩) 1 1]).run Try.prog Wa = .ok (goInt (Nat.min 1 (cap + 1 - i))) (Wa.setRow w.heap.size (lay cu.toList (i * 2) [.int .i64 b, .int .i64 c]).toArray) := fun ty dc =>
    run_copy_rowk Wa _ _ ty 102 w.heap.size (i * 2) (cap + 1 - i) dc ⟨vb, 0, none⟩ 1 1 2 cu 102 [.int .i64 b, .int .i64 c] Try.underlying103 half_sz hga (by show 2 = _; simp only [Nat.min_def]; split <;> omega) (half_src (Lib.hid hvba)) (by rw [hcus]; show i * 2 + 2 ≤ _; omega) (half_one _ _)
  obtain ⟨W1, hW1⟩ : ∃ W1, W1 = Wa.setRow w.heap.size (lay cu.toList (i * 2) [.int .i64 b, .int .i64 c]).toArray := ⟨_, rfl⟩
  have hg1 : W1.heap[w.heap.size]? = some (.cells (lay cu.toList (i * 2) [.int .i64 b, .int .i64 c]).toArray 102 (0, 0)) := by rw [hW1]; exact setRow_heap Wa w.heap.size _ _ _ _ hga
  have hbk1 : ∀ k, k < w.heap.size → W1.heap[k]? = w.heap[k]? := fun k hk => by rw [hW1, setRow_other Wa w.heap.size k _ (by omega)]; exact hbk k hk
  have hl1 : (lay cu.toList (i * 2) [Value.int .i64 (b : Int), Value.int .i64 (c : Int)]).length = gc * 2 := by rw [lay_len (by rw [hcl2]; show i * 2 + 2 ≤ _; omega), hcl2]
  have hdl : (hC (L.drop i)).length = (cap - i) * 2 := by rw [hC_len, List.length_drop, hn]
  have hsrc : ∀ j u, (hC (L.drop i))[j]? = some u → W1.drew.cell? ((⟨g, i * 2, none⟩ : Addr).add j) = some u := fun j u hj => by
    have hjl : j < (cap - i) * 2 := by rw [← hdl]; exact (List.getElem?_eq_some_iff.1 hj).1
    show W1.cell? _ = _
    rw [add_pl, cell_row (w := W1) ((hbk1 g hgl).trans hg), ← Array.getElem?_toList]
    rw [← hC_drop, List.getElem?_drop, ← htk, List.getElem?_take_of_lt (by omega)] at hj
    exact hj
  have hcp2 : ∀ ty dc sc, (Builtin.copy_ #[103, 103] ty #[.slice (some ⟨w.heap.size, (i + 1) * 2, none⟩) (cap - i) dc, .slice (some ⟨g, i * 2, none⟩) (cap - i) sc]).run Try.prog W1.drew = .ok (goInt (Nat.min (cap - i) (cap - i))) (W1.drew.setRow w.heap.size (lay (lay cu.toList (i * 2) [.int .i64 b, .int .i64 c]) ((i + 1) * 2) (hC (L.drop i))).toArray) := fun ty dc sc =>
    run_copy_rowk W1.drew _ _ ty 102 w.heap.size ((i + 1) * 2) (cap - i) dc ⟨g, i * 2, none⟩ (cap - i) sc 2 _ 102 (hC (L.drop i)) Try.underlying103 half_sz hg1 (by rw [hdl]; simp only [Nat.min_def]; split <;> omega) hsrc (by rw [List.size_toArray, hdl]; show (i + 1) * 2 + (cap - i) * 2 ≤ (lay cu.toList (i * 2) [Value.int .i64 (b : Int), Value.int .i64 (c : Int)]).length; rw [hl1]; omega) (hC_one _)
  obtain ⟨W2, hW2⟩ : ∃ W2, W2 = W1.drew.setRow w.heap.size (lay (lay cu.toList (i * 2) [.int .i64 b, .int .i64 c]) ((i + 1) * 2) (hC (L.drop i))).toArray := ⟨_, rfl⟩
  have hpost : HRow W2 base (.slice (some ⟨w.heap.size, 0, none⟩) (cap + 1) gc) (L.take i ++ (b, c) :: L.drop i) := by
    have hll : (L.take i ++ (b, c) :: L.drop i).length = cap + 1 := by simp; omega
    have hsz : (lay (lay cu.toList (i * 2) [Value.int .i64 (b : Int), Value.int .i64 (c : Int)]) ((i + 1) * 2) (hC (L.drop i))).length = gc * 2 := by rw [lay_len (by rw [hl1, hdl]; omega), hl1]
    unfold HRow
    rw [hll]
    refine ⟨by rw [hC_len, hll], .inr ⟨w.heap.size, gc, (lay (lay cu.toList (i * 2) [.int .i64 b, .int .i64 c]) ((i + 1) * 2) (hC (L.drop i))).toArray, rfl, hbase, ?_, hgc1, hgc2, ?_, ?_⟩⟩
    · rw [hW2]; exact setRow_heap W1.drew w.heap.size _ _ _ _ hg1
    · rw [List.size_toArray, hsz]
    · show List.take ((cap + 1) * 2) (lay (lay cu.toList (i * 2) [.int .i64 (b : Int), .int .i64 (c : Int)]) ((i + 1) * 2) (hC (L.drop i))) = _
      have e1 : (cap + 1) * 2 = (i + 1) * 2 + (hC (L.drop i)).length := by rw [hdl]; omega
      rw [e1, lay_mid (by rw [hl1, hdl]; omega)]
      rw [show (i + 1) * 2 = i * 2 + [Value.int .i64 (b : Int), Value.int .i64 (c : Int)].length by show _ = i * 2 + 2; omega, lay_mid (by rw [hcl2]; show i * 2 + 2 ≤ _; omega), hcut, hC_app]
      show _ = hC (L.take i) ++ (_ :: _ :: hC (L.drop i))
      simp
  have hgr : w.grownBy W2 (some g) := by
    refine ⟨by rw [hW2, hW1, hWa]; rfl, by rw [hW2, hW1, hWa]; rfl, by rw [hW2, hW1, hWa]; rfl, by rw [hW2, hW1, hWa]; simp, fun k hk hne' => ?_⟩
    rw [hW2, setRow_other W1.drew w.heap.size k _ (by omega)]; exact hbk1 k hk
  have HP := Lib.hid hpost
  have HG := Lib.hid hgr
  rw [← hW1] at hcp1
  rw [← hW2] at hcp2
  have hz2' : ¬ ((i : Int) = (cap : Int)) := by omega
  have hw1 : IntKind.i64.wrap ((i : Int) + 1) = (i : Int) + 1 := by rw [IntKind.wrap_i64]; omega
  have hin : i ≤ cap := by omega
  have hb2 : ¬ (gc = i + 1) := by omega
  have hb4 : ¬ (cap = i) := by omega
  have hb6 : ¬ (gc = i) := by omega
  have hb3 : (i : Int) ≤ (cap : Int) + 1 := by omega
  have hb1 : (0 : Int) ≤ (i : Int) + 1 := by omega
  have htn : ((i : Int) + 1).toNat = i + 1 := by omega
  have hb5 : (i : Int) + 1 ≤ (cap : Int) + 1 := by omega
  have mixed : Try.prog.follows .mixedOrders = true := by kernel_rfl
  have hc63 : gc ≤ 9223372036854775807 := by unfold maxLen at hgc2; omega
  clear hpost hgr hW1 hW2 hg1 hvba hl1 hsrc hdl hcl htk hg hcs hvb hbk hbk1 hga hWa hcu hcus hcut hcl2 holdc hol hgc hi0 hz0 hz1 hz2
  go_enter Try.func91, Try.ntmps91
  go_wp2_with (at_builtin; refine wpList_append_run rfl _ _ 103 3 rfl _ _ rfl rfl (hrun _) ?_)
  go_wp2_with (at_builtin; refine wpList_copy_rowk rfl _ _ 103 103 rfl _ _ rfl rfl (hcp1 _ _) ?_)
  go_region_law_o (refine step_copy_rowk rfl _ _ 103 103 rfl _ _ (by simp [Act.eval, Act.put]) (by simp [Act.eval, Act.put]) (hcp2 _ _ _) ?_)
  go_wp2
  go_ret
  refine ⟨_, rfl, HP.out, HG.out, fun g' h => ?_⟩
  cases h
  exact .inr (Nat.le_refl _)
end Go.Proofs.Ytdlpfiiakmhnlaa

namespace Go.Proofs.Ytdlpfiiakmhnlaa
open Go.RowKit

theorem Insert_h (base : Nat) (v : Value) (L : List (Nat × Nat)) (i b c : Nat) (vb : Nat) (w : World) (hown : HRow w base v L) (hvb : Blk w vb #[.int .i64 b, .int .i64 c] 102) (hne : v.ownBlock ≠ some vb) (hi : i ≤ L.length) (hL : L.length < 100000) (hbase : base ≤ w.heap.size) :
    Calls Try.prog 91 #[v, .int .i64 (i : Nat), .slice (some ⟨vb, 0, none⟩) 1 1] w fun e w' => ∃ v', e = .returned v' ∧ HRow w' base v' (L.take i ++ (b, c) :: L.drop i) ∧ w.grownBy w' v.ownBlock ∧ (∀ g, v'.ownBlock = some g → v.ownBlock = some g ∨ w.heap.size ≤ g) := by
  by_cases he : i = L.length
  · subst he
    have := Insert_end base v L b c vb w hown hvb hL hbase
    rw [List.take_length, List.drop_length]
    exact this
  · rcases hown.2 with ⟨rfl, hn⟩ | ⟨g, cap, cur, rfl, hbg, hg, h1, h2, h3, h4⟩
    · omega
    · by_cases hr : L.length + 1 ≤ cap
      · exact Insert_shift base g cap cur L i b c vb w hbg hg h3 h4 hvb (fun e => hne (by rw [e]; rfl)) (by omega) hr h2
      · exact Insert_grow base g cap cur L i b c vb w hbase hg h3 h4 hvb (by omega) (by omega) h1 hL
theorem step_append_run {P : Program} {ops : Array Oper} {o : Oper} {a : Act} {w : World} {K : Act → World → Prop} {Q : Exit → Act → World → Prop} {E : Prop} (hgd : o.guard = none) (s x : Operand) (t t' : TypeId)
    (ho : o.op = .call { callee := .builtin .append, args := #[s, x], argTypes := #[t, t'] }) (v u : Value) (hs : a.eval s = v) (hx : a.eval x = u) {v' : Value} {w' : World} (hr : (Builtin.append_ #[t, t'] o.type #[v, u]).run P w = .ok v' w') (hK : K (a.put o.dst v') w') :
    if Region.wanted o (yielded ops a.tmps) = true then Oper.wp P o a w K Q else E := by
  have hw : Region.wanted o (yielded ops a.tmps) = true := by simp [Region.wanted, hgd]
  rw [if_pos hw]
  unfold Oper.wp
  simp [execOp, ho, resolve, invoke, builtin, hs, hx, hr, Result.andThen]
  exact hK
set_option maxRecDepth 100000 in
set_option maxHeartbeats 2000000 in
theorem Delete_h (base : Nat) (v : Value) (L : List (Nat × Nat)) (i : Nat) (w : World) (hown : HRow w base v L) (hi : i < L.length) (hL : L.length < 100000) :
    Calls Try.prog 69 #[v, .int .i64 (i : Nat), .int .i64 ((i : Int) + 1)] w fun e w' => ∃ v', e = .returned v' ∧ HRow w' base v' (L.take i ++ L.drop (i + 1)) ∧ w.grownBy w' v.ownBlock ∧ (∀ g, v'.ownBlock = some g → v.ownBlock = some g ∨ w.heap.size ≤ g) := by
  rcases hown.2 with ⟨rfl, hn⟩ | ⟨g, cap, cur, rfl, hbg, hg, hnc, hcap, hcs, htk⟩
  · omega
  obtain ⟨n, hn⟩ : ∃ n, L.length = n := ⟨_, rfl⟩
  rw [hn] at hi hL htk hnc ⊢
  obtain ⟨i0, hi0, hz0, hz1, hz2⟩ := info_parts info_half
  have hcl : cur.toList.length = cap * 2 := by rw [Array.length_toList, hcs]
  have hdl : (hC (L.drop (i + 1))).length = (n - (i + 1)) * 2 := by rw [hC_len, List.length_drop, hn]
  have hsrc : ∀ j u, (hC (L.drop (i + 1)))[j]? = some u → w.drew.cell? ((⟨g, (i + 1) * 2, none⟩ : Addr).add j) = some u := fun j u hj => by
    have hjl : j < (n - (i + 1)) * 2 := by rw [← hdl]; exact (List.getElem?_eq_some_iff.1 hj).1
    show w.cell? _ = _
    rw [add_pl, cell_row hg, ← Array.getElem?_toList]
    rw [← hC_drop, List.getElem?_drop, ← htk, List.getElem?_take_of_lt (by omega)] at hj
    exact hj
  obtain ⟨W1, hW1⟩ : ∃ W1, W1 = w.drew.setRow g (lay cur.toList (i * 2) (hC (L.drop (i + 1)))).toArray := ⟨_, rfl⟩
  have hl1 : (lay cur.toList (i * 2) (hC (L.drop (i + 1)))).length = cap * 2 := by rw [lay_len (by rw [hcl, hdl]; omega), hcl]
  have hap : ∀ ty c2, (Builtin.append_ #[103, 103] ty #[.slice (some ⟨g, 0, none⟩) i cap, .slice (some ⟨g, (i + 1) * 2, none⟩) (n - (i + 1)) c2]).run Try.prog w.drew = .ok (.slice (some ⟨g, 0, none⟩) (n - 1) cap) W1 := fun ty c2 => by
    have h := run_append_room (P := Try.prog) w.drew 103 ty 102 i0 Try.underlying103 hi0 g i cap cur hg ⟨g, (i + 1) * 2, none⟩ (n - (i + 1)) c2 (hC (L.drop (i + 1))) (by rw [hz1, hdl]) hsrc (hC_one _) (by omega) (by rw [hz1, hdl, hcs]; omega)
    rw [hz1, show i + (n - (i + 1)) = n - 1 by omega] at h
    rw [hW1]; exact h
  have hap0 : n = i + 1 → ∀ ty c2, (Builtin.append_ #[103, 103] ty #[.slice (some ⟨g, 0, none⟩) i cap, .slice (some ⟨g, 0, none⟩) 0 c2]).run Try.prog w.drew = .ok (.slice (some ⟨g, 0, none⟩) i cap) W1 := fun e ty c2 => by
    have hnil : L.drop (i + 1) = [] := by rw [List.drop_eq_nil_iff]; omega
    have h := run_append_room (P := Try.prog) w.drew 103 ty 102 i0 Try.underlying103 hi0 g i cap cur hg ⟨g, 0, none⟩ 0 c2 [] (by simp) (fun j u hj => by simp at hj) (fun u hu => by cases hu) (by omega) (by rw [hz1, hcs]; show i * 2 + 0 ≤ _; omega)
    rw [hz1, Nat.add_zero] at h
    rw [hW1, hnil]; exact h
  have hg1 : W1.heap[g]? = some (.cells (lay cur.toList (i * 2) (hC (L.drop (i + 1)))).toArray 102 (0, 0)) := by rw [hW1]; exact setRow_heap w.drew g cur _ _ _ hg
  obtain ⟨Z, hZ⟩ : ∃ Z, (Builtin.zeroCells (Value.agg #[.int .i64 0, .int .i64 0]).cells 1).toList = Z := ⟨_, rfl⟩
  have hZl : Z.length = 2 := by rw [← hZ, Array.length_toList, size_zeroCells]; rfl
  obtain ⟨W2, hW2⟩ : ∃ W2, W2 = W1.setRow g (lay (lay cur.toList (i * 2) (hC (L.drop (i + 1)))) ((n - 1) * 2) Z).toArray := ⟨_, rfl⟩
  have hcr : ∀ ty c2, (Builtin.clear_ #[103] ty #[.slice (some ⟨g, (n - 1) * 2, none⟩) 1 c2]).run Try.prog W1 = .ok (.tuple #[]) W2 := fun ty c2 => by
    have h := run_clear_rowk (P := Try.prog) W1 103 102 ty i0 (Value.agg #[.int .i64 0, .int .i64 0]) Try.underlying103 hi0 hz0 g ((n - 1) * 2) 1 c2 _ _ hg1 (by omega) (by have e := hl1; rw [← List.size_toArray] at e; rw [e]; show (n - 1) * 2 + 1 * 2 ≤ _; omega) (by intro v hv; simp [Value.cells] at hv; rcases hv with rfl | rfl <;> rfl)
    rw [hZ] at h
    rw [hW2]
    unfold lay at h ⊢
    rw [hZl]
    exact h
  have hpost : HRow W2 base (.slice (some ⟨g, 0, none⟩) (n - 1) cap) (L.take i ++ L.drop (i + 1)) := by
    have hll : (L.take i ++ L.drop (i + 1)).length = n - 1 := by simp; omega
    unfold HRow
    rw [hll]
    refine ⟨by rw [hC_len, hll], .inr ⟨g, cap, (lay (lay cur.toList (i * 2) (hC (L.drop (i + 1)))) ((n - 1) * 2) Z).toArray, rfl, hbg, ?_, by omega, hcap, ?_, ?_⟩⟩
    · rw [hW2]; exact setRow_heap W1 g _ _ _ _ hg1
    · rw [List.size_toArray, lay_len (by rw [hl1, hZl]; omega), hl1]
    · show List.take ((n - 1) * 2) (lay (lay cur.toList (i * 2) (hC (L.drop (i + 1)))) ((n - 1) * 2) Z) = _
      rw [lay_take (by rw [hl1, hZl]; omega) (Nat.le_refl _)]
      rw [show (n - 1) * 2 = i * 2 + (hC (L.drop (i + 1))).length by rw [hdl]; omega, lay_mid (by rw [hcl, hdl]; omega), hC_app]
      congr 1
      rw [← hC_take, ← htk, List.take_take]; congr 1; omega
  have hgr : w.grownBy W2 (some g) := by
    refine ⟨by rw [hW2, hW1]; rfl, by rw [hW2, hW1]; rfl, by rw [hW2, hW1]; rfl, by rw [hW2, hW1]; simp, fun k hk hne' => ?_⟩
    have hkg : k ≠ g := fun e => hne' (by rw [e])
    rw [hW2, setRow_other W1 g k _ hkg, hW1, setRow_other w.drew g k _ hkg]; rfl
  have HP := Lib.hid hpost
  have HG := Lib.hid hgr
  have hc63 : cap ≤ 9223372036854775807 := by unfold maxLen at hcap; omega
  have hz2' : ¬ ((i : Int) = (i : Int) + 1) := by omega
  have hb1 : (0 : Int) ≤ (i : Int) + 1 := by omega
  have htn : ((i : Int) + 1).toNat = i + 1 := by omega
  have hb5 : (i : Int) + 1 ≤ (n : Int) := by omega
  have hb3 : (i : Int) ≤ (i : Int) + 1 := by omega
  have hb6 : ¬ (cap = i) := by omega
  have hic : i ≤ cap := by omega
  have hjc : i + 1 ≤ cap := by omega
  have hin : i ≤ n := by omega
  have mixed : Try.prog.follows .mixedOrders = true := by kernel_rfl
  clear hpost hgr hW1 hW2 hg1 hl1 hsrc hdl hcl htk hg hcs hi0 hz0 hz1 hz2 hZ hZl hown
  by_cases hlast : n = i + 1
  · have hap1 := hap0 hlast
    clear hap0
    subst hlast
    have hb9 : i + 1 - i = 1 := by omega
    have hb11 : i + 1 - (i + 1) = 0 := by omega
    have e1 : i + 1 - 1 = i := by omega
    rw [hb11] at hap
    rw [e1] at hap hcr HP
    by_cases hce : cap = i + 1
    · clear hap
      subst hce
      go_enter Try.func69, Try.ntmps69
      go_wp2_with fail
      go_region_law_o (go_loud (refine step_append_run rfl (.tmp 22) (.tmp 25) 103 103 rfl (.slice (some ⟨g, 0, none⟩) i (i + 1)) (.slice (some ⟨g, 0, none⟩) 0 0) (by simp [Act.eval, Act.put]) (by simp [Act.eval, Act.put]) (hap1 _ _) ?_))
      go_wp2_with (at_builtin; refine wpList_clear_run rfl _ 103 rfl _ rfl (hcr _ _) ?_)
      go_ret
      exact ⟨_, rfl, HP.out, HG.out, fun g' h => .inl h⟩
    · clear hap1
      have hb7 : ¬ (cap = i + 1) := hce
      go_enter Try.func69, Try.ntmps69
      go_wp2_with fail
      go_region_law_o (go_loud (refine step_append_run rfl (.tmp 22) (.tmp 25) 103 103 rfl (.slice (some ⟨g, 0, none⟩) i cap) (.slice (some ⟨g, (i + 1) * 2, none⟩) 0 (cap - (i + 1))) (by simp [Act.eval, Act.put]) (by simp [Act.eval, Act.put]) (hap _ _) ?_))
      go_wp2_with (at_builtin; refine wpList_clear_run rfl _ 103 rfl _ rfl (hcr _ _) ?_)
      go_ret
      exact ⟨_, rfl, HP.out, HG.out, fun g' h => .inl h⟩
  · clear hap0
    have hb7 : ¬ (cap = i + 1) := by omega
    have hb8 : (n : Int) - 1 = ((n - 1 : Nat) : Int) := by omega
    go_enter Try.func69, Try.ntmps69
    go_wp2_with fail
    go_region_law_o (refine step_append_run rfl (.tmp 22) (.tmp 25) 103 103 rfl (.slice (some ⟨g, 0, none⟩) i cap) (.slice (some ⟨g, (i + 1) * 2, none⟩) (n - (i + 1)) (cap - (i + 1))) (by simp [Act.eval, Act.put]) (by simp [Act.eval, Act.put]) (hap _ _) ?_)
    have hn1 : n - 1 ≤ n := by omega
    have hb9 : n - (n - 1) = 1 := by omega
    have hb10 : ¬ (cap = n - 1) := by omega
    go_wp2_with (at_builtin; refine wpList_clear_run rfl _ 103 rfl _ rfl (hcr _ _) ?_)
    go_ret
    exact ⟨_, rfl, HP.out, HG.out, fun g' h => .inl h⟩
end Go.Proofs.Ytdlpfiiakmhnlaa

namespace Go.Proofs.Ytdlpfiiakmhnlaa
open Go.RowKit

section
variable {P : Program} {C : World → Prop} {Q : Exit → Act → World → Prop}
theorem len_value {o : Oper} {c : Call} {ρ : Operand → Value} {w w' : World} {n : Next} (hp : o.op = .call c) (hb : c.callee = .builtin .len) (h : (execOp ρ o).run P w = .ok n w') : ∃ v, n = .value v := by
  unfold execOp at h
  rw [hp] at h
  dsimp only at h
  unfold resolve at h
  rw [hb] at h
  simp only [Sem.run_bind, Sem.run_pure, Result.andThen_ok, invoke, builtin] at h
  cases h1 : Sem.run P (Builtin.len_ c.argTypes o.type (c.args.map ρ)) w with
  | halt y w1 => rw [h1] at h; simp [Result.andThen] at h
  | ok p w1 => rw [h1] at h; simp only [Result.andThen] at h; exact ⟨_, ((Result.ok.inj h).1).symm⟩
theorem len_yields {o : Oper} {c : Call} {a : Act} {v : Value} (hp : o.op = .call c) (hb : c.callee = .builtin .len) (h : ∀ w, C w → o.quietAt P a C w v) : ∀ w, C w → (execOp a.eval o).run P w = .ok (.value v) w := by
  intro w hw
  have h3 := h w hw
  unfold Oper.quietAt at h3
  cases hr : (execOp a.eval o).run P w with
  | ok n w' =>
    rw [hr] at h3
    obtain ⟨u, rfl⟩ := len_value hp hb hr
    simp only [Oper.quietUpon] at h3
    rw [h3.1, h3.2]
  | halt x w' => rw [hr] at h3; simp only [Oper.quietUpon] at h3
theorem wpS_takeB {l : List Oper} {T : Act → World → Prop} {σ : List (Bool × Nat)} {i : Nat} {o : Oper} {c : Call} {a : Act} {w : World} (ho : l[i]? = some o) (hp : o.op = .call c) (hb : c.callee = .builtin .len)
    (h : wpQuiet P l.toArray C (fun a' => wpS P l.toArray C Q T σ a' w) [o] a) : wpS P l.toArray C Q T ((true, i) :: σ) a w := by
  unfold wpQuiet at h
  by_cases hw : Region.wanted o (yielded l.toArray a.tmps) = true
  · rw [if_pos hw] at h
    obtain ⟨v, h1, h2⟩ := h
    exact ⟨o, v, by simpa using ho, .inl ⟨hw, len_yields hp hb h1⟩, h2⟩
  · rw [if_neg hw] at h
    exact ⟨o, undef, by simpa using ho, .inr ⟨by simpa using hw, rfl⟩, h⟩
end
end Go.Proofs.Ytdlpfiiakmhnlaa

namespace Go.Proofs.Ytdlpfiiakmhnlaa
open Go.RowKit

abbrev hI (b c : Int) : Value := .agg #[.int .i64 b, .int .i64 c]
abbrev HVar (w : World) (bl : Nat) (b c : Int) : Prop := Blk w bl #[.int .i64 b, .int .i64 c] 102
theorem HVar.c {w : World} {bl : Nat} {b c : Int} (h : HVar w bl b c) : w.cell? ⟨bl, 0, none⟩ = some (.int .i64 b) ∧ w.cell? ⟨bl, 1, none⟩ = some (.int .i64 c) := ⟨h.cell 0, h.cell 1⟩
set_option maxRecDepth 100000 in
set_option maxHeartbeats 1000000 in
theorem byTo_is (a b c d r : Int) (hr : cmpI a c = r) (w : World) : Calls Try.prog 53 #[hI a b, hI c d] w fun e w' => e = .returned (.int .i64 r) ∧ Below w.heap.size w w' := by
  go_enter Try.func53, Try.ntmps53
  go_wp2_with fail
  refine calls_w ?_
  intro V hV
  have hbV : Below w.heap.size w V := by rw [hV]; exact below_a2 _ _ _
  clear hV
  subst hr
  refine (Compare_any a c V).mono ?_
  rintro e W2 ⟨rfl, hn⟩
  have hb2 := hbV.trans (hn.mono hbV.size)
  clear hn hbV
  go_wp2
  go_ret
  exact ⟨rfl, hb2⟩
/-- the halves rise -/
def SortH (L : List (Nat × Nat)) : Prop := ∀ (j k : Nat) (x y : Nat × Nat), j < k → L[j]? = some x → L[k]? = some y → x.1 < y.1
theorem HRow.val {w : World} {base : Nat} {v : Value} {L : List (Nat × Nat)} (h : HRow w base v L) :
    ∃ ao cap, v = .slice ao L.length cap ∧ L.length ≤ cap ∧ cap ≤ 9223372036854775807 ∧ (0 < L.length → ∃ g, ao = some ⟨g, 0, none⟩ ∧ base ≤ g ∧ g < w.heap.size ∧ ∀ j x, L[j]? = some x → w.cell? ⟨g, j * 2, none⟩ = some (.int .i64 (x.1 : Nat)) ∧ w.cell? ⟨g, j * 2 + 1, none⟩ = some (.int .i64 (x.2 : Nat))) := by
  rcases h.2 with ⟨rfl, hn⟩ | ⟨g, cap, cur, rfl, hb, hg, h1, h2, h3, h4⟩
  · exact ⟨none, 0, by rw [hn], by omega, by omega, fun h0 => by omega⟩
  · refine ⟨_, cap, rfl, h1, by unfold maxLen at h2; omega, fun _ => ⟨g, rfl, hb, (Array.getElem?_eq_some_iff.1 hg).1, fun j x hx => ?_⟩⟩
    have hj : j < L.length := (List.getElem?_eq_some_iff.1 hx).1
    have := hC_at L j x hx
    rw [cell_row hg, cell_row hg, ← Array.getElem?_toList, ← Array.getElem?_toList]
    rw [← h4, List.getElem?_take_of_lt (by omega), List.getElem?_take_of_lt (by omega)] at this
    exact this
set_option maxRecDepth 100000 in
set_option maxHeartbeats 2000000 in
theorem Find_h (base : Nat) (v : Value) (L : List (Nat × Nat)) (b z : Int) (w : World) (hown : HRow w base v L) (hs : SortH L) (hL : L.length < 100000) :
    Calls Try.prog 52 #[v, hI b z, .func (.func 53) #[] #[]] w fun e w' => ∃ (i : Nat) (ok : Bool), e = .returned (.tuple #[.int .i64 i, .bool ok]) ∧ Below w.heap.size w w' ∧ i ≤ L.length ∧ (∀ j x, L[j]? = some x → (j < i → (x.1 : Int) < b) ∧ (i ≤ j → b ≤ (x.1 : Int))) ∧ (ok = true ↔ ∃ x, L[i]? = some x ∧ (x.1 : Int) = b) := by
  obtain ⟨ao, cap, rfl, hc1, hc2, hc3⟩ := hown.val
  obtain ⟨n, hn⟩ : ∃ n, L.length = n := ⟨_, rfl⟩
  rw [hn] at hc1 hc3 hL ⊢
  have HN := Lib.hid hn
  have HC := Lib.hid hc3
  have HS := Lib.hid hs
  clear hown hn hc3 hs
  go_enter Try.func52, Try.ntmps52
  go_wp2_with fail
  refine name_world ?_
  intro V hV
  have KB : Hid (HVar V w.heap.size b z) := by rw [hV]; exact Lib.hid (Blk.new w _ _)
  have hbV : Below w.heap.size w V := by rw [hV]; exact below_a1 _ _
  clear hV
  go_wp2_with fail
  go_loopg [8, 9] n (fun gk s8 s9 wr => ∃ lo hi : Nat, s8 = .int .i64 lo ∧ s9 = .int .i64 hi ∧ lo ≤ hi ∧ hi ≤ n ∧ hi - lo ≤ gk ∧ Hid (∀ j x, L[j]? = some x → (j < lo → (x.1 : Int) < b) ∧ (hi ≤ j → b ≤ (x.1 : Int))) ∧ Hid (HVar wr w.heap.size b z) ∧ Below w.heap.size w wr)
  case atStart => exact ⟨0, n, rfl, rfl, Nat.zero_le _, Nat.le_refl _, by omega, Lib.hid (fun j x hx => ⟨fun h => by omega, fun h => by have := (List.getElem?_eq_some_iff.1 hx).1; have := HN.out; omega⟩), KB, hbV⟩
  case round =>
    clear KB hbV
    obtain ⟨lo, hi, rfl, rfl, h1, h2, h3, HI, KB, hb⟩ := hrel
    by_cases hlt : lo < hi
    · obtain ⟨m, hm⟩ : ∃ m, lo + (hi - lo) / 2 = m := ⟨_, rfl⟩
      have hml : lo ≤ m ∧ m < hi := by omega
      have hmi : (lo : Int) + Int.tdiv ((hi : Int) - (lo : Int)) 2 = (m : Int) := by
        rw [Int.tdiv_eq_ediv_of_nonneg (by omega)]; omega
      obtain ⟨g, rfl, hbg, hgl, hcell⟩ := HC.out (by omega)
      obtain ⟨x, hx⟩ : ∃ x, L[m]? = some x := ⟨_, List.getElem?_eq_getElem (show m < L.length by rw [HN.out]; omega)⟩
      have hcx := hcell m x hx
      obtain ⟨xt, xc⟩ := x
      have p0 : wr.cell? ⟨g, m * 2, none⟩ = some (.int .i64 (xt : Int)) := (hb.cell (p := ⟨g, m * 2, none⟩) hgl).trans hcx.1
      have p1 : wr.cell? ⟨g, m * 2 + 1, none⟩ = some (.int .i64 (xc : Int)) := (hb.cell (p := ⟨g, m * 2 + 1, none⟩) hgl).trans hcx.2
      have HX := Lib.hid hx
      obtain ⟨r, hr⟩ : ∃ r, cmpI (xt : Int) b = r := ⟨_, rfl⟩
      have HR := Lib.hid hr
      have hr3 : (r = -1 ∧ (xt : Int) < b) ∨ (0 ≤ r ∧ r ≤ 1 ∧ b ≤ (xt : Int)) := by rw [← hr]; unfold cmpI; omega
      have hgw : g < wr.heap.size := Nat.lt_of_lt_of_le hgl hb.size
      clear hcell hcx hx hr
      have kb := HVar.c KB.out
      have lb := KB.out.lt
      have hdi : (hi : Int) - (lo : Int) ≤ 9223372036854775807 := by omega
      go_wp2_with fail
      have hbk := hb
      refine wp_region_up wr.heap.size 6 [(true, 0), (true, 1), (true, 2), (true, 3), (true, 4), (true, 5)] (by kernel_rfl) (by kernel_rfl) (fun _ _ d _ _ h => by cases d <;> exact h) ?_
      have hb : Below wr.heap.size wr wr.drew := (Below.refl _ _).drew
      iterate 6
        refine wpS_takeL rfl rfl ?_
        go_big_quiet_step (rfl)
        refine wpQuiet_nil ?_
      refine wpS_nil ?_
      simp only [List.drop_succ_cons, List.drop_zero]
      have hb_ := hb
      replace hb := hbk
      clear hbk
      have KB2 := Lib.hid (KB.out.of hb_)
      clear KB
      go_wp2_with fail
      refine (byTo_is xt xc b z r HR.out _).mono ?_
      rintro e W2 ⟨rfl, hn⟩
      have KB3 := Lib.hid (KB2.out.of hn)
      have hb3 := (hb.trans (hb_.mono hb.size)).trans (hn.mono (hb.trans (hb_.mono hb.size)).size)
      clear hn hb hb_ KB2 kb lb p0 p1
      rcases hr3 with ⟨rfl, hr4⟩ | ⟨hr4, hr5, hr6⟩
      · go_wp2_with fail
        go_roundg (hi - (m + 1))
        case measure => omega
        case rel =>
          refine ⟨m + 1, hi, by norm_cast, rfl, by omega, h2, Nat.le_refl _, Lib.hid (fun j x hx => ⟨fun hj => ?_, fun hj => (HI.out j x hx).2 hj⟩), KB3, hb3⟩
          by_cases e : j = m
          · subst e; rw [HX.out] at hx; injection hx with hx; subst hx; exact hr4
          · have := HS.out j m x _ (by omega) hx HX.out
            have h7 : x.1 < xt := this
            omega
      · have hr7 : ¬ r < 0 := by omega
        go_wp2_with fail
        go_roundg (m - lo)
        case measure => omega
        case rel =>
          refine ⟨lo, m, rfl, rfl, by omega, by omega, Nat.le_refl _, Lib.hid (fun j x hx => ⟨fun hj => (HI.out j x hx).1 hj, fun hj => ?_⟩), KB3, hb3⟩
          by_cases e : j = m
          · subst e; rw [HX.out] at hx; injection hx with hx; subst hx; exact hr6
          · have := HS.out m j _ x (by omega) HX.out hx
            have h7 : xt < x.1 := this
            omega
    · have e : lo = hi := by omega
      subst e
      clear hlt h1 h3
      by_cases hln : lo < n
      · obtain ⟨g, rfl, hbg, hgl, hcell⟩ := HC.out (by omega)
        obtain ⟨x, hx⟩ : ∃ x, L[lo]? = some x := ⟨_, List.getElem?_eq_getElem (show lo < L.length by rw [HN.out]; omega)⟩
        have hcx := hcell lo x hx
        obtain ⟨xt, xc⟩ := x
        have p0 : wr.cell? ⟨g, lo * 2, none⟩ = some (.int .i64 (xt : Int)) := (hb.cell (p := ⟨g, lo * 2, none⟩) hgl).trans hcx.1
        have p1 : wr.cell? ⟨g, lo * 2 + 1, none⟩ = some (.int .i64 (xc : Int)) := (hb.cell (p := ⟨g, lo * 2 + 1, none⟩) hgl).trans hcx.2
        have HX := Lib.hid hx
        obtain ⟨r, hr⟩ : ∃ r, cmpI (xt : Int) b = r := ⟨_, rfl⟩
        have HR := Lib.hid hr
        have hr3 : (r = 0 ∧ (xt : Int) = b) ∨ (r ≠ 0 ∧ (xt : Int) ≠ b) := by rw [← hr]; unfold cmpI; omega
        have hgw : g < wr.heap.size := Nat.lt_of_lt_of_le hgl hb.size
        clear hcell hcx hx hr
        have kb := HVar.c KB.out
        have lb := KB.out.lt
        go_wp2_with fail
        have hbk := hb
        refine wp_region_up wr.heap.size 16 [(true, 0), (true, 1), (true, 2), (true, 3), (true, 4), (true, 5), (true, 6), (true, 7), (true, 8), (true, 9), (true, 10), (true, 11), (false, 12), (true, 13), (true, 14), (true, 15)] (by kernel_rfl) (by kernel_rfl) (fun _ _ d _ _ h => by cases d <;> exact h) ?_
        have hb : Below wr.heap.size wr wr.drew := (Below.refl _ _).drew
        iterate 12
          first | refine wpS_takeL rfl rfl ?_ | refine wpS_takeB rfl rfl rfl ?_
          first | go_big_quiet_step (rfl) | (go_big_quiet_want; go_big_quiet_op; refine ⟨_, fun _ => rfl, ?_⟩; go_big_quiet_on)
          refine wpQuiet_nil ?_
        refine wpS_doL rfl ?_
        intro K hK
        go_wp2_with ((go_at_call 53; (with_reducible refine (byTo_is xt xc b z r HR.out _).mono ?_); rintro e w2 ⟨rfl, hn⟩))
        try replace hb := hb.trans (hn.mono hb.size)
        refine hK.out _ _ (up_iff.2 hb) ?_
        clear hK K
        try clear hn
        iterate 3
          first | refine wpS_takeL rfl rfl ?_ | refine wpS_takeB rfl rfl rfl ?_
          first | go_big_quiet_step (rfl) | (go_big_quiet_want; go_big_quiet_op; refine ⟨_, fun _ => rfl, ?_⟩; go_big_quiet_on)
          refine wpQuiet_nil ?_
        refine wpS_nil ?_
        simp only [List.drop_succ_cons, List.drop_zero]
        have hb_ := hb
        replace hb := hbk
        clear hbk
        have hb3 := hb.trans (hb_.mono hb.size)
        clear hb hb_ kb lb p0 p1 KB
        rcases hr3 with ⟨rfl, hr4⟩ | ⟨hr4, hr5⟩
        · go_wp2
          simp [bodyPost, results, Try.results52, go_sem]
          exact ⟨lo, rfl, hb3, by omega, fun j a b_1 h => HI.out j (a, b_1) h, ⟨_, ⟨_, HX.out⟩, hr4⟩⟩
        · have hr6 : (r == 0) = false := by simpa using hr4
          go_wp2
          simp [bodyPost, results, Try.results52, go_sem, hr6]
          refine ⟨lo, rfl, hb3, by omega, fun j a b_1 h => HI.out j (a, b_1) h, fun x y h h' => ?_⟩
          rw [HX.out] at h; injection h with h; injection h with h _; exact hr5 (by omega)
      · have hbk := hb
        go_wp2_with fail
        refine wp_region_up wr.heap.size 16 [(true, 0), (true, 1), (true, 2), (true, 3), (true, 4), (true, 5), (true, 6), (true, 7), (true, 8), (true, 9), (true, 10), (true, 11), (false, 12), (true, 13), (true, 14), (true, 15)] (by kernel_rfl) (by kernel_rfl) (fun _ _ d _ _ h => by cases d <;> exact h) ?_
        have hb : Below wr.heap.size wr wr.drew := (Below.refl _ _).drew
        iterate 12
          first | refine wpS_takeL rfl rfl ?_ | refine wpS_takeB rfl rfl rfl ?_
          first | go_big_quiet_step (rfl) | (go_big_quiet_want; go_big_quiet_op; refine ⟨_, fun _ => rfl, ?_⟩; go_big_quiet_on)
          refine wpQuiet_nil ?_
        refine wpS_doL rfl ?_
        intro K hK
        go_wp2_with (fail)
        try replace hb := hb.trans (hn.mono hb.size)
        refine hK.out _ _ (up_iff.2 hb) ?_
        clear hK K
        try clear hn
        iterate 3
          first | refine wpS_takeL rfl rfl ?_ | refine wpS_takeB rfl rfl rfl ?_
          first | go_big_quiet_step (rfl) | (go_big_quiet_want; go_big_quiet_op; refine ⟨_, fun _ => rfl, ?_⟩; go_big_quiet_on)
          refine wpQuiet_nil ?_
        refine wpS_nil ?_
        simp only [List.drop_succ_cons, List.drop_zero]
        have hb_ := hb
        replace hb := hbk
        clear hbk
        go_wp2
        simp [bodyPost, results, Try.results52, go_sem]
        refine ⟨lo, rfl, hb.drew, by omega, fun j a b_1 h => HI.out j (a, b_1) h, fun x y h h' => ?_⟩
        have := (List.getElem?_eq_some_iff.1 h).1
        have := HN.out
        omega
end Go.Proofs.Ytdlpfiiakmhnlaa

namespace Go.Proofs.Ytdlpfiiakmhnlaa
open Go.RowKit

abbrev ptr (t o : Nat) : Value := .pointer (some ⟨t, o, none⟩)
/-- where a store's parts lie -/
structure SD where
  po : Option Addr
  pc : Nat
  ob : Nat
  oc : Nat
  V : Nat → Value
/-- the blocks of a store that its calls may write -/
def SD.has (D : SD) (t N b : Nat) : Prop := b = t ∨ b = D.ob ∨ ∃ a, a < N ∧ (D.V a).ownBlock = some b
structure SM (w : World) (t : Nat) (D : SD) (N : Nat) (X Y : Nat → Int) (O : Nat → List (Nat × Nat)) (n : Int) : Prop where
  blk : Blk w t #[.slice D.po N D.pc, .slice (some ⟨D.ob, 0, none⟩) N D.oc, .int .i64 n] 87
  pts : Pts w D.po N D.pc X Y
  pty : 0 < N → ∃ a cur, D.po = some a ∧ w.heap[a.block]? = some (.cells cur 41 (0, 0))
  out : ∃ cur, w.heap[D.ob]? = some (.cells cur 103 (0, 0)) ∧ ∀ a, a < N → cur[a]? = some (D.V a)
  ocl : N ≤ D.oc
  och : D.oc ≤ 9223372036854775807
  rows : ∀ a, a < N → HRow w 0 (D.V a) (O a)
  apart : ∀ a b g, a < N → b < N → a ≠ b → (D.V a).ownBlock = some g → (D.V b).ownBlock ≠ some g
  small : N ≤ 4096
  dom : ∀ a, a < N → ∀ x, x ∈ O a → x.1 < N ∧ x.2 < N
  sort : ∀ a, a < N → SortH (O a)
/-- what may have been written: the blocks of S -/
structure Fr (w w' : World) (S : Nat → Prop) : Prop where
  os : w'.os = w.os
  tape : w'.tape = w.tape
  output : w'.output = w.output
  size : w.heap.size ≤ w'.heap.size
  block : ∀ k, k < w.heap.size → ¬ S k → w'.heap[k]? = w.heap[k]?
theorem Fr.below {w w' : World} {S : Nat → Prop} {B : Nat} (h : Fr w w' S) (hB : B ≤ w.heap.size) (hS : ∀ k, S k → B ≤ k) : Below B w w' :=
  ⟨h.os, h.tape, h.output, h.size, fun k hk => h.block k (by omega) fun hs => by have := hS k hs; omega⟩
theorem Fr.ofBelow {w w' : World} {S : Nat → Prop} (h : Below w.heap.size w w') : Fr w w' S := ⟨h.os, h.tape, h.output, h.size, fun k hk _ => h.block k hk⟩
theorem Fr.trans {w w' w'' : World} {S S' : Nat → Prop} (h : Fr w w' S) (k : Fr w' w'' S') (hs : ∀ b, S' b → S b ∨ w.heap.size ≤ b) : Fr w w'' S :=
  ⟨k.os.trans h.os, k.tape.trans h.tape, k.output.trans h.output, Nat.le_trans h.size k.size, fun b hb hn => (k.block b (Nat.lt_of_lt_of_le hb h.size) (fun h' => by rcases hs b h' with h' | h'; exact hn h'; omega)).trans (h.block b hb hn)⟩
theorem Fr.cell {w w' : World} {S : Nat → Prop} (h : Fr w w' S) {p : Addr} (hp : p.block < w.heap.size) (hS : ¬ S p.block) : w'.cell? p = w.cell? p := World.cell?_of_block (w := w) (h.block p.block hp hS)
theorem Fr.blk {w w' : World} {S : Nat → Prop} (h : Fr w w' S) {b : Nat} {c : Array Value} {ty : TypeId} (hb : Blk w b c ty) (hS : ¬ S b) : Blk w' b c ty := (h.block b hb.lt hS).trans hb
theorem HRow.lt {w : World} {base : Nat} {v : Value} {L : List (Nat × Nat)} (h : HRow w base v L) {g : Nat} (hg : v.ownBlock = some g) : g < w.heap.size := (World.ownsRow.lt h g hg).2
theorem HRow.fr {w w' : World} {base : Nat} {v : Value} {L : List (Nat × Nat)} {S : Nat → Prop} (h : HRow w base v L) (hg : Fr w w' S) (hne : ∀ g, v.ownBlock = some g → ¬ S g) : HRow w' base v L := by
  refine ⟨h.1, h.2.imp id ?_⟩
  rintro ⟨g, cap, cur, rfl, hbg, hh, r⟩
  exact ⟨g, cap, cur, rfl, hbg, (hg.block _ (Array.getElem?_eq_some_iff.1 hh).1 (hne g rfl)).trans hh, r⟩
theorem Pts.fr {w w' : World} {ao : Option Addr} {n cap : Nat} {X Y : Nat → Int} {S : Nat → Prop} (h : Pts w ao n cap X Y) (hf : Fr w w' S) (hS : ∀ a, ao = some a → 0 < n → ¬ S a.block) : Pts w' ao n cap X Y := by
  refine ⟨fun h0 => ?_, h.capl, h.capb⟩
  obtain ⟨a, h1, h2, h3⟩ := h.ptr h0
  refine ⟨a, h1, Nat.lt_of_lt_of_le h2 hf.size, fun i hi => ?_⟩
  have e1 : ∀ k, (a.add k).block = a.block := fun k => by unfold Addr.add; split <;> rfl
  have e2 : ∀ k l, ((a.add k).add l).block = a.block := fun k l => by unfold Addr.add; split <;> split <;> rfl
  have hn := hS a h1 h0
  rw [hf.cell (by rw [e1]; exact h2) (by rw [e1]; exact hn), hf.cell (by rw [e2]; exact h2) (by rw [e2]; exact hn)]
  exact h3 i hi
/-- a store stays where nothing of it is written -/
theorem SM.fr {w w' : World} {t : Nat} {D : SD} {N : Nat} {X Y : Nat → Int} {O : Nat → List (Nat × Nat)} {n : Int} {S : Nat → Prop} (h : SM w t D N X Y O n) (hf : Fr w w' S) (hS : ∀ b, D.has t N b → ¬ S b) (hp : ∀ a, D.po = some a → 0 < N → ¬ S a.block) : SM w' t D N X Y O n := by
  obtain ⟨cur, hc, hcur⟩ := h.out
  refine ⟨hf.blk h.blk (hS t (.inl rfl)), h.pts.fr hf hp, fun h0 => by
    obtain ⟨a, cu, h1, h2⟩ := h.pty h0
    exact ⟨a, cu, h1, (hf.block _ (Array.getElem?_eq_some_iff.1 h2).1 (hp a h1 h0)).trans h2⟩, ⟨cur, (hf.block _ (Array.getElem?_eq_some_iff.1 hc).1 (hS _ (.inr (.inl rfl)))).trans hc, hcur⟩, h.ocl, h.och, fun a ha => (h.rows a ha).fr hf fun g hg => hS g (.inr (.inr ⟨a, ha, hg⟩)), h.apart, h.small, h.dom, h.sort⟩
theorem SM.of {w w' : World} {t : Nat} {D : SD} {N : Nat} {X Y : Nat → Int} {O : Nat → List (Nat × Nat)} {n : Int} (h : SM w t D N X Y O n) (hb : Below w.heap.size w w') : SM w' t D N X Y O n :=
  h.fr (S := fun _ => False) (Fr.ofBelow hb) (fun _ _ => id) (fun _ _ _ => id)
theorem SM.lt {w : World} {t : Nat} {D : SD} {N : Nat} {X Y : Nat → Int} {O : Nat → List (Nat × Nat)} {n : Int} (h : SM w t D N X Y O n) {b : Nat} (hb : D.has t N b) : b < w.heap.size := by
  rcases hb with rfl | rfl | ⟨a, ha, hg⟩
  · exact h.blk.lt
  · obtain ⟨cur, hc, _⟩ := h.out; exact (Array.getElem?_eq_some_iff.1 hc).1
  · exact (h.rows a ha).lt hg
theorem HRow.typ {w : World} {base : Nat} {v : Value} {L : List (Nat × Nat)} (h : HRow w base v L) {g : Nat} (hg : v.ownBlock = some g) {c : Array Value} {ty : TypeId} (hb : w.heap[g]? = some (.cells c ty (0, 0))) : ty = 102 := by
  rcases h.2 with ⟨e, _⟩ | ⟨g', cap, cur', e, _, hh, _⟩
  · rw [e] at hg; cases hg
  · rw [e] at hg; cases hg
    have hh' : w.heap[g']? = some (.cells c ty (0, 0)) := hb
    rw [hh] at hh'; injection hh' with hh'; injection hh' with _ h3; exact h3.symm
/-- a block of another kind is none of a store's -/
theorem SM.notHas {w : World} {t : Nat} {D : SD} {N : Nat} {X Y : Nat → Int} {O : Nat → List (Nat × Nat)} {n : Int} (h : SM w t D N X Y O n) {b : Nat} {c : Array Value} {ty : TypeId} (hb : w.heap[b]? = some (.cells c ty (0, 0)))
    (h1 : ty ≠ 87) (h2 : ty ≠ 103) (h3 : ty ≠ 102) : ¬ D.has t N b := by
  rintro (e | e | ⟨a, ha, hg⟩)
  · have hk := h.blk
    rw [e, show w.heap[t]? = _ from hk] at hb; injection hb with hb; injection hb with _ h4; exact h1 h4.symm
  · obtain ⟨cur, hc, _⟩ := h.out
    rw [e, hc] at hb; injection hb with hb; injection hb with _ h4; exact h2 h4.symm
  · exact h3 ((h.rows a ha).typ hg hb)
theorem SM.pne {w : World} {t : Nat} {D : SD} {N : Nat} {X Y : Nat → Int} {O : Nat → List (Nat × Nat)} {n : Int} (h : SM w t D N X Y O n) (a : Addr) (ha : D.po = some a) (h0 : 0 < N) : ¬ D.has t N a.block := by
  obtain ⟨a', cur, h1, h2⟩ := h.pty h0
  rw [ha] at h1; injection h1 with h1; subst h1
  exact h.notHas h2 (by decide) (by decide) (by decide)
theorem SM.c {w : World} {t : Nat} {D : SD} {N : Nat} {X Y : Nat → Int} {O : Nat → List (Nat × Nat)} {n : Int} (h : SM w t D N X Y O n) :
    w.cell? ⟨t, 0, none⟩ = some (.slice D.po N D.pc) ∧ w.cell? ⟨t, 1, none⟩ = some (.slice (some ⟨D.ob, 0, none⟩) N D.oc) ∧ w.cell? ⟨t, 2, none⟩ = some (.int .i64 n) := ⟨h.blk.cell 0, h.blk.cell 1, h.blk.cell 2⟩
theorem SM.row {w : World} {t : Nat} {D : SD} {N : Nat} {X Y : Nat → Int} {O : Nat → List (Nat × Nat)} {n : Int} (h : SM w t D N X Y O n) {a : Nat} (ha : a < N) : w.cell? ⟨D.ob, a, none⟩ = some (D.V a) := by
  obtain ⟨cur, hc, hcur⟩ := h.out
  rw [cell_row hc, hcur a ha]
theorem sort_ge {L : List (Nat × Nat)} (hs : SortH L) : ∀ (i : Nat) (x : Nat × Nat), L[i]? = some x → i ≤ x.1
  | 0, _, _ => Nat.zero_le _
  | i + 1, x, hx => by
    have hi : i + 1 < L.length := (List.getElem?_eq_some_iff.1 hx).1
    have h1 := sort_ge hs i _ (List.getElem?_eq_getElem (show i < L.length by omega))
    have h2 := hs i (i + 1) _ x (by omega) (List.getElem?_eq_getElem (show i < L.length by omega)) hx
    omega
theorem sort_len {L : List (Nat × Nat)} {N : Nat} (hs : SortH L) (hd : ∀ x, x ∈ L → x.1 < N) : L.length ≤ N := by
  by_cases h : L.length = 0
  · omega
  · have hi : L.length - 1 < L.length := by omega
    have h1 := sort_ge hs _ _ (List.getElem?_eq_getElem hi)
    have h2 := hd _ (List.getElem_mem hi)
    omega
theorem SM.len {w : World} {t : Nat} {D : SD} {N : Nat} {X Y : Nat → Int} {O : Nat → List (Nat × Nat)} {n : Int} (h : SM w t D N X Y O n) (a : Nat) (ha : a < N) : (O a).length < 100000 := by
  have := sort_len (h.sort a ha) (fun x hx => (h.dom a ha x hx).1)
  have := h.small
  omega
def hasI (N : Nat) (a : Int) : Bool := decide (0 ≤ a) && decide (a < N)
set_option maxRecDepth 100000 in
set_option maxHeartbeats 1000000 in
theorem has_is (t : Nat) (D : SD) (N : Nat) (X Y : Nat → Int) (O : Nat → List (Nat × Nat)) (n a : Int) (w : World) (h : SM w t D N X Y O n) :
    Calls Try.prog 51 #[ptr t 0, .int .i64 a] w fun e w' => e = .returned (.bool (hasI N a)) ∧ Below w.heap.size w w' := by
  obtain ⟨c0, c1, c2⟩ := h.c
  have hs := h.small
  clear h
  by_cases h1 : 0 ≤ a <;> by_cases h2 : a < N
  all_goals
    go_enter Try.func51, Try.ntmps51
    go_wp2
    go_ret
    exact ⟨by unfold hasI; simp [h1, h2], Below.refl _ _⟩
set_option maxRecDepth 100000 in
theorem Len_is (t : Nat) (D : SD) (N : Nat) (X Y : Nat → Int) (O : Nat → List (Nat × Nat)) (n : Int) (w : World) (h : SM w t D N X Y O n) :
    Calls Try.prog 30 #[ptr t 0] w fun e w' => e = .returned (.int .i64 n) ∧ Below w.heap.size w w' := by
  obtain ⟨c0, c1, c2⟩ := h.c
  clear h
  go_enter Try.func30, Try.ntmps30
  go_wp2
  go_ret
  exact ⟨rfl, Below.refl _ _⟩
/-- the third corner of a side of a vertex -/
def lookH (L : List (Nat × Nat)) (b : Int) : Option Nat := (L.find? fun x => decide ((x.1 : Int) = b)).map (·.2)
def leftO (N : Nat) (O : Nat → List (Nat × Nat)) (a b : Int) : Option Nat := if 0 ≤ a ∧ a < N then lookH (O a.toNat) b else none
theorem lookH_some {L : List (Nat × Nat)} (hs : SortH L) {i : Nat} {x : Nat × Nat} {b : Int} (hx : L[i]? = some x) (hb : (x.1 : Int) = b) : lookH L b = some x.2 := by
  unfold lookH
  have hi : i < L.length := (List.getElem?_eq_some_iff.1 hx).1
  have : L.find? (fun x => decide ((x.1 : Int) = b)) = some x := by
    rw [List.find?_eq_some_iff_getElem]
    refine ⟨by simpa using hb, i, hi, (List.getElem?_eq_some_iff.1 hx).2, fun j hj => ?_⟩
    have h3 := hs j i _ x hj (List.getElem?_eq_getElem (by omega)) hx
    simp; omega
  rw [this]; rfl
theorem lookH_none {L : List (Nat × Nat)} {b : Int} (h : ∀ x, x ∈ L → (x.1 : Int) ≠ b) : lookH L b = none := by
  unfold lookH
  have : L.find? (fun x => decide ((x.1 : Int) = b)) = none := by
    rw [List.find?_eq_none]; intro x hx; simpa using h x hx
  rw [this]; rfl
end Go.Proofs.Ytdlpfiiakmhnlaa

namespace Go.Proofs.Ytdlpfiiakmhnlaa
open Go.RowKit

set_option maxRecDepth 100000 in
set_option maxHeartbeats 2000000 in
theorem Left_is (t : Nat) (D : SD) (N : Nat) (X Y : Nat → Int) (O : Nat → List (Nat × Nat)) (n a b : Int) (w : World) (h : SM w t D N X Y O n) (R : Option Nat) (hR : leftO N O a b = R) :
    Calls Try.prog 21 #[ptr t 0, .int .i64 a, .int .i64 b] w fun e w' => e = .returned (.tuple #[.int .i64 (R.getD 0 : Nat), .bool R.isSome]) ∧ Below w.heap.size w w' := by
  have HM := Lib.hid h
  have HR := Lib.hid hR
  clear h hR
  go_enter Try.func21, Try.ntmps21
  go_wp2_with fail
  refine (has_is t D N X Y O n a w HM.out).mono ?_
  rintro e W1 ⟨rfl, hb1⟩
  have HM1 := Lib.hid (HM.out.of hb1)
  clear HM
  by_cases ha : 0 ≤ a ∧ a < N
  · obtain ⟨a', rfl⟩ : ∃ a' : Nat, a = a' := ⟨a.toNat, by omega⟩
    have haN : a' < N := by omega
    have hh : hasI N (a' : Int) = true := by unfold hasI; simp; omega
    have hle : leftO N O (a' : Int) b = lookH (O a') b := by unfold leftO; rw [if_pos ha]; rfl
    rw [hh]
    have HLE := Lib.hid hle
    clear hle
    have HROW := Lib.hid (HM1.out.rows a' haN)
    have HSR := Lib.hid (HM1.out.sort a' haN)
    obtain ⟨c0, c1, c2⟩ := HM1.out.c
    have cr := HM1.out.row haN
    have hsm := HM1.out.small
    have hln := HM1.out.len a' haN
    obtain ⟨ao, cap, hv, hc1, hc2, hc3⟩ := HROW.out.val
    have HC3 := Lib.hid hc3
    rw [hv] at cr HROW
    clear hh hc3
    go_wp2_with fail
    refine (Find_h 0 _ (O a') b 0 W1 HROW.out HSR.out hln).mono ?_
    rintro e W2 ⟨i, ok, rfl, hb2, hi, hj, hok⟩
    have hbb := hb1.trans (hb2.mono hb1.size)
    have HM2 := Lib.hid (HM1.out.of hb2)
    cases ok
    · have hno : lookH (O a') b = none := by
        refine lookH_none fun x hx hxb => ?_
        obtain ⟨j, hjl, hje⟩ := List.getElem_of_mem hx
        have hjx : (O a')[j]? = some x := by rw [List.getElem?_eq_getElem hjl, hje]
        have h4 := hj j x hjx
        by_cases hji : j < i
        · have := h4.1 hji; omega
        · have hil : i < (O a').length := by omega
          have h5 := hj i _ (List.getElem?_eq_getElem hil)
          by_cases e : i = j
          · subst e
            exact absurd (hok.2 ⟨x, hjx, hxb⟩) (by simp)
          · have h6 := HSR.out i j _ x (by omega) (List.getElem?_eq_getElem hil) hjx
            have h7 := h5.2 (Nat.le_refl _)
            omega
      obtain rfl : R = none := by rw [← HR.out, HLE.out]; exact hno
      clear hj hok hno HC3 HSR HROW c0 c1 c2 cr hv
      go_wp2
      simp [bodyPost, results, Try.results21, go_sem]
      exact hbb
    · obtain ⟨x, hx, hxb⟩ := hok.1 rfl
      have hso := lookH_some HSR.out hx hxb
      have hil : i < (O a').length := (List.getElem?_eq_some_iff.1 hx).1
      obtain ⟨g, rfl, _, hgl, hcell⟩ := HC3.out (by omega)
      have hcx := hcell i x hx
      obtain ⟨xt, xc⟩ := x
      have p0 : W2.cell? ⟨g, i * 2, none⟩ = some (.int .i64 (xt : Int)) := (hb2.cell (p := ⟨g, i * 2, none⟩) hgl).trans hcx.1
      have p1 : W2.cell? ⟨g, i * 2 + 1, none⟩ = some (.int .i64 (xc : Int)) := (hb2.cell (p := ⟨g, i * 2 + 1, none⟩) hgl).trans hcx.2
      obtain rfl : R = some xc := by rw [← HR.out, HLE.out]; exact hso
      clear hj hok hx hxb hso HC3 HSR HROW c0 c1 c2 cr hcell hcx
      obtain ⟨c0, c1, c2⟩ := HM2.out.c
      have cr := HM2.out.row haN
      rw [hv] at cr
      clear hv
      go_wp2
      simp [bodyPost, results, Try.results21, go_sem]
      exact hbb
  · have hh : hasI N a = false := by unfold hasI; simp; omega
    have hle : leftO N O a b = none := by unfold leftO; rw [if_neg ha]
    obtain rfl : R = none := by rw [← HR.out]; exact hle
    rw [hh]
    clear hh hle HM1
    go_wp2
    simp [bodyPost, results, Try.results21, go_sem]
    exact hb1
end Go.Proofs.Ytdlpfiiakmhnlaa

namespace Go.Proofs.Ytdlpfiiakmhnlaa
open Go.RowKit

/-- a half put in its place -/
def insH (b c : Nat) : List (Nat × Nat) → List (Nat × Nat)
  | [] => [(b, c)]
  | x :: l => if x.1 < b then x :: insH b c l else (b, c) :: x :: l
theorem insH_at (b c : Nat) : ∀ (L : List (Nat × Nat)) (i : Nat), i ≤ L.length → (∀ (j : Nat) (x : Nat × Nat), L[j]? = some x → (j < i → (x.1 : Int) < (b : Int)) ∧ (i ≤ j → (b : Int) ≤ (x.1 : Int))) → L.take i ++ (b, c) :: L.drop i = insH b c L
  | [], i, hi, _ => by
    have : i = 0 := by simpa using hi
    subst this; rfl
  | x :: l, 0, _, h => by
    have := (h 0 x rfl).2 (Nat.le_refl _)
    show (b, c) :: x :: l = if x.1 < b then _ else _
    rw [if_neg (by omega)]
  | x :: l, i + 1, hi, h => by
    have h0 := (h 0 x rfl).1 (by omega)
    show x :: (l.take i ++ (b, c) :: l.drop i) = if x.1 < b then x :: insH b c l else _
    rw [if_pos (by omega), insH_at b c l i (by simpa using hi) (fun j y hy => ?_)]
    have := h (j + 1) y (by simpa using hy)
    exact ⟨fun hj => this.1 (by omega), fun hj => this.2 (by omega)⟩
theorem mem_insH {b c : Nat} {x : Nat × Nat} : ∀ {L}, x ∈ insH b c L ↔ x = (b, c) ∨ x ∈ L
  | [] => by simp [insH]
  | y :: l => by
    unfold insH
    split
    · rw [List.mem_cons, mem_insH (L := l), List.mem_cons]
      constructor
      · rintro (h | h | h)
        · exact .inr (.inl h)
        · exact .inl h
        · exact .inr (.inr h)
      · rintro (h | h | h)
        · exact .inr (.inl h)
        · exact .inl h
        · exact .inr (.inr h)
    · rw [List.mem_cons]
theorem sortH_pair {L : List (Nat × Nat)} : SortH L ↔ L.Pairwise fun x y => x.1 < y.1 := by
  rw [List.pairwise_iff_getElem]
  constructor
  · intro h i j hi hj hij
    exact h i j _ _ hij (List.getElem?_eq_getElem hi) (List.getElem?_eq_getElem hj)
  · intro h j k x y hjk hx hy
    obtain ⟨h1, rfl⟩ := List.getElem?_eq_some_iff.1 hx
    obtain ⟨h2, rfl⟩ := List.getElem?_eq_some_iff.1 hy
    exact h j k h1 h2 hjk
theorem insH_sort {b c : Nat} : ∀ {L}, SortH L → (∀ x, x ∈ L → x.1 ≠ b) → SortH (insH b c L)
  | [], _, _ => by rw [sortH_pair]; exact List.pairwise_singleton _ _
  | x :: l, h, hn => by
    rw [sortH_pair] at h ⊢
    have hc := List.pairwise_cons.1 h
    unfold insH
    split
    · rename_i hlt
      refine List.pairwise_cons.2 ⟨fun y hy => ?_, sortH_pair.1 (insH_sort (sortH_pair.2 hc.2) fun y hy => hn y (List.mem_cons_of_mem _ hy))⟩
      rcases mem_insH.1 hy with rfl | hy
      · exact hlt
      · exact hc.1 y hy
    · rename_i hge
      have hx := hn x (List.mem_cons_self ..)
      refine List.pairwise_cons.2 ⟨fun y hy => ?_, h⟩
      show b < y.1
      rcases List.mem_cons.1 hy with rfl | hy
      · omega
      · have := hc.1 y hy; omega
theorem lookH_absent {L : List (Nat × Nat)} {b : Nat} (h : lookH L b = none) : ∀ x, x ∈ L → x.1 ≠ b := by
  intro x hx e
  unfold lookH at h
  rw [Option.map_eq_none_iff, List.find?_eq_none] at h
  have := h x hx
  simp at this; omega
theorem lookH_ins {L : List (Nat × Nat)} {b c d : Nat} (hs : SortH L) (h : lookH L b = none) : lookH (insH b c L) d = if d = b then some c else lookH L d := by
  have hso := insH_sort (c := c) hs (lookH_absent h)
  by_cases e : d = b
  · subst e
    rw [if_pos rfl]
    have hm : (d, c) ∈ insH d c L := mem_insH.2 (.inl rfl)
    obtain ⟨i, hi, hx⟩ := List.getElem_of_mem hm
    exact lookH_some hso (i := i) (x := (d, c)) (by rw [List.getElem?_eq_getElem hi, hx]) rfl
  · rw [if_neg e]
    cases hl : L.find? (fun x => decide ((x.1 : Int) = (d : Int))) with
    | none =>
      have h1 : lookH L d = none := by unfold lookH; rw [hl]; rfl
      rw [h1]
      refine lookH_none fun x hx hxd => ?_
      rcases mem_insH.1 hx with rfl | hx
      · exact e (by omega)
      · exact lookH_absent h1 x hx (by omega)
    | some y =>
      have h1 : lookH L d = some y.2 := by unfold lookH; rw [hl]; rfl
      have hy := List.find?_some hl
      have hym := List.mem_of_find?_eq_some hl
      have hm : y ∈ insH b c L := mem_insH.2 (.inr hym)
      obtain ⟨i, hi, hx⟩ := List.getElem_of_mem hm
      rw [h1]
      exact lookH_some hso (i := i) (x := y) (by rw [List.getElem?_eq_getElem hi, hx]) (by simpa using hy)
/-- one side put in -/
def put1 (O : Nat → List (Nat × Nat)) (a b c : Nat) : Nat → List (Nat × Nat) := fun v => if v = a then insH b c (O a) else O v
def putT (O : Nat → List (Nat × Nat)) (a b c : Nat) : Nat → List (Nat × Nat) := put1 (put1 (put1 O a b c) b c a) c a b
abbrev tI (a b c : Int) : Value := .agg #[.int .i64 a, .int .i64 b, .int .i64 c]
abbrev sI (a b c : Int) : Value := .agg #[.int .i64 a, .int .i64 b, .int .i64 c, .int .i64 b, .int .i64 c, .int .i64 a, .int .i64 c, .int .i64 a, .int .i64 b]
set_option maxRecDepth 100000 in
set_option maxHeartbeats 1000000 in
theorem sides_is (a b c : Int) (w : World) : Calls Try.prog 50 #[tI a b c] w fun e w' => e = .returned (sI a b c) ∧ Below w.heap.size w w' := by
  go_enter Try.func50, Try.ntmps50
  go_wp2
  simp [bodyPost, results, Try.results50, go_sem]
  exact below_a2 _ _ _
set_option maxRecDepth 100000 in
theorem side_at (a b c : Int) (k : Nat) (hk : k < 3) (w : World) : Sem.run Try.prog (Instr.index 96 (sI a b c) (.int .i64 k)) w = .ok (if k = 0 then tI a b c else if k = 1 then tI b c a else tI c a b) w := by
  rcases (show k = 0 ∨ k = 1 ∨ k = 2 by omega) with rfl | rfl | rfl <;> kernel_rfl
theorem SM.rowne {w : World} {t : Nat} {D : SD} {N : Nat} {X Y : Nat → Int} {O : Nat → List (Nat × Nat)} {n : Int} (h : SM w t D N X Y O n) {a : Nat} (ha : a < N) {g : Nat} (hg : (D.V a).ownBlock = some g) : g ≠ t ∧ g ≠ D.ob ∧ g < w.heap.size := by
  refine ⟨fun e => ?_, fun e => ?_, (h.rows a ha).lt hg⟩
  · subst e; exact absurd ((h.rows a ha).typ hg h.blk) (by decide)
  · obtain ⟨cur, hc, _⟩ := h.out
    subst e; exact absurd ((h.rows a ha).typ hg hc) (by decide)
/-- a row of the store is set anew -/
theorem SM.set {w w1 w2 : World} {t : Nat} {D : SD} {N : Nat} {X Y : Nat → Int} {O : Nat → List (Nat × Nat)} {n : Int} (h : SM w t D N X Y O n) {a : Nat} (ha : a < N) {v' : Value} {L' : List (Nat × Nat)}
    (hr : HRow w1 0 v' L') (hg : w.grownBy w1 (D.V a).ownBlock) (hl : ∀ g, v'.ownBlock = some g → (D.V a).ownBlock = some g ∨ w.heap.size ≤ g) (hw2 : w2 = w1.setCell ⟨D.ob, a, none⟩ v')
    (hd : ∀ x, x ∈ L' → x.1 < N ∧ x.2 < N) (hs : SortH L') :
    ∃ D' : SD, SM w2 t D' N X Y (fun v => if v = a then L' else O v) n ∧ Fr w w2 (D.has t N) ∧ (∀ g, D'.has t N g → D.has t N g ∨ w.heap.size ≤ g) ∧ D'.po = D.po := by
  obtain ⟨cur, hc, hcur⟩ := h.out
  have hob := (Array.getElem?_eq_some_iff.1 hc).1
  have hfg : Fr w w1 (fun b => (D.V a).ownBlock = some b) := ⟨hg.os, hg.tape, hg.output, hg.size, fun k hk hn => hg.block k hk (fun e => hn e.symm)⟩
  have hrow : ∀ b, b < N → ∀ g, (D.V b).ownBlock = some g → g ≠ D.ob ∧ g ≠ t ∧ g < w.heap.size := by
    intro b hb g hgg
    have hlt := (h.rows b hb).lt hgg
    rcases (h.rows b hb).2 with ⟨e, _⟩ | ⟨g', cap, cur', e, _, hh, _⟩
    · rw [e] at hgg; cases hgg
    · rw [e] at hgg; cases hgg
      refine ⟨fun e => ?_, fun e => ?_, hlt⟩
      · have e' : g' = D.ob := e
        rw [e', hc] at hh; injection hh with hh; injection hh with _ h3; exact absurd h3 (by decide)
      · have hb := h.blk
        have e' : g' = t := e
        rw [e'] at hh
        rw [show w.heap[t]? = _ from hb] at hh; injection hh with hh; injection hh with _ h3; exact absurd h3 (by decide)
  have hobt : D.ob ≠ t := by
    intro e
    have hb := h.blk
    rw [e, show w.heap[t]? = _ from hb] at hc; injection hc with hc; injection hc with _ h3; exact absurd h3 (by decide)
  have hna : ∀ g, (D.V a).ownBlock = some g → g ≠ D.ob := fun g hgg => (hrow a ha g hgg).1
  have hc1 : w1.heap[D.ob]? = some (.cells cur 103 (0, 0)) := (hfg.block _ hob (fun e => hna _ e rfl)).trans hc
  have hcs : a < cur.size := by
    have := hcur a ha
    exact (Array.getElem?_eq_some_iff.1 this).1
  have hc2 : w2.heap[D.ob]? = some (.cells (cur.setIfInBounds a v') 103 (0, 0)) := by
    rw [hw2, setCell_eq_setRow w1 D.ob a cur _ _ v' hc1]
    exact setRow_heap w1 D.ob cur _ _ _ hc1
  have hoth : ∀ k, k ≠ D.ob → w2.heap[k]? = w1.heap[k]? := fun k hk => by rw [hw2]; exact Below.heap_setCell w1 ⟨D.ob, a, none⟩ v' k hk
  have hsz : w2.heap.size = w1.heap.size := by rw [hw2]; simp [World.setCell]
  have hf2 : Fr w w2 (D.has t N) := by
    refine ⟨by rw [hw2]; exact hg.os, by rw [hw2]; exact hg.tape, by rw [hw2]; exact hg.output, by rw [hsz]; exact hg.size, fun k hk hn => ?_⟩
    rw [hoth k (fun e => hn (.inr (.inl e)))]
    exact hfg.block k hk (fun e => hn (.inr (.inr ⟨a, ha, e⟩)))
  have hvob : ∀ g, v'.ownBlock = some g → g ≠ D.ob := by
    intro g hgg
    rcases hl g hgg with h4 | h4
    · exact hna g h4
    · omega
  obtain ⟨D', hpo, hpc, hob', hoc, hV1, hV2⟩ : ∃ D' : SD, D'.po = D.po ∧ D'.pc = D.pc ∧ D'.ob = D.ob ∧ D'.oc = D.oc ∧ D'.V a = v' ∧ ∀ b, b ≠ a → D'.V b = D.V b :=
    ⟨⟨D.po, D.pc, D.ob, D.oc, fun v => if v = a then v' else D.V v⟩, rfl, rfl, rfl, rfl, if_pos rfl, fun b hb => if_neg hb⟩
  obtain ⟨O', hO, hO1, hO2⟩ : ∃ O', O' = (fun v => if v = a then L' else O v) ∧ O' a = L' ∧ ∀ b, b ≠ a → O' b = O b := ⟨_, rfl, if_pos rfl, fun b hb => if_neg hb⟩
  rw [← hO]
  have hhas : ∀ g, D'.has t N g → D.has t N g ∨ w.heap.size ≤ g := by
    rintro g (hh | hh | ⟨b, hb, hh⟩)
    · exact .inl (.inl hh)
    · exact .inl (.inr (.inl (hh.trans hob')))
    · by_cases e : b = a
      · rw [e, hV1] at hh
        rcases hl g hh with h4 | h4
        · exact .inl (.inr (.inr ⟨a, ha, h4⟩))
        · exact .inr h4
      · rw [hV2 b e] at hh; exact .inl (.inr (.inr ⟨b, hb, hh⟩))
  refine ⟨D', ⟨?_, ?_, ?_, ?_, by rw [hoc]; exact h.ocl, by rw [hoc]; exact h.och, ?_, ?_, h.small, ?_, ?_⟩, hf2, hhas, hpo⟩
  · rw [hpo, hpc, hob', hoc]
    have hb1 : Blk w1 t _ _ := hfg.blk h.blk (fun e => (hrow a ha t e).2.1 rfl)
    exact (hoth t hobt.symm).trans hb1
  · rw [hpo, hpc]; exact h.pts.fr hf2 h.pne
  · rw [hpo]
    intro h0
    obtain ⟨p, cu, h1, h2⟩ := h.pty h0
    exact ⟨p, cu, h1, (hf2.block _ (Array.getElem?_eq_some_iff.1 h2).1 (h.pne p h1 h0)).trans h2⟩
  · rw [hob']
    refine ⟨_, hc2, fun b hb => ?_⟩
    by_cases e : b = a
    · rw [e, hV1, Array.getElem?_setIfInBounds]; simp [hcs]
    · rw [hV2 b e, Array.getElem?_setIfInBounds_ne (by omega)]; exact hcur b hb
  · intro b hb
    have hf12 : Fr w1 w2 (fun k => k = D.ob) := ⟨by rw [hw2]; rfl, by rw [hw2]; rfl, by rw [hw2]; rfl, by rw [hsz]; exact Nat.le_refl _, fun k _ hn => hoth k hn⟩
    by_cases e : b = a
    · rw [e, hV1, hO1]
      exact hr.fr hf12 hvob
    · rw [hV2 b e, hO2 b e]
      have h1 : HRow w1 0 (D.V b) (O b) := (h.rows b hb).fr hfg fun g hgg e2 => h.apart b a g hb ha e hgg e2
      exact h1.fr hf12 fun g hgg => (hrow b hb g hgg).1
  · intro b b' g hb hb' hne hgg hgg'
    by_cases e : b = a
    · have e' : b' ≠ a := fun e' => hne (e.trans e'.symm)
      rw [e, hV1] at hgg
      rw [hV2 b' e'] at hgg'
      rcases hl g hgg with h4 | h4
      · exact h.apart a b' g ha hb' (fun h5 => e' h5.symm) h4 hgg'
      · have := (hrow b' hb' g hgg').2.2; omega
    · rw [hV2 b e] at hgg
      by_cases e' : b' = a
      · rw [e', hV1] at hgg'
        rcases hl g hgg' with h4 | h4
        · exact h.apart b a g hb ha e hgg h4
        · have := (hrow b hb g hgg).2.2; omega
      · rw [hV2 b' e'] at hgg'
        exact h.apart b b' g hb hb' hne hgg hgg'
  · intro b hb x hx
    by_cases e : b = a
    · rw [e, hO1] at hx; exact hd x hx
    · rw [hO2 b e] at hx; exact h.dom b hb x hx
  · intro b hb
    by_cases e : b = a
    · rw [e, hO1]; exact hs
    · rw [hO2 b e]; exact h.sort b hb
end Go.Proofs.Ytdlpfiiakmhnlaa

namespace Go.Proofs.Ytdlpfiiakmhnlaa
open Go.RowKit

section
variable {P : Program} {ops : Array Oper} {C : World → Prop} {Q : Exit → Act → World → Prop}
theorem nil_value {o : Oper} {x : Operand} {ρ : Operand → Value} {w w' : World} {n : Next} (hp : o.op = .nilCheck x) (h : (execOp ρ o).run P w = .ok n w') : ∃ v, n = .value v := by
  unfold execOp at h
  rw [hp] at h
  dsimp only at h
  split at h
  · simp [runtimePanic] at h
  · simp [runtimePanic] at h
  · simp [runtimePanic] at h
  · split at h
    · simp [runtimePanic] at h
    · simp only [Sem.run_bind] at h
      cases h1 : Sem.run P program w with
      | halt y w1 => rw [h1] at h; simp [Result.andThen] at h
      | ok p w1 =>
        rw [h1] at h
        simp only [Result.andThen] at h
        cases h2 : Sem.run P (nilAhead (p.types.size + Made.depth) _ _ _) w1 with
        | halt y w2 => rw [h2] at h; simp at h
        | ok b w2 =>
          rw [h2] at h
          simp only at h
          split at h
          · simp [unsupported, Result.andThen] at h
          · exact ⟨_, ((Result.ok.inj h).1).symm⟩
    · exact ⟨_, ((Result.ok.inj h).1).symm⟩
  · exact ⟨_, ((Result.ok.inj h).1).symm⟩
theorem nil_yields {o : Oper} {x : Operand} {a : Act} {v : Value} (hp : o.op = .nilCheck x) (h : ∀ w, C w → o.quietAt P a C w v) : ∀ w, C w → (execOp a.eval o).run P w = .ok (.value v) w := by
  intro w hw
  have h3 := h w hw
  unfold Oper.quietAt at h3
  cases hr : (execOp a.eval o).run P w with
  | ok n w' =>
    rw [hr] at h3
    obtain ⟨u, rfl⟩ := nil_value hp hr
    simp only [Oper.quietUpon] at h3
    rw [h3.1, h3.2]
  | halt x w' => rw [hr] at h3; simp only [Oper.quietUpon] at h3
theorem wpS_takeN {l : List Oper} {T : Act → World → Prop} {σ : List (Bool × Nat)} {i : Nat} {o : Oper} {a : Act} {w : World} (ho : l[i]? = some o) (hp : ∃ x, o.op = .nilCheck x)
    (h : wpQuiet P l.toArray C (fun a' => wpS P l.toArray C Q T σ a' w) [o] a) : wpS P l.toArray C Q T ((true, i) :: σ) a w := by
  obtain ⟨x, hx⟩ := hp
  have ho' : l.toArray[i]? = some o := by simpa using ho
  unfold wpQuiet at h
  by_cases hw : Region.wanted o (yielded l.toArray a.tmps) = true
  · rw [if_pos hw] at h
    obtain ⟨v, h1, h2⟩ := h
    exact ⟨o, v, ho', .inl ⟨hw, nil_yields hx h1⟩, h2⟩
  · rw [if_neg hw] at h
    exact ⟨o, undef, ho', .inr ⟨by simpa using hw, rfl⟩, h⟩
end
end Go.Proofs.Ytdlpfiiakmhnlaa

namespace Go.Proofs.Ytdlpfiiakmhnlaa
open Go.RowKit

structure OutL (l : List Nat) (W w' : World) : Prop where
  os : w'.os = W.os
  tape : w'.tape = W.tape
  output : w'.output = W.output
  size : W.heap.size ≤ w'.heap.size
  block : ∀ k, k < W.heap.size → k ∉ l → w'.heap[k]? = W.heap[k]?
theorem OutL.refl (l : List Nat) (W : World) : OutL l W W := ⟨rfl, rfl, rfl, Nat.le_refl _, fun _ _ _ => rfl⟩
theorem OutL.ofBelow {l : List Nat} {w w' : World} (h : Below w.heap.size w w') : OutL l w w' := ⟨h.os, h.tape, h.output, h.size, fun k hk _ => h.block k hk⟩
theorem OutL.trans {l : List Nat} {W w w' : World} (h : OutL l W w) (h' : OutL l w w') : OutL l W w' :=
  ⟨h'.os.trans h.os, h'.tape.trans h.tape, h'.output.trans h.output, Nat.le_trans h.size h'.size, fun k hk hc => (h'.block k (Nat.lt_of_lt_of_le hk h.size) hc).trans (h.block k hk hc)⟩
theorem OutL.mono {l l' : List Nat} {W w : World} (h : OutL l W w) (hl : ∀ k, k < W.heap.size → k ∈ l → k ∈ l') : OutL l' W w :=
  ⟨h.os, h.tape, h.output, h.size, fun k hk hc => h.block k hk fun hm => hc (hl k hk hm)⟩
theorem OutL.set {l : List Nat} {W w : World} (h : OutL l W w) {b : Nat} (hb : b ∈ l) (o : Nat) (s : Option Nat) (v : Value) : OutL l W (w.setCell ⟨b, o, s⟩ v) :=
  ⟨h.os, h.tape, h.output, by simpa [World.setCell] using h.size, fun k hk hc => (Below.heap_setCell _ _ _ _ (fun e => hc (by have : k = b := e; rw [this]; exact hb))).trans (h.block k hk hc)⟩
theorem OutL.alloc {l : List Nat} {W w : World} (h : OutL l W w) (o : Obj) : OutL l W (w.alloc o) := h.trans (.ofBelow ((Below.refl _ _).alloc (Nat.le_refl _) o))
theorem OutL.drew {l : List Nat} {W w : World} (h : OutL l W w) : OutL l W w.drew := h.trans (.ofBelow (Below.refl _ _).drew)
theorem OutL.below {l : List Nat} {B : Nat} {W w : World} (h : OutL l W w) (hB : B ≤ W.heap.size) (hl : ∀ k ∈ l, B ≤ k) : Below B W w :=
  ⟨h.os, h.tape, h.output, h.size, fun k hk => h.block k (by omega) fun hm => by have := hl k hm; omega⟩
def UpL (l : List Nat) (W : World) : Type := { w' : World // OutL l W w' }
def UpL.w {l : List Nat} {W : World} (u : UpL l W) : World := u.1
@[go_sem] theorem UpL.cell {l : List Nat} {W : World} (u : UpL l W) (b o : Nat) (h : b < W.heap.size) (hc : b ∉ l) : u.w.cell? ⟨b, o, none⟩ = W.cell? ⟨b, o, none⟩ :=
  World.cell?_of_block (w := W) (u.2.block b h hc)
theorem upl {l : List Nat} {W w' : World} (h : OutL l W w') : ∃ u : UpL l W, w' = u.w := ⟨⟨w', h⟩, rfl⟩
theorem wp_region_upl {P : Program} {Q : Exit → Act → World → Prop} {id : Nat} {a : Act} {w : World} {l : List Oper} (c : List Nat) (n : Nat) (σ : List (Bool × Nat)) (hm : P.follows .mixedOrders = true)
    (hB : (Region.noSelect l.toArray && headB .any l.toArray n && decide (σ.length = n) && decide (n ≤ l.length) && schedB .any l.toArray n σ (Array.replicate l.length false)) = true)
    (hQ : ∀ c a d v w, Q (.panic c) (Act.put a d v) w → Q (.panic c) a w)
    (h : wpS P l.toArray (fun w' => ∃ u : UpL c w, w' = u.w) Q (fun a' w' => wpList P l.toArray Q (l.drop n) a' w') σ a w.drew) : (Code.region id l.toArray true).wp P Q a w :=
  wp_region_sched n σ _ hm hB hQ (upl ((OutL.refl c w).drew)) h
end Go.Proofs.Ytdlpfiiakmhnlaa

namespace Go.Proofs.Ytdlpfiiakmhnlaa
open Go.RowKit

theorem name_Kw {K : Act → World → Prop} {a : Act} {w : World} (h : ∀ W, W = w → K a W) : K a w := h w rfl
theorem SM.outf {w : World} {t : Nat} {D : SD} {N : Nat} {X Y : Nat → Int} {O : Nat → List (Nat × Nat)} {n : Int} (h : SM w t D N X Y O n) (a : Nat) : w.frozen? ⟨D.ob, a, none⟩ = false := by
  obtain ⟨cur, hc, _⟩ := h.out
  exact frozen_row hc a
/-- the number of triangles is set anew -/
theorem SM.setn {w : World} {t : Nat} {D : SD} {N : Nat} {X Y : Nat → Int} {O : Nat → List (Nat × Nat)} {n : Int} (h : SM w t D N X Y O n) (m : Int) : SM (w.setCell ⟨t, 2, none⟩ (.int .i64 m)) t D N X Y O m ∧ Fr w (w.setCell ⟨t, 2, none⟩ (.int .i64 m)) (fun b => b = t) := by
  have hf : Fr w (w.setCell ⟨t, 2, none⟩ (.int .i64 m)) (fun b => b = t) := ⟨rfl, rfl, rfl, by simp [World.setCell], fun k _ hn => Below.heap_setCell w ⟨t, 2, none⟩ _ k hn⟩
  obtain ⟨cur, hc, hcur⟩ := h.out
  have hobt : D.ob ≠ t := by
    intro e
    have hb := h.blk
    rw [e, show w.heap[t]? = _ from hb] at hc; injection hc with hc; injection hc with _ h3; exact absurd h3 (by decide)
  refine ⟨⟨h.blk.put 2 _, h.pts.fr hf (fun a ha h0 e => h.pne a ha h0 (.inl e)), fun h0 => by
    obtain ⟨a, cu, h1, h2⟩ := h.pty h0
    exact ⟨a, cu, h1, (hf.block _ (Array.getElem?_eq_some_iff.1 h2).1 (fun e => h.pne a h1 h0 (.inl e))).trans h2⟩, ⟨cur, (hf.block _ (Array.getElem?_eq_some_iff.1 hc).1 hobt).trans hc, hcur⟩, h.ocl, h.och, fun a ha => (h.rows a ha).fr hf fun g hg => (h.rowne ha hg).1, h.apart, h.small, h.dom, h.sort⟩, hf⟩
def OK (O : Nat → List (Nat × Nat)) (a b c : Nat) : Nat → Nat → List (Nat × Nat)
  | 0 => O
  | 1 => put1 O a b c
  | 2 => put1 (put1 O a b c) b c a
  | _ => putT O a b c
set_option maxRecDepth 100000 in
set_option maxHeartbeats 4000000 in
theorem put_is (t : Nat) (D : SD) (N : Nat) (X Y : Nat → Int) (O : Nat → List (Nat × Nat)) (n : Int) (a b c : Nat) (w : World) (h : SM w t D N X Y O n) (na : a < N) (nb : b < N) (nc : c < N) (hab : a ≠ b) (hbc : b ≠ c) (hac : a ≠ c)
    (f1 : lookH (O a) b = none) (f2 : lookH (O b) c = none) (f3 : lookH (O c) a = none) (hn : 0 ≤ n ∧ n < 1000000000) :
    Calls Try.prog 72 #[ptr t 0, tI a b c] w fun e w' => e = .returned (.tuple #[]) ∧ ∃ D', SM w' t D' N X Y (putT O a b c) (n + 1) ∧ Fr w w' (D.has t N) ∧ (∀ g, D'.has t N g → D.has t N g ∨ w.heap.size ≤ g) ∧ D'.po = D.po := by
  have HM := Lib.hid h
  have HA0 : Hid (lookH (OK O a b c 0 a) b = none) := f1
  have HA1 : Hid (lookH (OK O a b c 1 b) c = none) := by
    refine Lib.hid ?_
    show lookH (if b = a then _ else O b) c = none
    rw [if_neg (fun e => hab e.symm)]; exact f2
  have HA2 : Hid (lookH (OK O a b c 2 c) a = none) := by
    refine Lib.hid ?_
    show lookH (if c = b then _ else if c = a then _ else O c) a = none
    rw [if_neg (fun e => hbc e.symm), if_neg (fun e => hac e.symm)]; exact f3
  clear h f1 f2 f3
  go_enter Try.func72, Try.ntmps72
  go_wp2_with fail
  refine calls_w ?_
  intro V hV
  have hb0 : Below w.heap.size w V := by rw [hV]; exact below_a1 _ _
  clear hV
  refine (sides_is a b c V).mono ?_
  rintro e W1 ⟨rfl, hn1⟩
  have hb1 := hb0.trans (hn1.mono hb0.size)
  have HM1 := Lib.hid (HM.out.of hb1)
  clear hn1 hb0
  go_wp2_with fail
  go_loopg [10] 3 (fun gk s10 wr => ∃ (k : Nat) (Dk : SD), s10 = .int .i64 k ∧ k ≤ 3 ∧ 3 - k ≤ gk ∧ Hid (SM wr t Dk N X Y (OK O a b c k) n) ∧ Hid (Fr w wr (D.has t N)) ∧ Hid (∀ g, Dk.has t N g → D.has t N g ∨ w.heap.size ≤ g) ∧ Dk.po = D.po)
  case atStart => exact ⟨0, D, rfl, by omega, by omega, HM1, Lib.hid (Fr.ofBelow hb1), Lib.hid fun g hg => .inl hg, rfl⟩
  case round =>
    clear HM1 hb1 HM
    obtain ⟨k, Dk, rfl, hk, hg, HM, HF, HH, hpo⟩ := hrel
    rcases (show k = 0 ∨ k = 1 ∨ k = 2 ∨ k = 3 by omega) with rfl | rfl | rfl | rfl
    · have hix : ∀ w, Sem.run Try.prog (Instr.index 96 (sI a b c) (.int .i64 0)) w = .ok (tI a b c) w := fun w => side_at a b c 0 (by omega) w
      go_wp2_with fail
      refine name_world ?_
      intro W2 hW2
      have kt : Blk W2 wr.heap.size #[.int .i64 (a : Nat), .int .i64 (b : Nat), .int .i64 (c : Nat)] 36 := by rw [hW2]; exact Blk.new wr _ _
      have hbw : Below wr.heap.size wr W2 := by rw [hW2]; exact below_a1 wr _
      clear hW2
      have HM2 := Lib.hid (HM.out.of hbw)
      have HF2 := Lib.hid (HF.out.trans (Fr.ofBelow (S := fun _ => False) hbw) (fun b hb => hb.elim))
      have KT := Lib.hid kt
      have hsz2 : wr.heap.size ≤ W2.heap.size := hbw.size
      clear hbw kt HM HF
      obtain ⟨c0, c1, c2⟩ := HM2.out.c
      obtain ⟨v, hv⟩ : ∃ v, Dk.V a = v := ⟨_, rfl⟩
      have cr := HM2.out.row na
      have hrow := HM2.out.rows a na
      rw [hv] at cr hrow
      obtain ⟨ob, hob⟩ : ∃ ob, Dk.ob = ob := ⟨_, rfl⟩
      rw [hob] at cr c1
      have HROW := Lib.hid hrow
      have HSR := Lib.hid (HM2.out.sort a na)
      have hln := HM2.out.len a na
      have hsm := HM2.out.small
      have k0 := KT.out.cell 0
      have k1 := KT.out.cell 1
      have k2 := KT.out.cell 2
      have lt := HM2.out.lt (b := t) (.inl rfl)
      have lo : ob < W2.heap.size := by rw [← hob]; exact HM2.out.lt (.inr (.inl rfl))
      have lk := KT.out.lt
      have HV := Lib.hid (And.intro hv hob)
      clear hrow hv hob
      refine wp_region_up W2.heap.size 16 [(true, 0), (true, 1), (true, 2), (true, 3), (true, 4), (true, 5), (true, 6), (true, 7), (true, 8), (true, 9), (true, 10), (false, 11), (true, 12), (true, 13), (true, 14), (true, 15)] (by kernel_rfl) (by kernel_rfl) (fun _ _ d _ _ h => by cases d <;> exact h) ?_
      have hb : Below W2.heap.size W2 W2.drew := (Below.refl _ _).drew
      iterate 11
        first | refine wpS_takeL rfl rfl ?_ | refine wpS_takeN rfl ⟨_, rfl⟩ ?_
        go_big_quiet_step (rfl)
        refine wpQuiet_nil ?_
      refine wpS_doL rfl ?_
      intro K hK
      go_wp2_with ((go_at_call 52; (refine (Find_h 0 v ((OK O a b c 0) a) b 0 _ (HROW.out.of hb) HSR.out hln).mono ?_); rintro e w2 ⟨i, ok, rfl, hn, hi, hj, hok⟩))
      replace hb := hb.trans (hn.mono hb.size)
      refine hK.out _ _ (up_iff.2 hb) ?_
      clear hK K
      clear hn
      iterate 4
        first | refine wpS_takeL rfl rfl ?_ | refine wpS_takeN rfl ⟨_, rfl⟩ ?_
        go_big_quiet_step (rfl)
        refine wpQuiet_nil ?_
      refine wpS_nil ?_
      simp only [List.drop_succ_cons, List.drop_zero]
      have HJ := Lib.hid hj
      have HM4 := Lib.hid (HM2.out.of hb)
      have HF4 := Lib.hid (HF2.out.trans (Fr.ofBelow (S := fun _ => False) hb) (fun b hb => hb.elim))
      have HROW4 := Lib.hid (HROW.out.of hb)
      have KT4 := Lib.hid (KT.out.of hb)
      have hsz4 := Nat.le_trans hsz2 hb.size
      clear hb HM2 HF2 HROW KT c0 c1 c2 cr k0 k1 k2 lt lo lk hsz2 hj hok
      obtain ⟨c0, c1, c2⟩ := HM4.out.c
      have cr := HM4.out.row na
      rw [HV.out.2] at c1 cr
      rw [HV.out.1] at cr
      have k0 := KT4.out.cell 0
      have k1 := KT4.out.cell 1
      have k2 := KT4.out.cell 2
      have lt := HM4.out.lt (b := t) (.inl rfl)
      have lo : ob < w2.heap.size := by rw [← HV.out.2]; exact HM4.out.lt (.inr (.inl rfl))
      have lk := KT4.out.lt
      go_wp2_with fail
      obtain ⟨RL, hRL⟩ : ∃ RL, v.ownBlock.toList = RL := ⟨_, rfl⟩
      have hown : ∀ g, v.ownBlock = some g → g ≠ t ∧ g ≠ ob ∧ g ≠ wr.heap.size ∧ g < w2.heap.size := by
        intro g hgg
        obtain ⟨e1, e2, e3⟩ := HM4.out.rowne na (by rw [HV.out.1]; exact hgg)
        refine ⟨e1, by rw [← HV.out.2]; exact e2, fun e => ?_, e3⟩
        subst e
        exact absurd (HROW4.out.typ hgg KT4.out) (by decide)
      have nt : t ∉ RL := by rw [← hRL]; intro h; exact (hown t (by simpa using h)).1 rfl
      have no : ob ∉ RL := by rw [← hRL]; intro h; exact (hown ob (by simpa using h)).2.1 rfl
      have nk : wr.heap.size ∉ RL := by rw [← hRL]; intro h; exact (hown _ (by simpa using h)).2.2.1 rfl
      have HRL := Lib.hid hRL
      have HOWN := Lib.hid hown
      clear hRL hown
      refine wp_region_upl RL 22 [(true, 0), (true, 1), (true, 2), (true, 3), (true, 4), (true, 5), (true, 6), (true, 7), (true, 8), (true, 9), (true, 10), (true, 11), (true, 12), (true, 13), (true, 14), (true, 15), (true, 16), (true, 17), (true, 18), (true, 19), (false, 20), (false, 21)] (by kernel_rfl) (by kernel_rfl) (fun _ _ d _ _ h => by cases d <;> exact h) ?_
      have hb : OutL RL w2 w2.drew := (OutL.refl _ _).drew
      iterate 20
        first | refine wpS_takeL rfl rfl ?_ | refine wpS_takeN rfl ⟨_, rfl⟩ ?_
        go_big_quiet_step (rfl)
        refine wpQuiet_nil ?_
      refine wpS_doL rfl ?_
      intro K hK
      go_wp2_with fail
      refine name_Kw ?_
      intro Wx hWx
      have kx : Blk Wx w2.heap.size #[.int .i64 (b : Nat), .int .i64 (c : Nat)] 102 := by rw [hWx]; exact Blk.new w2.drew _ _
      have hbx : Below w2.heap.size w2 Wx := by rw [hWx]; exact ((Below.refl _ _).drew).alloc (by simp) _
      have hsx : Wx.heap.size = w2.heap.size + 1 := by rw [hWx]; simp
      refine hK.out _ _ (upl (OutL.ofBelow hbx)) ?_
      clear hK K
      have HM5 := Lib.hid (HM4.out.of hbx)
      have HROW5 := Lib.hid (HROW4.out.of hbx)
      have HKX := Lib.hid kx
      have hbo : OutL RL w2 Wx := OutL.ofBelow hbx
      clear hWx kx hb
      refine wpS_doL rfl ?_
      intro K hK
      go_wp2_with fail
      refine (Insert_h 0 v ((OK O a b c 0) a) i b c w2.heap.size Wx HROW5.out HKX.out (fun e => by have := (HOWN.out _ e).2.2.2; omega) hi hln (by omega)).mono ?_
      rintro e W5 ⟨v', rfl, hr5, hg5, hl5⟩
      obtain ⟨ao', cap', hv', _, _, _⟩ := hr5.val
      obtain ⟨nn, hnn⟩ : ∃ nn, (List.take i ((OK O a b c 0) a) ++ (b, c) :: List.drop i ((OK O a b c 0) a)).length = nn := ⟨_, rfl⟩
      rw [hnn] at hv'
      subst hv'
      clear hnn
      have hbo5 : OutL RL w2 W5 := hbo.trans ⟨hg5.os, hg5.tape, hg5.output, hg5.size, fun k hk hc => hg5.block k hk fun e => hc (by rw [← HRL.out, ← e]; simp)⟩
      go_wp2_with fail
      refine hK.out _ _ (upl hbo5) ?_
      clear hK K
      have hfc : w2.cell? ⟨ob, a, none⟩ = some v := cr
      have cr5 : W5.cell? ⟨ob, a, none⟩ = some v := (World.cell?_of_block (a := ⟨ob, a, none⟩) (hbo5.block ob lo no)).trans hfc
      have fr5 : W5.frozen? ⟨ob, a, none⟩ = false := (World.frozen?_of_block (a := ⟨ob, a, none⟩) (hbo5.block ob lo no)).trans (by rw [← HV.out.2]; exact HM4.out.outf a)
      have hin := SM.set HM5.out na (v' := .slice ao' nn cap') (L' := insH b c ((OK O a b c 0) a)) (w1 := W5) (by rw [← insH_at b c _ i hi HJ.out]; exact hr5) (by rw [HV.out.1]; exact hg5) (by rw [HV.out.1]; exact hl5) rfl (fun u hu => by
        rcases mem_insH.1 hu with rfl | hu
        · exact ⟨nb, nc⟩
        · exact HM5.out.dom a na u hu) (insH_sort HSR.out (lookH_absent HA0.out))
      rw [HV.out.2] at hin
      have HIN := Lib.hid hin
      have HFX := Lib.hid (HF4.out.trans (Fr.ofBelow (S := fun _ => False) hbx) (fun b hb => hb.elim))
      clear hin hbx hsx hbo hr5 hg5 hl5 hbo5 hfc c0 c1 c2 cr k0 k1 k2 lt lo lk nt no nk HJ HSR HM4 HM5 HROW4 HROW5 HKX HOWN HRL KT4 HF4 hi hln
      refine wpS_nil ?_
      simp only [List.drop_succ_cons, List.drop_zero]
      go_wp2_with fail
      go_roundg (2 - 0)
      case measure => omega
      case rel =>
        obtain ⟨D', h1, h2, h3, h4⟩ := HIN.out
        refine ⟨0 + 1, D', by rfl, by omega, by omega, Lib.hid h1, Lib.hid (HFX.out.trans h2 (fun b hb => ?_)), Lib.hid (fun g hgg => ?_), h4.trans hpo⟩
        · exact HH.out b hb
        · rcases h3 g hgg with h5 | h5
          · exact HH.out g h5
          · exact .inr (Nat.le_trans HFX.out.size h5)
    · have hix : ∀ w, Sem.run Try.prog (Instr.index 96 (sI a b c) (.int .i64 1)) w = .ok (tI b c a) w := fun w => side_at a b c 1 (by omega) w
      go_wp2_with fail
      refine name_world ?_
      intro W2 hW2
      have kt : Blk W2 wr.heap.size #[.int .i64 (b : Nat), .int .i64 (c : Nat), .int .i64 (a : Nat)] 36 := by rw [hW2]; exact Blk.new wr _ _
      have hbw : Below wr.heap.size wr W2 := by rw [hW2]; exact below_a1 wr _
      clear hW2
      have HM2 := Lib.hid (HM.out.of hbw)
      have HF2 := Lib.hid (HF.out.trans (Fr.ofBelow (S := fun _ => False) hbw) (fun b hb => hb.elim))
      have KT := Lib.hid kt
      have hsz2 : wr.heap.size ≤ W2.heap.size := hbw.size
      clear hbw kt HM HF
      obtain ⟨c0, c1, c2⟩ := HM2.out.c
      obtain ⟨v, hv⟩ : ∃ v, Dk.V b = v := ⟨_, rfl⟩
      have cr := HM2.out.row nb
      have hrow := HM2.out.rows b nb
      rw [hv] at cr hrow
      obtain ⟨ob, hob⟩ : ∃ ob, Dk.ob = ob := ⟨_, rfl⟩
      rw [hob] at cr c1
      have HROW := Lib.hid hrow
      have HSR := Lib.hid (HM2.out.sort b nb)
      have hln := HM2.out.len b nb
      have hsm := HM2.out.small
      have k0 := KT.out.cell 0
      have k1 := KT.out.cell 1
      have k2 := KT.out.cell 2
      have lt := HM2.out.lt (b := t) (.inl rfl)
      have lo : ob < W2.heap.size := by rw [← hob]; exact HM2.out.lt (.inr (.inl rfl))
      have lk := KT.out.lt
      have HV := Lib.hid (And.intro hv hob)
      clear hrow hv hob
      refine wp_region_up W2.heap.size 16 [(true, 0), (true, 1), (true, 2), (true, 3), (true, 4), (true, 5), (true, 6), (true, 7), (true, 8), (true, 9), (true, 10), (false, 11), (true, 12), (true, 13), (true, 14), (true, 15)] (by kernel_rfl) (by kernel_rfl) (fun _ _ d _ _ h => by cases d <;> exact h) ?_
      have hb : Below W2.heap.size W2 W2.drew := (Below.refl _ _).drew
      iterate 11
        first | refine wpS_takeL rfl rfl ?_ | refine wpS_takeN rfl ⟨_, rfl⟩ ?_
        go_big_quiet_step (rfl)
        refine wpQuiet_nil ?_
      refine wpS_doL rfl ?_
      intro K hK
      go_wp2_with ((go_at_call 52; (refine (Find_h 0 v ((OK O a b c 1) b) c 0 _ (HROW.out.of hb) HSR.out hln).mono ?_); rintro e w2 ⟨i, ok, rfl, hn, hi, hj, hok⟩))
      replace hb := hb.trans (hn.mono hb.size)
      refine hK.out _ _ (up_iff.2 hb) ?_
      clear hK K
      clear hn
      iterate 4
        first | refine wpS_takeL rfl rfl ?_ | refine wpS_takeN rfl ⟨_, rfl⟩ ?_
        go_big_quiet_step (rfl)
        refine wpQuiet_nil ?_
      refine wpS_nil ?_
      simp only [List.drop_succ_cons, List.drop_zero]
      have HJ := Lib.hid hj
      have HM4 := Lib.hid (HM2.out.of hb)
      have HF4 := Lib.hid (HF2.out.trans (Fr.ofBelow (S := fun _ => False) hb) (fun b hb => hb.elim))
      have HROW4 := Lib.hid (HROW.out.of hb)
      have KT4 := Lib.hid (KT.out.of hb)
      have hsz4 := Nat.le_trans hsz2 hb.size
      clear hb HM2 HF2 HROW KT c0 c1 c2 cr k0 k1 k2 lt lo lk hsz2 hj hok
      obtain ⟨c0, c1, c2⟩ := HM4.out.c
      have cr := HM4.out.row nb
      rw [HV.out.2] at c1 cr
      rw [HV.out.1] at cr
      have k0 := KT4.out.cell 0
      have k1 := KT4.out.cell 1
      have k2 := KT4.out.cell 2
      have lt := HM4.out.lt (b := t) (.inl rfl)
      have lo : ob < w2.heap.size := by rw [← HV.out.2]; exact HM4.out.lt (.inr (.inl rfl))
      have lk := KT4.out.lt
      go_wp2_with fail
      obtain ⟨RL, hRL⟩ : ∃ RL, v.ownBlock.toList = RL := ⟨_, rfl⟩
      have hown : ∀ g, v.ownBlock = some g → g ≠ t ∧ g ≠ ob ∧ g ≠ wr.heap.size ∧ g < w2.heap.size := by
        intro g hgg
        obtain ⟨e1, e2, e3⟩ := HM4.out.rowne nb (by rw [HV.out.1]; exact hgg)
        refine ⟨e1, by rw [← HV.out.2]; exact e2, fun e => ?_, e3⟩
        subst e
        exact absurd (HROW4.out.typ hgg KT4.out) (by decide)
      have nt : t ∉ RL := by rw [← hRL]; intro h; exact (hown t (by simpa using h)).1 rfl
      have no : ob ∉ RL := by rw [← hRL]; intro h; exact (hown ob (by simpa using h)).2.1 rfl
      have nk : wr.heap.size ∉ RL := by rw [← hRL]; intro h; exact (hown _ (by simpa using h)).2.2.1 rfl
      have HRL := Lib.hid hRL
      have HOWN := Lib.hid hown
      clear hRL hown
      refine wp_region_upl RL 22 [(true, 0), (true, 1), (true, 2), (true, 3), (true, 4), (true, 5), (true, 6), (true, 7), (true, 8), (true, 9), (true, 10), (true, 11), (true, 12), (true, 13), (true, 14), (true, 15), (true, 16), (true, 17), (true, 18), (true, 19), (false, 20), (false, 21)] (by kernel_rfl) (by kernel_rfl) (fun _ _ d _ _ h => by cases d <;> exact h) ?_
      have hb : OutL RL w2 w2.drew := (OutL.refl _ _).drew
      iterate 20
        first | refine wpS_takeL rfl rfl ?_ | refine wpS_takeN rfl ⟨_, rfl⟩ ?_
        go_big_quiet_step (rfl)
        refine wpQuiet_nil ?_
      refine wpS_doL rfl ?_
      intro K hK
      go_wp2_with fail
      refine name_Kw ?_
      intro Wx hWx
      have kx : Blk Wx w2.heap.size #[.int .i64 (c : Nat), .int .i64 (a : Nat)] 102 := by rw [hWx]; exact Blk.new w2.drew _ _
      have hbx : Below w2.heap.size w2 Wx := by rw [hWx]; exact ((Below.refl _ _).drew).alloc (by simp) _
      have hsx : Wx.heap.size = w2.heap.size + 1 := by rw [hWx]; simp
      refine hK.out _ _ (upl (OutL.ofBelow hbx)) ?_
      clear hK K
      have HM5 := Lib.hid (HM4.out.of hbx)
      have HROW5 := Lib.hid (HROW4.out.of hbx)
      have HKX := Lib.hid kx
      have hbo : OutL RL w2 Wx := OutL.ofBelow hbx
      clear hWx kx hb
      refine wpS_doL rfl ?_
      intro K hK
      go_wp2_with fail
      refine (Insert_h 0 v ((OK O a b c 1) b) i c a w2.heap.size Wx HROW5.out HKX.out (fun e => by have := (HOWN.out _ e).2.2.2; omega) hi hln (by omega)).mono ?_
      rintro e W5 ⟨v', rfl, hr5, hg5, hl5⟩
      obtain ⟨ao', cap', hv', _, _, _⟩ := hr5.val
      obtain ⟨nn, hnn⟩ : ∃ nn, (List.take i ((OK O a b c 1) b) ++ (c, a) :: List.drop i ((OK O a b c 1) b)).length = nn := ⟨_, rfl⟩
      rw [hnn] at hv'
      subst hv'
      clear hnn
      have hbo5 : OutL RL w2 W5 := hbo.trans ⟨hg5.os, hg5.tape, hg5.output, hg5.size, fun k hk hc => hg5.block k hk fun e => hc (by rw [← HRL.out, ← e]; simp)⟩
      go_wp2_with fail
      refine hK.out _ _ (upl hbo5) ?_
      clear hK K
      have hfc : w2.cell? ⟨ob, b, none⟩ = some v := cr
      have cr5 : W5.cell? ⟨ob, b, none⟩ = some v := (World.cell?_of_block (a := ⟨ob, b, none⟩) (hbo5.block ob lo no)).trans hfc
      have fr5 : W5.frozen? ⟨ob, b, none⟩ = false := (World.frozen?_of_block (a := ⟨ob, b, none⟩) (hbo5.block ob lo no)).trans (by rw [← HV.out.2]; exact HM4.out.outf b)
      have hin := SM.set HM5.out nb (v' := .slice ao' nn cap') (L' := insH c a ((OK O a b c 1) b)) (w1 := W5) (by rw [← insH_at c a _ i hi HJ.out]; exact hr5) (by rw [HV.out.1]; exact hg5) (by rw [HV.out.1]; exact hl5) rfl (fun u hu => by
        rcases mem_insH.1 hu with rfl | hu
        · exact ⟨nc, na⟩
        · exact HM5.out.dom b nb u hu) (insH_sort HSR.out (lookH_absent HA1.out))
      rw [HV.out.2] at hin
      have HIN := Lib.hid hin
      have HFX := Lib.hid (HF4.out.trans (Fr.ofBelow (S := fun _ => False) hbx) (fun b hb => hb.elim))
      clear hin hbx hsx hbo hr5 hg5 hl5 hbo5 hfc c0 c1 c2 cr k0 k1 k2 lt lo lk nt no nk HJ HSR HM4 HM5 HROW4 HROW5 HKX HOWN HRL KT4 HF4 hi hln
      refine wpS_nil ?_
      simp only [List.drop_succ_cons, List.drop_zero]
      go_wp2_with fail
      go_roundg (2 - 1)
      case measure => omega
      case rel =>
        obtain ⟨D', h1, h2, h3, h4⟩ := HIN.out
        refine ⟨1 + 1, D', by rfl, by omega, by omega, Lib.hid h1, Lib.hid (HFX.out.trans h2 (fun b hb => ?_)), Lib.hid (fun g hgg => ?_), h4.trans hpo⟩
        · exact HH.out b hb
        · rcases h3 g hgg with h5 | h5
          · exact HH.out g h5
          · exact .inr (Nat.le_trans HFX.out.size h5)
    · have hix : ∀ w, Sem.run Try.prog (Instr.index 96 (sI a b c) (.int .i64 2)) w = .ok (tI c a b) w := fun w => side_at a b c 2 (by omega) w
      go_wp2_with fail
      refine name_world ?_
      intro W2 hW2
      have kt : Blk W2 wr.heap.size #[.int .i64 (c : Nat), .int .i64 (a : Nat), .int .i64 (b : Nat)] 36 := by rw [hW2]; exact Blk.new wr _ _
      have hbw : Below wr.heap.size wr W2 := by rw [hW2]; exact below_a1 wr _
      clear hW2
      have HM2 := Lib.hid (HM.out.of hbw)
      have HF2 := Lib.hid (HF.out.trans (Fr.ofBelow (S := fun _ => False) hbw) (fun b hb => hb.elim))
      have KT := Lib.hid kt
      have hsz2 : wr.heap.size ≤ W2.heap.size := hbw.size
      clear hbw kt HM HF
      obtain ⟨c0, c1, c2⟩ := HM2.out.c
      obtain ⟨v, hv⟩ : ∃ v, Dk.V c = v := ⟨_, rfl⟩
      have cr := HM2.out.row nc
      have hrow := HM2.out.rows c nc
      rw [hv] at cr hrow
      obtain ⟨ob, hob⟩ : ∃ ob, Dk.ob = ob := ⟨_, rfl⟩
      rw [hob] at cr c1
      have HROW := Lib.hid hrow
      have HSR := Lib.hid (HM2.out.sort c nc)
      have hln := HM2.out.len c nc
      have hsm := HM2.out.small
      have k0 := KT.out.cell 0
      have k1 := KT.out.cell 1
      have k2 := KT.out.cell 2
      have lt := HM2.out.lt (b := t) (.inl rfl)
      have lo : ob < W2.heap.size := by rw [← hob]; exact HM2.out.lt (.inr (.inl rfl))
      have lk := KT.out.lt
      have HV := Lib.hid (And.intro hv hob)
      clear hrow hv hob
      refine wp_region_up W2.heap.size 16 [(true, 0), (true, 1), (true, 2), (true, 3), (true, 4), (true, 5), (true, 6), (true, 7), (true, 8), (true, 9), (true, 10), (false, 11), (true, 12), (true, 13), (true, 14), (true, 15)] (by kernel_rfl) (by kernel_rfl) (fun _ _ d _ _ h => by cases d <;> exact h) ?_
      have hb : Below W2.heap.size W2 W2.drew := (Below.refl _ _).drew
      iterate 11
        first | refine wpS_takeL rfl rfl ?_ | refine wpS_takeN rfl ⟨_, rfl⟩ ?_
        go_big_quiet_step (rfl)
        refine wpQuiet_nil ?_
      refine wpS_doL rfl ?_
      intro K hK
      go_wp2_with ((go_at_call 52; (refine (Find_h 0 v ((OK O a b c 2) c) a 0 _ (HROW.out.of hb) HSR.out hln).mono ?_); rintro e w2 ⟨i, ok, rfl, hn, hi, hj, hok⟩))
      replace hb := hb.trans (hn.mono hb.size)
      refine hK.out _ _ (up_iff.2 hb) ?_
      clear hK K
      clear hn
      iterate 4
        first | refine wpS_takeL rfl rfl ?_ | refine wpS_takeN rfl ⟨_, rfl⟩ ?_
        go_big_quiet_step (rfl)
        refine wpQuiet_nil ?_
      refine wpS_nil ?_
      simp only [List.drop_succ_cons, List.drop_zero]
      have HJ := Lib.hid hj
      have HM4 := Lib.hid (HM2.out.of hb)
      have HF4 := Lib.hid (HF2.out.trans (Fr.ofBelow (S := fun _ => False) hb) (fun b hb => hb.elim))
      have HROW4 := Lib.hid (HROW.out.of hb)
      have KT4 := Lib.hid (KT.out.of hb)
      have hsz4 := Nat.le_trans hsz2 hb.size
      clear hb HM2 HF2 HROW KT c0 c1 c2 cr k0 k1 k2 lt lo lk hsz2 hj hok
      obtain ⟨c0, c1, c2⟩ := HM4.out.c
      have cr := HM4.out.row nc
      rw [HV.out.2] at c1 cr
      rw [HV.out.1] at cr
      have k0 := KT4.out.cell 0
      have k1 := KT4.out.cell 1
      have k2 := KT4.out.cell 2
      have lt := HM4.out.lt (b := t) (.inl rfl)
      have lo : ob < w2.heap.size := by rw [← HV.out.2]; exact HM4.out.lt (.inr (.inl rfl))
      have lk := KT4.out.lt
      go_wp2_with fail
      obtain ⟨RL, hRL⟩ : ∃ RL, v.ownBlock.toList = RL := ⟨_, rfl⟩
      have hown : ∀ g, v.ownBlock = some g → g ≠ t ∧ g ≠ ob ∧ g ≠ wr.heap.size ∧ g < w2.heap.size := by
        intro g hgg
        obtain ⟨e1, e2, e3⟩ := HM4.out.rowne nc (by rw [HV.out.1]; exact hgg)
        refine ⟨e1, by rw [← HV.out.2]; exact e2, fun e => ?_, e3⟩
        subst e
        exact absurd (HROW4.out.typ hgg KT4.out) (by decide)
      have nt : t ∉ RL := by rw [← hRL]; intro h; exact (hown t (by simpa using h)).1 rfl
      have no : ob ∉ RL := by rw [← hRL]; intro h; exact (hown ob (by simpa using h)).2.1 rfl
      have nk : wr.heap.size ∉ RL := by rw [← hRL]; intro h; exact (hown _ (by simpa using h)).2.2.1 rfl
      have HRL := Lib.hid hRL
      have HOWN := Lib.hid hown
      clear hRL hown
      refine wp_region_upl RL 22 [(true, 0), (true, 1), (true, 2), (true, 3), (true, 4), (true, 5), (true, 6), (true, 7), (true, 8), (true, 9), (true, 10), (true, 11), (true, 12), (true, 13), (true, 14), (true, 15), (true, 16), (true, 17), (true, 18), (true, 19), (false, 20), (false, 21)] (by kernel_rfl) (by kernel_rfl) (fun _ _ d _ _ h => by cases d <;> exact h) ?_
      have hb : OutL RL w2 w2.drew := (OutL.refl _ _).drew
      iterate 20
        first | refine wpS_takeL rfl rfl ?_ | refine wpS_takeN rfl ⟨_, rfl⟩ ?_
        go_big_quiet_step (rfl)
        refine wpQuiet_nil ?_
      refine wpS_doL rfl ?_
      intro K hK
      go_wp2_with fail
      refine name_Kw ?_
      intro Wx hWx
      have kx : Blk Wx w2.heap.size #[.int .i64 (a : Nat), .int .i64 (b : Nat)] 102 := by rw [hWx]; exact Blk.new w2.drew _ _
      have hbx : Below w2.heap.size w2 Wx := by rw [hWx]; exact ((Below.refl _ _).drew).alloc (by simp) _
      have hsx : Wx.heap.size = w2.heap.size + 1 := by rw [hWx]; simp
      refine hK.out _ _ (upl (OutL.ofBelow hbx)) ?_
      clear hK K
      have HM5 := Lib.hid (HM4.out.of hbx)
      have HROW5 := Lib.hid (HROW4.out.of hbx)
      have HKX := Lib.hid kx
      have hbo : OutL RL w2 Wx := OutL.ofBelow hbx
      clear hWx kx hb
      refine wpS_doL rfl ?_
      intro K hK
      go_wp2_with fail
      refine (Insert_h 0 v ((OK O a b c 2) c) i a b w2.heap.size Wx HROW5.out HKX.out (fun e => by have := (HOWN.out _ e).2.2.2; omega) hi hln (by omega)).mono ?_
      rintro e W5 ⟨v', rfl, hr5, hg5, hl5⟩
      obtain ⟨ao', cap', hv', _, _, _⟩ := hr5.val
      obtain ⟨nn, hnn⟩ : ∃ nn, (List.take i ((OK O a b c 2) c) ++ (a, b) :: List.drop i ((OK O a b c 2) c)).length = nn := ⟨_, rfl⟩
      rw [hnn] at hv'
      subst hv'
      clear hnn
      have hbo5 : OutL RL w2 W5 := hbo.trans ⟨hg5.os, hg5.tape, hg5.output, hg5.size, fun k hk hc => hg5.block k hk fun e => hc (by rw [← HRL.out, ← e]; simp)⟩
      go_wp2_with fail
      refine hK.out _ _ (upl hbo5) ?_
      clear hK K
      have hfc : w2.cell? ⟨ob, c, none⟩ = some v := cr
      have cr5 : W5.cell? ⟨ob, c, none⟩ = some v := (World.cell?_of_block (a := ⟨ob, c, none⟩) (hbo5.block ob lo no)).trans hfc
      have fr5 : W5.frozen? ⟨ob, c, none⟩ = false := (World.frozen?_of_block (a := ⟨ob, c, none⟩) (hbo5.block ob lo no)).trans (by rw [← HV.out.2]; exact HM4.out.outf c)
      have hin := SM.set HM5.out nc (v' := .slice ao' nn cap') (L' := insH a b ((OK O a b c 2) c)) (w1 := W5) (by rw [← insH_at a b _ i hi HJ.out]; exact hr5) (by rw [HV.out.1]; exact hg5) (by rw [HV.out.1]; exact hl5) rfl (fun u hu => by
        rcases mem_insH.1 hu with rfl | hu
        · exact ⟨na, nb⟩
        · exact HM5.out.dom c nc u hu) (insH_sort HSR.out (lookH_absent HA2.out))
      rw [HV.out.2] at hin
      have HIN := Lib.hid hin
      have HFX := Lib.hid (HF4.out.trans (Fr.ofBelow (S := fun _ => False) hbx) (fun b hb => hb.elim))
      clear hin hbx hsx hbo hr5 hg5 hl5 hbo5 hfc c0 c1 c2 cr k0 k1 k2 lt lo lk nt no nk HJ HSR HM4 HM5 HROW4 HROW5 HKX HOWN HRL KT4 HF4 hi hln
      refine wpS_nil ?_
      simp only [List.drop_succ_cons, List.drop_zero]
      go_wp2_with fail
      go_roundg (2 - 2)
      case measure => omega
      case rel =>
        obtain ⟨D', h1, h2, h3, h4⟩ := HIN.out
        refine ⟨2 + 1, D', by rfl, by omega, by omega, Lib.hid h1, Lib.hid (HFX.out.trans h2 (fun b hb => ?_)), Lib.hid (fun g hgg => ?_), h4.trans hpo⟩
        · exact HH.out b hb
        · rcases h3 g hgg with h5 | h5
          · exact HH.out g h5
          · exact .inr (Nat.le_trans HFX.out.size h5)
    · obtain ⟨c0, c1, c2⟩ := HM.out.c
      have f2 := HM.out.blk.free 2
      have hw : wrap64 (n + 1) = n + 1 := by unfold wrap64; omega
      have HN := Lib.hid (SM.setn HM.out (n + 1))
      go_wp2_with fail
      simp [bodyPost, results, Try.results72, go_sem]
      exact ⟨Dk, HN.out.1, HF.out.trans HN.out.2 (fun b hb => HH.out b (.inl hb)), HH.out, hpo⟩
end Go.Proofs.Ytdlpfiiakmhnlaa

namespace Go.Proofs.Ytdlpfiiakmhnlaa
open Go.RowKit

/-- the next one around a way -/
def nx (n i : Nat) : Nat := (i + 1) % n
theorem nx_lt {n i : Nat} (h : i < n) : nx n i < n := Nat.mod_lt _ (by omega)
end Go.Proofs.Ytdlpfiiakmhnlaa

namespace Go.Proofs.Ytdlpfiiakmhnlaa
open Go.RowKit

def wy (X Y : Nat → Int) (a b c : Nat) : Int := way (X a) (Y a) (X b) (Y b) (X c) (Y c)
theorem wy_cases (X Y : Nat → Int) (a b c : Nat) : wy X Y a b c = -1 ∨ wy X Y a b c = 0 ∨ wy X Y a b c = 1 := way_cases _ _ _ _ _ _
theorem Pts.atP {w : World} {ao : Option Addr} {n cap : Nat} {X Y : Nat → Int} (h : Pts w ao n cap X Y) (h0 : 0 < n) : ∃ a, ao = some a ∧ ∀ i, i < n → ∀ u : UpTo w.heap.size w, u.w.cell? (a.add (i * 2)) = some (.int .i64 (X i)) ∧ u.w.cell? { block := (a.add (i * 2)).block, off := (a.add (i * 2)).off + 1 } = some (.int .i64 (Y i)) := by
  obtain ⟨a, h1, h2, h3⟩ := h.ptr h0
  have e1 : ∀ k, (a.add k).block = a.block := fun k => by unfold Addr.add; split <;> rfl
  have e2 : ∀ k l, ((a.add k).add l).block = a.block := fun k l => by unfold Addr.add; split <;> split <;> rfl
  refine ⟨a, h1, fun i hi u => ⟨?_, ?_⟩⟩
  · rw [u.below.cell (by rw [e1]; exact h2)]; exact (h3 i hi).1
  · have : u.w.cell? ((a.add (i * 2)).add 1) = some (.int .i64 (Y i)) := by rw [u.below.cell (by rw [e2]; exact h2)]; exact (h3 i hi).2
    exact this
set_option maxRecDepth 100000 in
set_option maxHeartbeats 2000000 in
theorem turn_st (t : Nat) (D : SD) (N : Nat) (X Y : Nat → Int) (O : Nat → List (Nat × Nat)) (n : Int) (a b c : Nat) (r : Int) (w : World) (h : SM w t D N X Y O n) (ha : a < N) (hb_ : b < N) (hc : c < N) (hr : wy X Y a b c = r) :
    Calls Try.prog 71 #[ptr t 0, .int .i64 a, .int .i64 b, .int .i64 c] w fun e w' => e = .returned (.int .i64 r) ∧ Below w.heap.size w w' := by
  obtain ⟨c0, c1, c2⟩ := h.c
  have lt := h.blk.lt
  have hsm := h.small
  have hpcl := h.pts.capl
  have hpcb := h.pts.capb
  obtain ⟨pa, hpa, hpt⟩ := h.pts.atP (by omega)
  rw [hpa] at c0
  have qa := hpt a ha
  have qb := hpt b hb_
  have qc := hpt c hc
  obtain ⟨ax, hax⟩ : ∃ x, X a = x := ⟨_, rfl⟩
  obtain ⟨ay, hay⟩ : ∃ x, Y a = x := ⟨_, rfl⟩
  obtain ⟨bx, hbx⟩ : ∃ x, X b = x := ⟨_, rfl⟩
  obtain ⟨b_y, hby⟩ : ∃ x, Y b = x := ⟨_, rfl⟩
  obtain ⟨cx, hcx⟩ : ∃ x, X c = x := ⟨_, rfl⟩
  obtain ⟨cy, hcy⟩ : ∃ x, Y c = x := ⟨_, rfl⟩
  have hw : way ax ay bx b_y cx cy = r := by rw [← hax, ← hay, ← hbx, ← hby, ← hcx, ← hcy]; exact hr
  rw [hax, hay] at qa
  rw [hbx, hby] at qb
  rw [hcx, hcy] at qc
  have qa0 := fun u => (qa u).1
  have qa1 := fun u => (qa u).2
  have qb0 := fun u => (qb u).1
  have qb1 := fun u => (qb u).2
  have qc0 := fun u => (qc u).1
  have qc1 := fun u => (qc u).2
  have HW := Lib.hid hw
  clear hax hay hbx hby hcx hcy hpt qa qb qc hpa hr hw h
  go_enter Try.func71, Try.ntmps71
  go_wp2_with fail
  refine wp_region_up w.heap.size 21 [(true, 0), (true, 1), (true, 2), (true, 3), (true, 4), (true, 5), (true, 6), (true, 7), (true, 8), (true, 9), (true, 10), (true, 11), (true, 12), (true, 13), (true, 14), (true, 15), (true, 16), (true, 17), (true, 18), (true, 19), (true, 20)] (by kernel_rfl) (by kernel_rfl) (fun _ _ d _ _ h => by cases d <;> exact h) ?_
  have hb : Below w.heap.size w w.drew := (Below.refl _ _).drew
  iterate 21
    first | refine wpS_takeL rfl rfl ?_ | refine wpS_takeN rfl ⟨_, rfl⟩ ?_
    go_big_quiet_step (rfl)
    refine wpQuiet_nil ?_
  refine wpS_nil ?_
  simp only [List.drop_succ_cons, List.drop_zero]
  go_wp2_with fail
  refine (Turn_is ax ay bx b_y cx cy r HW.out _).mono ?_
  rintro e w2 ⟨rfl, hn⟩
  have hb2 := hb.trans (hn.mono hb.size)
  clear hn hb
  go_wp2
  go_ret
  exact ⟨rfl, hb2⟩
/-- a list of numbers in memory -/
def NL (w : World) (base : Nat) (v : Value) (L : List Nat) : Prop := w.ownsRow base 3 1 v L.length (L.map fun x => .int .i64 (x : Nat))
theorem NL.of {w w' : World} {base : Nat} {v : Value} {L : List Nat} (h : NL w base v L) (hb : Below w.heap.size w w') : NL w' base v L := by
  refine ⟨h.1, h.2.imp id ?_⟩
  rintro ⟨g, cap, cur, rfl, hbg, hg, r⟩
  exact ⟨g, cap, cur, rfl, hbg, (hb.block _ (Array.getElem?_eq_some_iff.1 hg).1).trans hg, r⟩
theorem NL.val {w : World} {base : Nat} {v : Value} {L : List Nat} (h : NL w base v L) :
    ∃ ao cap, v = .slice ao L.length cap ∧ L.length ≤ cap ∧ cap ≤ 9223372036854775807 ∧ (0 < L.length → ∃ g, ao = some ⟨g, 0, none⟩ ∧ base ≤ g ∧ g < w.heap.size ∧ ∀ j x, L[j]? = some x → w.cell? ⟨g, j, none⟩ = some (.int .i64 (x : Nat))) := by
  rcases h.2 with ⟨rfl, hn⟩ | ⟨g, cap, cur, rfl, hb, hg, h1, h2, h3, h4⟩
  · exact ⟨none, 0, by rw [hn], by omega, by omega, fun h0 => by omega⟩
  · refine ⟨_, cap, rfl, h1, by unfold maxLen at h2; omega, fun _ => ⟨g, rfl, hb, (Array.getElem?_eq_some_iff.1 hg).1, fun j x hx => ?_⟩⟩
    have hj : j < L.length := (List.getElem?_eq_some_iff.1 hx).1
    rw [cell_row hg, ← Array.getElem?_toList]
    rw [Nat.mul_one] at h4
    have : (L.map fun x => Value.int .i64 (x : Nat))[j]? = some (.int .i64 (x : Nat)) := by rw [List.getElem?_map, hx]; rfl
    rw [← h4, List.getElem?_take_of_lt hj] at this
    exact this
/-- the builder -/
structure BM (w : World) (bb t : Nat) (base : Nat) (hv : Value) (h : List Nat) : Prop where
  blk : Blk w bb #[ptr t 0, hv] 89
  row : NL w base hv h
theorem BM.of {w w' : World} {bb t base : Nat} {hv : Value} {h : List Nat} (hm : BM w bb t base hv h) (hb : Below w.heap.size w w') : BM w' bb t base hv h := ⟨hm.blk.of hb, hm.row.of hb⟩
def gH (h : List Nat) (i : Nat) : Nat := h.getD i 0
theorem gH_at {h : List Nat} {i : Nat} (hi : i < h.length) : h[i]? = some (gH h i) := by unfold gH; rw [List.getD_eq_getElem?_getD, List.getElem?_eq_getElem hi]; rfl
theorem gH_lt {h : List Nat} {N i : Nat} (hN : ∀ x, x ∈ h → x < N) (hi : i < h.length) : gH h i < N := by
  refine hN _ ?_
  have := gH_at hi
  exact List.mem_of_getElem? this
set_option maxRecDepth 100000 in
set_option maxHeartbeats 2000000 in
theorem seen_st (bb t base : Nat) (hv : Value) (h : List Nat) (D : SD) (N : Nat) (X Y : Nat → Int) (O : Nat → List (Nat × Nat)) (n : Int) (p i : Nat) (r : Int) (w : World) (hM : SM w t D N X Y O n) (hB : BM w bb t base hv h) (hp : p < N) (hi : i < h.length) (hN : ∀ x, x ∈ h → x < N)
    (hr : wy X Y (gH h i) (gH h (nx h.length i)) p = r) :
    Calls Try.prog 77 #[ptr bb 0, .int .i64 p, .int .i64 i] w fun e w' => e = .returned (.bool (decide (r < 0))) ∧ Below w.heap.size w w' := by
  have c0 := hB.blk.cell 0
  have c1 := hB.blk.cell 1
  have lb := hB.blk.lt
  obtain ⟨ao, cap, rfl, hc1, hc2, hc3⟩ := hB.row.val
  obtain ⟨g, rfl, _, hg, hcell⟩ := hc3 (by omega)
  have hnx := nx_lt hi
  have k1 := hcell i _ (gH_at hi)
  have k2 := hcell (nx h.length i) _ (gH_at hnx)
  have x1 := gH_lt hN hi
  have x2 := gH_lt hN hnx
  obtain ⟨m, hm⟩ : ∃ m, h.length = m := ⟨_, rfl⟩
  obtain ⟨j, hj⟩ : ∃ j, nx h.length i = j := ⟨_, rfl⟩
  obtain ⟨y1, hy1⟩ : ∃ y, gH h i = y := ⟨_, rfl⟩
  obtain ⟨y2, hy2⟩ : ∃ y, gH h j = y := ⟨_, rfl⟩
  rw [hj] at hnx k2 x2 hr
  rw [hy2] at k2 x2 hr
  rw [hy1] at k1 x1 hr
  rw [hm] at hj hi hc1 hnx c1
  have hmod : Int.tmod ((i : Int) + 1) (m : Int) = (j : Int) := by
    rw [Int.tmod_eq_emod_of_nonneg (by omega), ← hj]; unfold nx; norm_cast
  have hm0 : ¬ m = 0 := by omega
  have HM := Lib.hid hM
  have HR := Lib.hid hr
  have hr3 : r = -1 ∨ r = 0 ∨ r = 1 := by rw [← hr]; exact wy_cases _ _ _ _ _
  clear hM hB hc3 hcell hN hm hj hy1 hy2 hr
  go_enter Try.func77, Try.ntmps77
  go_wp2_with fail
  refine wp_region_up w.heap.size 26 [(true, 0), (true, 1), (true, 2), (true, 3), (true, 4), (true, 5), (true, 6), (true, 7), (true, 8), (true, 9), (true, 10), (true, 11), (true, 12), (true, 13), (true, 14), (true, 15), (true, 16), (true, 17), (true, 18), (true, 19), (true, 20), (true, 21), (true, 22), (true, 23), (true, 24), (true, 25)] (by kernel_rfl) (by kernel_rfl) (fun _ _ d _ _ h => by cases d <;> exact h) ?_
  have hb : Below w.heap.size w w.drew := (Below.refl _ _).drew
  iterate 26
    first | refine wpS_takeL rfl rfl ?_ | refine wpS_takeB rfl rfl rfl ?_ | refine wpS_takeN rfl ⟨_, rfl⟩ ?_
    first | go_big_quiet_step (rfl) | (go_big_quiet_want; go_big_quiet_op; refine ⟨_, fun _ => rfl, ?_⟩; go_big_quiet_on)
    refine wpQuiet_nil ?_
  refine wpS_nil ?_
  simp only [List.drop_succ_cons, List.drop_zero]
  go_wp2_with fail
  refine (turn_st t D N X Y O n y1 y2 p r _ (HM.out.of hb) x1 x2 hp HR.out).mono ?_
  rintro e w2 ⟨rfl, hn⟩
  have hb2 := hb.trans (hn.mono hb.size)
  clear hn hb
  rcases hr3 with rfl | rfl | rfl
  all_goals
    go_wp2
    go_ret
    exact ⟨rfl, hb2⟩
end Go.Proofs.Ytdlpfiiakmhnlaa

namespace Go.Proofs.Ytdlpfiiakmhnlaa
open Go.RowKit

/-- the first points lie on one line -/
def isLn (N : Nat) (X Y : Nat → Int) (k : Nat) : Prop := min N 2 ≤ k ∧ k ≤ N ∧ (∀ i, 2 ≤ i → i < k → wy X Y 0 1 i = 0) ∧ (k < N → wy X Y 0 1 k ≠ 0)
set_option maxRecDepth 100000 in
set_option maxHeartbeats 2000000 in
theorem line_is (ao : Option Addr) (N cap : Nat) (X Y : Nat → Int) (w : World) (h : Pts w ao N cap X Y) (hN : N ≤ 4096) :
    Calls Try.prog 43 #[.slice ao N cap] w fun e w' => ∃ k : Nat, e = .returned (.int .i64 k) ∧ isLn N X Y k ∧ Below w.heap.size w w' := by
  have hcl := h.capl
  have hcb := h.capb
  have HO := Lib.hid h
  clear h
  by_cases hN2 : N ≤ 2
  · go_enter Try.func43, Try.ntmps43
    go_wp2_with fail
    go_loopg [3] 0 (fun gk s3 wr => s3 = .int .i64 N ∧ Below w.heap.size w wr)
    case atStart => exact ⟨rfl, Below.refl _ _⟩
    case round =>
      obtain ⟨rfl, hb⟩ := hrel
      have hbk := hb
      go_wp2_with fail
      refine wp_region_up wr.heap.size 15 [(true, 0), (true, 1), (true, 2), (true, 3), (true, 4), (true, 5), (true, 6), (true, 7), (true, 8), (true, 9), (true, 10), (true, 11), (true, 12), (true, 13), (true, 14)] (by kernel_rfl) (by kernel_rfl) (fun _ _ d _ _ h => by cases d <;> exact h) ?_
      have hb : Below wr.heap.size wr wr.drew := (Below.refl _ _).drew
      iterate 15
        first | refine wpS_takeL rfl rfl ?_ | refine wpS_takeB rfl rfl rfl ?_
        first | go_big_quiet_step (rfl) | (go_big_quiet_want; go_big_quiet_op; refine ⟨_, fun _ => rfl, ?_⟩; go_big_quiet_on)
        refine wpQuiet_nil ?_
      refine wpS_nil ?_
      simp only [List.drop_succ_cons, List.drop_zero]
      go_wp2
      go_ret
      refine ⟨N, rfl, ⟨by omega, Nat.le_refl _, fun i h1 h2 => by omega, fun h => by omega⟩, hbk.drew⟩
  · have h2n : (2 : Int) < N := by omega
    go_enter Try.func43, Try.ntmps43
    go_wp2_with fail
    go_loopg [3] N (fun gk s3 wr => ∃ k : Nat, s3 = .int .i64 k ∧ 2 ≤ k ∧ k ≤ N ∧ N - k ≤ gk ∧ Hid (∀ i, 2 ≤ i → i < k → wy X Y 0 1 i = 0) ∧ Below w.heap.size w wr)
    case atStart => exact ⟨2, rfl, Nat.le_refl _, by omega, by omega, Lib.hid (fun i h1 h2 => by omega), Below.refl _ _⟩
    case round =>
      obtain ⟨k, rfl, h2, hk, hg, HL, hb⟩ := hrel
      by_cases hlt : k < N
      · obtain ⟨pa, rfl, hpt⟩ := (HO.out.of hb).atP (by omega)
        have qa := hpt 0 (by omega)
        have qb := hpt 1 (by omega)
        have qc := hpt k hlt
        obtain ⟨ax, hax⟩ : ∃ x, X 0 = x := ⟨_, rfl⟩
        obtain ⟨ay, hay⟩ : ∃ x, Y 0 = x := ⟨_, rfl⟩
        obtain ⟨bx, hbx⟩ : ∃ x, X 1 = x := ⟨_, rfl⟩
        obtain ⟨b_y, hby⟩ : ∃ x, Y 1 = x := ⟨_, rfl⟩
        obtain ⟨cx, hcx⟩ : ∃ x, X k = x := ⟨_, rfl⟩
        obtain ⟨cy, hcy⟩ : ∃ x, Y k = x := ⟨_, rfl⟩
        obtain ⟨r, hr⟩ : ∃ r, wy X Y 0 1 k = r := ⟨_, rfl⟩
        have hr3 : r = -1 ∨ r = 0 ∨ r = 1 := by rw [← hr]; exact wy_cases _ _ _ _ _
        have hw : way ax ay bx b_y cx cy = r := by rw [← hax, ← hay, ← hbx, ← hby, ← hcx, ← hcy]; exact hr
        rw [hax, hay] at qa
        rw [hbx, hby] at qb
        rw [hcx, hcy] at qc
        have e0 : pa.add (0 * 2) = pa := by unfold Addr.add; simp
        simp only [e0] at qa
        have e1 : pa.add (1 * 2) = { block := pa.block, off := pa.off + 2 } := rfl
        simp only [e1] at qb
        clear e0 e1
        have qa0 := fun u => (qa u).1
        have qa1 := fun u => (qa u).2
        have qb0 := fun u => (qb u).1
        have qb1 := fun u => (qb u).2
        have qc0 := fun u => (qc u).1
        have qc1 := fun u => (qc u).2
        have HW := Lib.hid hw
        have HR := Lib.hid hr
        clear hax hay hbx hby hcx hcy hpt qa qb qc hr hw
        have hbk := hb
        go_wp2_with fail
        refine wp_region_up wr.heap.size 15 [(true, 0), (true, 1), (true, 2), (true, 3), (true, 4), (true, 5), (true, 6), (true, 7), (true, 8), (true, 9), (true, 10), (true, 11), (true, 12), (true, 13), (true, 14)] (by kernel_rfl) (by kernel_rfl) (fun _ _ d _ _ h => by cases d <;> exact h) ?_
        have hb : Below wr.heap.size wr wr.drew := (Below.refl _ _).drew
        iterate 15
          first | refine wpS_takeL rfl rfl ?_ | refine wpS_takeB rfl rfl rfl ?_
          first | go_big_quiet_step (rfl) | (go_big_quiet_want; go_big_quiet_op; refine ⟨_, fun _ => rfl, ?_⟩; go_big_quiet_on)
          refine wpQuiet_nil ?_
        refine wpS_nil ?_
        simp only [List.drop_succ_cons, List.drop_zero]
        go_wp2_with fail
        refine (Turn_is ax ay bx b_y cx cy r HW.out _).mono ?_
        rintro e w2 ⟨rfl, hn⟩
        have hb2 := (hbk.trans (hb.mono hbk.size)).trans (hn.mono (hbk.trans (hb.mono hbk.size)).size)
        clear hn hb hbk qa0 qa1 qb0 qb1 qc0 qc1
        rcases hr3 with rfl | rfl | rfl
        · go_wp2_with fail
          go_ret
          exact ⟨k, rfl, ⟨by omega, hk, HL.out, fun _ => by rw [HR.out]; decide⟩, hb2⟩
        · go_wp2_with fail
          go_roundg (N - (k + 1))
          case measure => omega
          case rel =>
            refine ⟨k + 1, by norm_cast, by omega, by omega, Nat.le_refl _, Lib.hid (fun i h1 h3 => ?_), hb2⟩
            by_cases e : i = k
            · subst e; exact HR.out
            · exact HL.out i h1 (by omega)
        · go_wp2_with fail
          go_ret
          exact ⟨k, rfl, ⟨by omega, hk, HL.out, fun _ => by rw [HR.out]; decide⟩, hb2⟩
      · have hbk := hb
        go_wp2_with fail
        refine wp_region_up wr.heap.size 15 [(true, 0), (true, 1), (true, 2), (true, 3), (true, 4), (true, 5), (true, 6), (true, 7), (true, 8), (true, 9), (true, 10), (true, 11), (true, 12), (true, 13), (true, 14)] (by kernel_rfl) (by kernel_rfl) (fun _ _ d _ _ h => by cases d <;> exact h) ?_
        have hb : Below wr.heap.size wr wr.drew := (Below.refl _ _).drew
        iterate 15
          first | refine wpS_takeL rfl rfl ?_ | refine wpS_takeB rfl rfl rfl ?_
          first | go_big_quiet_step (rfl) | (go_big_quiet_want; go_big_quiet_op; refine ⟨_, fun _ => rfl, ?_⟩; go_big_quiet_on)
          refine wpQuiet_nil ?_
        refine wpS_nil ?_
        simp only [List.drop_succ_cons, List.drop_zero]
        go_wp2
        go_ret
        exact ⟨k, rfl, ⟨by omega, hk, HL.out, fun h => absurd h hlt⟩, hbk.drew⟩
end Go.Proofs.Ytdlpfiiakmhnlaa

namespace Go.Proofs.Ytdlpfiiakmhnlaa
open Go.RowKit

/-- a row of numbers by its places -/
def RowI (w : World) (g cap m : Nat) (f : Nat → Int) : Prop := ∃ cur, w.heap[g]? = some (.cells cur 3 (0, 0)) ∧ m ≤ cap ∧ cap ≤ maxLen ∧ cur.size = cap ∧ ∀ k, k < m → cur[k]? = some (.int .i64 (f k))
theorem RowI.cell {w : World} {g cap m : Nat} {f : Nat → Int} (h : RowI w g cap m f) {k : Nat} (hk : k < m) : w.cell? ⟨g, k, none⟩ = some (.int .i64 (f k)) := by
  obtain ⟨cur, h1, h2, h3, h4, h5⟩ := h
  rw [cell_row h1]; exact h5 k hk
theorem RowI.free {w : World} {g cap m : Nat} {f : Nat → Int} (h : RowI w g cap m f) (k : Nat) : w.frozen? ⟨g, k, none⟩ = false := by
  obtain ⟨cur, h1, _⟩ := h
  exact frozen_row h1 k
theorem RowI.drew {w : World} {g cap m : Nat} {f : Nat → Int} (h : RowI w g cap m f) : RowI w.drew g cap m f := h
theorem RowI.set {w : World} {g cap m : Nat} {f : Nat → Int} (h : RowI w g cap m f) {k : Nat} (_ : k < m) (x : Int) : RowI (w.setCell ⟨g, k, none⟩ (.int .i64 x)) g cap m (fun j => if j = k then x else f j) := by
  obtain ⟨cur, h1, h2, h3, h4, h5⟩ := h
  refine ⟨cur.setIfInBounds k (.int .i64 x), ?_, h2, h3, by simpa using h4, fun j hj => ?_⟩
  · rw [setCell_eq_setRow w g k cur _ _ _ h1]; exact setRow_heap w g cur _ _ _ h1
  · by_cases e : j = k
    · show (cur.setIfInBounds k _)[j]? = some (.int .i64 (if j = k then x else f j))
      rw [if_pos e, e, Array.getElem?_setIfInBounds]; simp; omega
    · show (cur.setIfInBounds k _)[j]? = some (.int .i64 (if j = k then x else f j))
      rw [if_neg e, Array.getElem?_setIfInBounds_ne (by omega)]; exact h5 j hj
theorem RowI.congr {w : World} {g cap m : Nat} {f f' : Nat → Int} (h : RowI w g cap m f) (e : ∀ k, k < m → f k = f' k) : RowI w g cap m f' := by
  obtain ⟨cur, h1, h2, h3, h4, h5⟩ := h
  exact ⟨cur, h1, h2, h3, h4, fun k hk => by rw [← e k hk]; exact h5 k hk⟩
theorem RowI.grown {w : World} {g : Nat} (k : Nat) (v : Value) : w.grownBy (w.setCell ⟨g, k, none⟩ v) (some g) := ⟨rfl, rfl, rfl, by simp [World.setCell], fun b _ hn => Below.heap_setCell w ⟨g, k, none⟩ v b (fun e => hn (by rw [e]))⟩
theorem grownBy.trans {w w' w'' : World} {r : Option Nat} (h : w.grownBy w' r) (k : w'.grownBy w'' r) : w.grownBy w'' r := ⟨k.os.trans h.os, k.tape.trans h.tape, k.output.trans h.output, Nat.le_trans h.size k.size, fun b hb hn => (k.block b (Nat.lt_of_lt_of_le hb h.size) hn).trans (h.block b hb hn)⟩
theorem grownBy.drew {w w' : World} {r : Option Nat} (h : w.grownBy w' r) : w.grownBy w'.drew r := ⟨h.os, h.tape, h.output, h.size, h.block⟩
def rv (m i : Nat) (f : Nat → Int) (k : Nat) : Int := if k < i ∨ m ≤ k + i then f (m - 1 - k) else f k
set_option maxRecDepth 100000 in
set_option maxHeartbeats 2000000 in
theorem Reverse_is (w : World) (g cap m : Nat) (f : Nat → Int) (h : RowI w g cap m f) (hm : m ≤ 4096) :
    Calls Try.prog 76 #[.slice (some ⟨g, 0, none⟩) m cap] w fun e w' => e = .returned (.tuple #[]) ∧ RowI w' g cap m (fun k => f (m - 1 - k)) ∧ w.grownBy w' (some g) := by
  have HR := Lib.hid h
  have hmc : m ≤ cap ∧ cap ≤ 9223372036854775807 := by obtain ⟨cur, h1, h2, h3, _⟩ := h; unfold maxLen at h3; omega
  clear h
  go_enter Try.func76, Try.ntmps76
  go_wp2_with fail
  go_loopg [2, 3] m (fun gk s2 s3 wr => ∃ (i : Nat) (j : Int), s2 = .int .i64 i ∧ s3 = .int .i64 j ∧ j = (m : Int) - 1 - i ∧ 2 * i ≤ m ∧ m - i ≤ gk ∧ Hid (RowI wr g cap m (rv m i f)) ∧ Hid (w.grownBy wr (some g)))
  case atStart => exact ⟨0, _, rfl, rfl, by omega, by omega, by omega, Lib.hid (HR.out.congr fun k hk => by unfold rv; rw [if_neg (by omega)]), Lib.hid ⟨rfl, rfl, rfl, Nat.le_refl _, fun _ _ _ => rfl⟩⟩
  case round =>
    obtain ⟨i, j, rfl, rfl, hj, hi, hg, HW, HG⟩ := hrel
    by_cases hlt : (i : Int) < j
    · obtain ⟨j', rfl⟩ : ∃ j' : Nat, j = j' := ⟨j.toNat, by omega⟩
      have hjm : j' < m := by omega
      have him : i < m := by omega
      obtain ⟨x, hx⟩ : ∃ x, rv m i f i = x := ⟨_, rfl⟩
      obtain ⟨y, hy⟩ : ∃ x, rv m i f j' = x := ⟨_, rfl⟩
      have ci := HW.out.cell him
      have cj := HW.out.cell hjm
      rw [hx] at ci
      rw [hy] at cj
      have fi := HW.out.free i
      have fj := HW.out.free j'
      have hne : i ≠ j' := by omega
      have HX := Lib.hid (And.intro hx hy)
      have HJ := Lib.hid hj
      clear hx hy HR hj
      go_wp2_with fail
      go_region
      all_goals
        have HE := Lib.hid (((HW.out.set him y).set hjm x).drew.congr (f' := rv m (i + 1) f) fun k hk => by
          have hj := HJ.out
          have e1 := HX.out.1
          have e2 := HX.out.2
          unfold rv at e1 e2
          rw [if_neg (by omega)] at e1 e2
          show (if k = j' then x else if k = i then y else rv m i f k) = _
          by_cases k1 : k = j'
          · rw [if_pos k1, ← e1]; unfold rv; rw [if_pos (by omega)]; congr 1; omega
          · by_cases k2 : k = i
            · rw [if_neg k1, if_pos k2, ← e2]; unfold rv; rw [if_pos (by omega)]; congr 1; omega
            · rw [if_neg k1, if_neg k2]; unfold rv
              by_cases k3 : k < i ∨ m ≤ k + i
              · rw [if_pos k3, if_pos (by omega)]
              · rw [if_neg k3, if_neg (by omega)])
        have HF := Lib.hid (grownBy.drew (grownBy.trans (grownBy.trans HG.out (RowI.grown (g := g) i (.int .i64 y))) (RowI.grown (g := g) j' (.int .i64 x))))
        go_wp2_with fail
        go_roundg (m - (i + 1))
        case measure => omega
        case rel => exact ⟨i + 1, (j' : Int) - 1, by norm_cast, by rfl, by have := HJ.out; omega, by have := HJ.out; omega, by omega, HE, HF⟩
    · have hre : RowI wr g cap m (fun k => f (m - 1 - k)) := HW.out.congr fun k hk => by
        unfold rv
        split
        · rfl
        · congr 1; omega
      have HE := Lib.hid hre
      clear hre HR HW
      go_wp2_with fail
      simp [bodyPost, results, Try.results76, go_sem]
      exact ⟨HE.out, HG.out⟩
end Go.Proofs.Ytdlpfiiakmhnlaa

namespace Go.Proofs.Ytdlpfiiakmhnlaa
open Go.RowKit

abbrev Tri3 := Nat × Nat × Nat
def putAll (O : Nat → List (Nat × Nat)) : List Tri3 → Nat → List (Nat × Nat)
  | [] => O
  | t :: l => putAll (putT O t.1 t.2.1 t.2.2) l
/-- may the triangles be put, one behind the other? -/
def PutOk (N : Nat) : (Nat → List (Nat × Nat)) → List Tri3 → Prop
  | _, [] => True
  | O, t :: l => (t.1 < N ∧ t.2.1 < N ∧ t.2.2 < N ∧ t.1 ≠ t.2.1 ∧ t.2.1 ≠ t.2.2 ∧ t.1 ≠ t.2.2 ∧ lookH (O t.1) t.2.1 = none ∧ lookH (O t.2.1) t.2.2 = none ∧ lookH (O t.2.2) t.1 = none) ∧ PutOk N (putT O t.1 t.2.1 t.2.2) l
theorem putAll_app (O : Nat → List (Nat × Nat)) : ∀ (l m : List Tri3), putAll O (l ++ m) = putAll (putAll O l) m := by
  intro l
  induction l generalizing O with
  | nil => intro m; rfl
  | cons t l ih => intro m; exact ih _ m
theorem putOk_app (N : Nat) (O : Nat → List (Nat × Nat)) : ∀ (l m : List Tri3), PutOk N O (l ++ m) ↔ PutOk N O l ∧ PutOk N (putAll O l) m := by
  intro l
  induction l generalizing O with
  | nil => intro m; exact ⟨fun h => ⟨trivial, h⟩, fun h => h.2⟩
  | cons t l ih =>
    intro m
    show (_ ∧ PutOk N _ (l ++ m)) ↔ (_ ∧ PutOk N _ l) ∧ PutOk N (putAll _ l) m
    rw [ih]
    constructor
    · rintro ⟨a, b, c⟩; exact ⟨⟨a, b⟩, c⟩
    · rintro ⟨⟨a, b⟩, c⟩; exact ⟨a, b, c⟩
/-- store and builder, all from B on -/
structure BS (B : Nat) (w : World) (bb t : Nat) (D : SD) (hv : Value) (N : Nat) (X Y : Nat → Int) (O : Nat → List (Nat × Nat)) (n : Int) (h : List Nat) : Prop where
  sm : SM w t D N X Y O n
  bm : BM w bb t B hv h
  dB : ∀ g, D.has t N g → B ≤ g
  bB : B ≤ bb
theorem NL.typ {w : World} {base : Nat} {v : Value} {L : List Nat} (h : NL w base v L) {g : Nat} (hg : v.ownBlock = some g) : ∃ cur, w.heap[g]? = some (.cells cur 3 (0, 0)) ∧ base ≤ g := by
  rcases h.2 with ⟨e, _⟩ | ⟨g', cap, cur', e, hb, hh, _⟩
  · rw [e] at hg; cases hg
  · rw [e] at hg; cases hg; exact ⟨cur', hh, hb⟩
theorem NL.fr {w w' : World} {base : Nat} {v : Value} {L : List Nat} {S : Nat → Prop} (h : NL w base v L) (hg : Fr w w' S) (hne : ∀ g, v.ownBlock = some g → ¬ S g) : NL w' base v L := by
  refine ⟨h.1, h.2.imp id ?_⟩
  rintro ⟨g, cap, cur, rfl, hbg, hh, r⟩
  exact ⟨g, cap, cur, rfl, hbg, (hg.block _ (Array.getElem?_eq_some_iff.1 hh).1 (hne g rfl)).trans hh, r⟩
theorem BS.of {B : Nat} {w w' : World} {bb t : Nat} {D : SD} {hv : Value} {N : Nat} {X Y : Nat → Int} {O : Nat → List (Nat × Nat)} {n : Int} {h : List Nat} (hb : BS B w bb t D hv N X Y O n h) (hl : Below w.heap.size w w') : BS B w' bb t D hv N X Y O n h :=
  ⟨hb.sm.of hl, hb.bm.of hl, hb.dB, hb.bB⟩
theorem BS.size {B : Nat} {w : World} {bb t : Nat} {D : SD} {hv : Value} {N : Nat} {X Y : Nat → Int} {O : Nat → List (Nat × Nat)} {n : Int} {h : List Nat} (hb : BS B w bb t D hv N X Y O n h) : B ≤ w.heap.size := Nat.le_trans hb.bB (Nat.le_of_lt hb.bm.blk.lt)
/-- a triangle is put -/
theorem BS.put {B : Nat} {w : World} {bb t : Nat} {D : SD} {hv : Value} {N : Nat} {X Y : Nat → Int} {O : Nat → List (Nat × Nat)} {n : Int} {h : List Nat} (hb : BS B w bb t D hv N X Y O n h) (a b c : Nat)
    (hk : a < N ∧ b < N ∧ c < N ∧ a ≠ b ∧ b ≠ c ∧ a ≠ c ∧ lookH (O a) b = none ∧ lookH (O b) c = none ∧ lookH (O c) a = none) (hn : 0 ≤ n ∧ n < 1000000000) :
    Calls Try.prog 72 #[ptr t 0, tI a b c] w fun e w' => e = .returned (.tuple #[]) ∧ ∃ D', BS B w' bb t D' hv N X Y (putT O a b c) (n + 1) h ∧ Below B w w' := by
  obtain ⟨k1, k2, k3, k4, k5, k6, k7, k8, k9⟩ := hk
  refine (put_is t D N X Y O n a b c w hb.sm k1 k2 k3 k4 k5 k6 k7 k8 k9 hn).mono ?_
  rintro e w' ⟨rfl, D', hs, hf, hh, _⟩
  refine ⟨rfl, D', ⟨hs, ⟨hf.blk hb.bm.blk (hb.sm.notHas hb.bm.blk (by decide) (by decide) (by decide)), hb.bm.row.fr hf fun g hg => ?_⟩, fun g hg => ?_, hb.bB⟩, hf.below hb.size hb.dB⟩
  · obtain ⟨cur, hc, _⟩ := hb.bm.row.typ hg
    exact hb.sm.notHas hc (by decide) (by decide) (by decide)
  · rcases hh g hg with h4 | h4
    · exact hb.dB g h4
    · exact Nat.le_trans hb.size h4
/-- the hull is set anew -/
theorem BS.hull {B : Nat} {w w1 : World} {bb t : Nat} {D : SD} {hv : Value} {N : Nat} {X Y : Nat → Int} {O : Nat → List (Nat × Nat)} {n : Int} {h : List Nat} (hb : BS B w bb t D hv N X Y O n h) {v' : Value} {h' : List Nat}
    (hr : NL w1 B v' h') (hg : w.grownBy w1 hv.ownBlock) : BS B (w1.setCell ⟨bb, 1, none⟩ v') bb t D v' N X Y O n h' ∧ Below B w (w1.setCell ⟨bb, 1, none⟩ v') := by
  have hf : Fr w w1 (fun b => hv.ownBlock = some b) := ⟨hg.os, hg.tape, hg.output, hg.size, fun k hk hn => hg.block k hk (fun e => hn e.symm)⟩
  have hf2 : Fr w1 (w1.setCell ⟨bb, 1, none⟩ v') (fun b => b = bb) := ⟨rfl, rfl, rfl, by simp [World.setCell], fun k _ hn => Below.heap_setCell w1 ⟨bb, 1, none⟩ v' k hn⟩
  have hnb : hv.ownBlock ≠ some bb := fun e => by
    obtain ⟨cur, hc, _⟩ := hb.bm.row.typ e
    have hk := hb.bm.blk
    rw [show w.heap[bb]? = _ from hk] at hc; injection hc with hc; injection hc with _ h3; exact absurd h3 (by decide)
  have hbb1 : Blk w1 bb #[ptr t 0, hv] 89 := hf.blk hb.bm.blk hnb
  have hS : ∀ b, D.has t N b → hv.ownBlock ≠ some b ∧ b ≠ bb := fun b hD => by
    refine ⟨fun e => ?_, fun e => ?_⟩
    · obtain ⟨cur, hc, _⟩ := hb.bm.row.typ e
      exact hb.sm.notHas hc (by decide) (by decide) (by decide) hD
    · subst e; exact hb.sm.notHas hb.bm.blk (by decide) (by decide) (by decide) hD
  have hP : ∀ a, D.po = some a → 0 < N → hv.ownBlock ≠ some a.block ∧ a.block ≠ bb := fun a ha h0 => by
    obtain ⟨a', cur, h1, h2⟩ := hb.sm.pty h0
    rw [ha] at h1; injection h1 with h1; subst h1
    refine ⟨fun e => ?_, fun e => ?_⟩
    · obtain ⟨cur', hc, _⟩ := hb.bm.row.typ e
      rw [h2] at hc; injection hc with hc; injection hc with _ h3; exact absurd h3 (by decide)
    · have hk := hb.bm.blk
      rw [e, show w.heap[bb]? = _ from hk] at h2; injection h2 with h2; injection h2 with _ h3; exact absurd h3 (by decide)
  have s1 := hb.sm.fr hf (fun b hD => (hS b hD).1) (fun a ha h0 => (hP a ha h0).1)
  have s2 := s1.fr hf2 (fun b hD => (hS b hD).2) (fun a ha h0 => (hP a ha h0).2)
  refine ⟨⟨s2, ⟨hbb1.put 1 v', hr.fr hf2 fun g hg' e => ?_⟩, hb.dB, hb.bB⟩, ?_⟩
  · obtain ⟨cur, hc, _⟩ := hr.typ hg'
    rw [e, show w1.heap[bb]? = _ from hbb1] at hc; injection hc with hc; injection hc with _ h3; exact absurd h3 (by decide)
  · refine (hf.below hb.size fun k hk => ?_).trans (hf2.below (Nat.le_trans hb.size hg.size) fun k hk => by rw [hk]; exact hb.bB)
    obtain ⟨cur, _, hk2⟩ := hb.bm.row.typ hk
    exact hk2
end Go.Proofs.Ytdlpfiiakmhnlaa

namespace Go.Proofs.Ytdlpfiiakmhnlaa
open Go.RowKit

theorem putOk_step {N : Nat} {O : Nat → List (Nat × Nat)} {l : List Tri3} {k : Nat} (h : PutOk N (putAll O (l.take k)) (l.drop k)) {x : Tri3} (hx : l[k]? = some x) :
    (x.1 < N ∧ x.2.1 < N ∧ x.2.2 < N ∧ x.1 ≠ x.2.1 ∧ x.2.1 ≠ x.2.2 ∧ x.1 ≠ x.2.2 ∧ lookH (putAll O (l.take k) x.1) x.2.1 = none ∧ lookH (putAll O (l.take k) x.2.1) x.2.2 = none ∧ lookH (putAll O (l.take k) x.2.2) x.1 = none) ∧
    putAll O (l.take (k + 1)) = putT (putAll O (l.take k)) x.1 x.2.1 x.2.2 ∧ PutOk N (putAll O (l.take (k + 1))) (l.drop (k + 1)) := by
  obtain ⟨hk, rfl⟩ := List.getElem?_eq_some_iff.1 hx
  have e1 : l.drop k = l[k] :: l.drop (k + 1) := List.drop_eq_getElem_cons hk
  have e2 : putAll O (l.take (k + 1)) = putT (putAll O (l.take k)) l[k].1 l[k].2.1 l[k].2.2 := by
    rw [List.take_succ_eq_append_getElem hk, putAll_app]; rfl
  rw [e1] at h
  exact ⟨h.1, e2, by rw [e2]; exact h.2⟩
theorem int_src {w : World} {vb x : Nat} (h : Blk w vb #[.int .i64 (x : Nat)] 3) (j : Nat) (u : Value) (hj : [Value.int .i64 (x : Int)][j]? = some u) : w.cell? ((⟨vb, 0, none⟩ : Addr).add j) = some u := by
  rw [add_pl, Nat.zero_add, h.cell j, ← hj, ← Array.getElem?_toList]
theorem int_one (b : Int) : ∀ u ∈ [Value.int .i64 b], u.oneCell' = true := by
  intro u hu; simp at hu; subst hu; rfl
/-- one number more: the append of a hull -/
theorem wpList_append_nl {w : World} {ops : Array Oper} {rest : List Oper} {o : Oper} {a : Act} {Q : Exit → Act → World → Prop} (hgd : o.guard = none) (s x : Operand)
    (ho : o.op = .call { callee := .builtin .append, args := #[s, x], argTypes := #[29, 29] })
    (base : Nat) (v : Value) (L : List Nat) (y : Nat) (vb : Nat) (hs : a.eval s = v) (hx : a.eval x = .slice (some ⟨vb, 0, none⟩) 1 1) (hb : Blk w vb #[.int .i64 (y : Nat)] 3)
    (hnl : NL w base v L) (hL : L.length < 100000) (hbase : base ≤ w.heap.size)
    (h : ∀ ao n cap w', NL w' base (.slice ao n cap) (L ++ [y]) → w.grownBy w' v.ownBlock → wpList Try.prog ops Q rest (a.put o.dst (.slice ao n cap)) w') : wpList Try.prog ops Q (o :: rest) a w := by
  obtain ⟨i0, hi, hz0, hz1, hz2⟩ := info_parts info_int
  refine wpList_append_lies w hgd s x 29 ho base 3 i0 (.int .i64 0) 1 8 Try.underlying29 hi hz0 hz1 hz2 rfl (by decide) v L.length _ hs hnl ⟨vb, 0, none⟩ 1 1 [.int .i64 y] hx rfl (int_src hb) (int_one _) (by unfold maxLen; omega) (by omega) hbase ?_
  intro v' w' own gr _
  have hn : NL w' base v' (L ++ [y]) := by
    unfold NL
    rw [List.length_append, List.map_append]; exact own
  obtain ⟨ao, cap, rfl, _⟩ := hn.val
  exact h ao _ cap w' hn gr
theorem NL.rowI {w : World} {base g cap n : Nat} {L : List Nat} (h : NL w base (.slice (some ⟨g, 0, none⟩) n cap) L) : RowI w g cap n (fun k => (gH L k : Nat)) ∧ base ≤ g ∧ n = L.length := by
  rcases h.2 with ⟨e, _⟩ | ⟨g', cap', cur, e, hb, hh, h1, h2, h3, h4⟩
  · cases e
  · injection e with e1 e2 e3
    injection e1 with e1; injection e1 with e1
    subst e1; subst e3
    subst e2
    refine ⟨⟨cur, hh, h1, h2, by omega, fun k hk => ?_⟩, hb, rfl⟩
    rw [Nat.mul_one] at h4
    have : (L.map fun x => Value.int .i64 (x : Nat))[k]? = some (.int .i64 (gH L k : Nat)) := by rw [List.getElem?_map, gH_at hk]; rfl
    rw [← h4, List.getElem?_take_of_lt hk, Array.getElem?_toList] at this
    exact this
theorem RowI.nl {w : World} {base g cap : Nat} {f : Nat → Int} {L : List Nat} (h : RowI w g cap L.length f) (hb : base ≤ g) (hf : ∀ k, k < L.length → f k = (gH L k : Nat)) : NL w base (.slice (some ⟨g, 0, none⟩) L.length cap) L := by
  obtain ⟨cur, h1, h2, h3, h4, h5⟩ := h
  refine ⟨by simp, .inr ⟨g, cap, cur, rfl, hb, h1, h2, h3, by omega, ?_⟩⟩
  rw [Nat.mul_one]
  apply List.ext_getElem?
  intro k
  by_cases hk : k < L.length
  · rw [List.getElem?_take_of_lt hk, Array.getElem?_toList, h5 k hk, hf k hk, List.getElem?_map, gH_at hk]; rfl
  · rw [List.getElem?_eq_none (by simp; omega), List.getElem?_eq_none (by simp; omega)]
theorem gH_rev (L : List Nat) {k : Nat} (hk : k < L.length) : gH L.reverse k = gH L (L.length - 1 - k) := by
  have h1 := gH_at (h := L.reverse) (i := k) (by simpa using hk)
  have h2 := gH_at (h := L) (i := L.length - 1 - k) (by omega)
  rw [List.getElem?_reverse hk, h2] at h1
  injection h1 with h1; exact h1.symm
/-- the hull is reversed in its place -/
theorem BS.rev {B : Nat} {w w1 : World} {bb t : Nat} {D : SD} {g n' cap : Nat} {N : Nat} {X Y : Nat → Int} {O : Nat → List (Nat × Nat)} {n : Int} {h : List Nat} (hb : BS B w bb t D (.slice (some ⟨g, 0, none⟩) n' cap) N X Y O n h)
    (hr : RowI w1 g cap n' (fun k => (gH h (n' - 1 - k) : Nat))) (hg : w.grownBy w1 (some g)) : BS B w1 bb t D (.slice (some ⟨g, 0, none⟩) n' cap) N X Y O n h.reverse ∧ Below B w w1 := by
  obtain ⟨_, hbg, e⟩ := hb.bm.row.rowI
  subst e
  have hf : Fr w w1 (fun b => b = g) := ⟨hg.os, hg.tape, hg.output, hg.size, fun k hk hn => hg.block k hk (fun e => hn (by injection e))⟩
  obtain ⟨cur, hc, _⟩ := hb.bm.row.typ (g := g) rfl
  have hnb : bb ≠ g := fun e => by
    have hk := hb.bm.blk
    rw [← e, show w.heap[bb]? = _ from hk] at hc; injection hc with hc; injection hc with _ h3; exact absurd h3 (by decide)
  have s1 := hb.sm.fr hf (fun b hD e => hb.sm.notHas hc (by decide) (by decide) (by decide) (e ▸ hD)) (fun a ha h0 e => by
    obtain ⟨a', cu, h1, h2⟩ := hb.sm.pty h0
    rw [ha] at h1; injection h1 with h1; subst h1
    rw [e, hc] at h2; injection h2 with h2; injection h2 with _ h3; exact absurd h3 (by decide))
  have hrl : RowI w1 g cap h.reverse.length (fun k => (gH h (h.length - 1 - k) : Nat)) := by rw [List.length_reverse]; exact hr
  refine ⟨⟨s1, ⟨hf.blk hb.bm.blk hnb, ?_⟩, hb.dB, hb.bB⟩, hf.below hb.size fun k hk => by rw [hk]; exact hbg⟩
  have := hrl.nl (base := B) hbg (fun k hk => by rw [gH_rev h (by simpa using hk)])
  rw [List.length_reverse] at this
  exact this
end Go.Proofs.Ytdlpfiiakmhnlaa

namespace Go.Proofs.Ytdlpfiiakmhnlaa
open Go.RowKit

def begH (X Y : Nat → Int) (q : Nat) : List Nat := if wy X Y 0 1 q < 0 then (List.range q).reverse else List.range q
def begT (h : List Nat) (q : Nat) : List Tri3 := (List.range (q - 1)).map fun i => (gH h i, gH h (i + 1), q)
theorem begT_at (h : List Nat) (q k : Nat) (hk : k < q - 1) : (begT h q)[k]? = some (gH h k, gH h (k + 1), q) := by
  unfold begT
  rw [List.getElem?_map, List.getElem?_range hk]; rfl
theorem begT_len (h : List Nat) (q : Nat) : (begT h q).length = q - 1 := by unfold begT; simp
theorem begH_len (X Y : Nat → Int) (q : Nat) : (begH X Y q).length = q := by unfold begH; split <;> simp
theorem BS.bbAt {B : Nat} {w w1 : World} {bb t : Nat} {D : SD} {hv : Value} {N : Nat} {X Y : Nat → Int} {O : Nat → List (Nat × Nat)} {n : Int} {h : List Nat} (hb : BS B w bb t D hv N X Y O n h) (hg : w.grownBy w1 hv.ownBlock) : Blk w1 bb #[ptr t 0, hv] 89 := by
  have hnb : hv.ownBlock ≠ some bb := fun e => by
    obtain ⟨cur, hc, _⟩ := hb.bm.row.typ e
    have hk := hb.bm.blk
    rw [show w.heap[bb]? = _ from hk] at hc; injection hc with hc; injection hc with _ h3; exact absurd h3 (by decide)
  exact (hg.block _ hb.bm.blk.lt (fun e => hnb e.symm)).trans hb.bm.blk
set_option maxRecDepth 100000 in
set_option maxHeartbeats 4000000 in
theorem begin_is (B : Nat) (bb t : Nat) (D : SD) (N : Nat) (X Y : Nat → Int) (O : Nat → List (Nat × Nat)) (q : Nat) (w : World) (h0 : BS B w bb t D (.slice none 0 0) N X Y O 0 []) (hq : 2 ≤ q) (hqN : q < N) (hP : PutOk N O (begT (begH X Y q) q)) :
    Calls Try.prog 44 #[ptr bb 0, .int .i64 q] w fun e w' => e = .returned (.tuple #[]) ∧ ∃ D' hv', BS B w' bb t D' hv' N X Y (putAll O (begT (begH X Y q) q)) ((q : Int) - 1) (begH X Y q ++ [q]) ∧ Below B w w' := by
  have H0 := Lib.hid h0
  have HP := Lib.hid hP
  have hN := h0.sm.small
  clear h0 hP
  go_enter Try.func44, Try.ntmps44
  go_wp2_with fail
  go_loopg [7] q (fun gk s7 wr => ∃ (k : Nat) (ao : Option Addr) (m cap : Nat), s7 = .int .i64 k ∧ k ≤ q ∧ q - k ≤ gk ∧ Hid (BS B wr bb t D (.slice ao m cap) N X Y O 0 (List.range k)) ∧ Hid (Below B w wr))
  case atStart => exact ⟨0, none, 0, 0, rfl, Nat.zero_le _, by omega, H0, Lib.hid (Below.refl _ _)⟩
  case round =>
    clear H0
    obtain ⟨k, ao, m, cap, rfl, hk, hg, HB, HW⟩ := hrel
    by_cases hlt : k < q
    · have c0 := HB.out.bm.blk.cell 0
      have c1 := HB.out.bm.blk.cell 1
      have lb := HB.out.bm.blk.lt
      have hsz := HB.out.size
      go_wp2_with (at_builtin; refine wpList_append_nl rfl _ _ rfl B (.slice ao m cap) (List.range k) k wr.heap.size rfl rfl (Blk.new wr _ _) (HB.out.bm.row.of (below_a1 _ _)) ?c1 ?c2 ?_)
      case c1 => simp; omega
      case c2 => simp; omega
      intro ao' m' cap' w2 hn2 hg2
      have HB1 := Lib.hid (HB.out.of (below_a1 wr (.cells #[.int .i64 (k : Nat)] 3)))
      have kb := HB1.out.bbAt hg2
      have hbu := HB1.out.hull hn2 hg2
      rw [← List.range_succ] at hbu
      have HB2 := Lib.hid hbu.1
      have HW2 := Lib.hid (HW.out.trans (((below_a1 wr (.cells #[.int .i64 (k : Nat)] 3)).mono hsz).trans hbu.2))
      have k0 := kb.cell 0
      have k1 := kb.cell 1
      have f1 := kb.free 1
      clear hn2 hg2 hbu HB HW HB1 kb c0 c1 lb hsz
      go_wp2_with fail
      go_roundg (q - (k + 1))
      case measure => omega
      case rel => exact ⟨k + 1, ao', m', cap', by norm_cast, by omega, Nat.le_refl _, HB2, HW2⟩
    · have hkq : k = q := by omega
      subst hkq
      clear hlt hk hg
      have c0 := HB.out.bm.blk.cell 0
      obtain ⟨r, hr⟩ : ∃ r, wy X Y 0 1 k = r := ⟨_, rfl⟩
      have HR := Lib.hid hr
      have hr3 : r = -1 ∨ r = 0 ∨ r = 1 := by rw [← hr]; exact wy_cases _ _ _ _ _
      clear hr
      go_wp2_with fail
      refine (turn_st t D N X Y O 0 0 1 k r wr HB.out.sm (by omega) (by omega) hqN HR.out).mono ?_
      rintro e w2 ⟨rfl, hn2⟩
      have HB2 := Lib.hid (HB.out.of hn2)
      have HW2 := Lib.hid (HW.out.trans (hn2.mono HB.out.size))
      clear hn2 HB HW c0
      -- SECOND HALF
      rcases (show r = -1 ∨ (r = 0 ∨ r = 1) by omega) with rfl | hr2
      · have HBH := Lib.hid (show begH X Y k = (List.range k).reverse by unfold begH; rw [if_pos (by rw [HR.out]; decide)])
        obtain ⟨ao', cap', hv, hc1, hc2, hc3⟩ := HB2.out.bm.row.val
        rw [List.length_range] at hv hc1 hc3
        obtain ⟨g, hao, _, _, _⟩ := hc3 (by omega)
        injection hv with e1 e2 e3
        replace e2 := e2.symm; subst e1; subst e2; subst e3; subst hao
        have c1 := HB2.out.bm.blk.cell 1
        clear hc3
        go_wp2_with fail
        have hrow := HB2.out.bm.row.rowI.1
        refine (Reverse_is w2 g _ _ _ hrow (by omega)).mono ?_
        rintro e w3 ⟨rfl, hr3', hg3⟩
        have hre := HB2.out.rev hr3' hg3
        rw [← HBH.out] at hre
        have HB3 := Lib.hid hre.1
        have HW3 := Lib.hid (HW2.out.trans hre.2)
        clear hre hr3' hg3 HB2 HW2 c1 HBH hr3 hrow
        replace HB3 := Lib.hid (⟨_, _, _, HB3.out⟩ : ∃ ao m cap, BS B w3 bb t D (.slice ao m cap) N X Y O 0 (begH X Y k))
        obtain ⟨ao, m, cap, HB3⟩ := HB3.out
        replace HB3 := Lib.hid HB3
        have hbl := begH_len X Y k
        obtain ⟨H, hH⟩ : ∃ H, begH X Y k = H := ⟨_, rfl⟩
        rw [hH] at hbl HB3
        have HH := Lib.hid hH
        obtain ⟨l, hl⟩ : ∃ l, begT H k = l := ⟨_, rfl⟩
        have HL := Lib.hid hl
        have HP2 : Hid (PutOk N O l) := by refine Lib.hid ?_; rw [← hl, ← hH]; exact HP.out
        have hll : l.length = k - 1 := by rw [← hl]; exact begT_len H k
        have HN : Hid (∀ x, x ∈ H → x < N) := by
          refine Lib.hid fun x hx => ?_
          rw [← hH] at hx
          unfold begH at hx
          split at hx
          · have := List.mem_range.1 (List.mem_reverse.1 hx); omega
          · have := List.mem_range.1 hx; omega
        clear hH hl HP
        go_wp2_with fail
        go_loopg [5] k (fun gk s5 wr => ∃ (i : Nat) (D2 : SD), s5 = .int .i64 ((i : Int) + 1) ∧ i + 1 ≤ k ∧ k - 1 - i ≤ gk ∧ Hid (BS B wr bb t D2 (.slice ao m cap) N X Y (putAll O (l.take i)) i H) ∧ Hid (PutOk N (putAll O (l.take i)) (l.drop i)) ∧ Hid (Below B w wr))
        case atStart => exact ⟨0, D, by rfl, by omega, by omega, HB3, HP2, HW3⟩
        case round =>
          clear HB3 HW3 HP2
          obtain ⟨i, D2, rfl, hi, hg, HB, HP, HW⟩ := hrel
          obtain ⟨ao', cap', hv, hc1, hc2, hc3⟩ := HB.out.bm.row.val
          obtain ⟨g, hao, _, hgl, hcell⟩ := hc3 (by omega)
          injection hv with e1 e2 e3
          rw [hbl] at e2 hc1
          replace e2 := e2.symm; subst e1; subst e2; subst e3; subst hao
          by_cases hlt : i + 1 < k
          · have hx := HP.out
            have hst := putOk_step HP.out (x := (gH H i, gH H (i + 1), k)) (by rw [← HL.out]; exact begT_at H k i (by omega))
            have HST := Lib.hid hst
            have c0 := HB.out.bm.blk.cell 0
            have c1 := HB.out.bm.blk.cell 1
            have lb := HB.out.bm.blk.lt
            have k1 := hcell i _ (gH_at (by omega))
            have k2 := hcell (i + 1) _ (gH_at (by omega))
            obtain ⟨y1, hy1⟩ : ∃ y, gH H i = y := ⟨_, rfl⟩
            obtain ⟨y2, hy2⟩ : ∃ y, gH H (i + 1) = y := ⟨_, rfl⟩
            rw [hy1] at k1 HST
            rw [hy2] at k2 HST
            clear hx hst hc3 hcell hy1 hy2 HP
            go_wp2_with fail
            refine wp_region_up wr.heap.size 21 [(true, 0), (true, 1), (true, 2), (true, 3), (true, 4), (true, 5), (true, 6), (true, 7), (true, 8), (true, 9), (true, 10), (true, 11), (true, 12), (true, 13), (true, 14), (true, 15), (true, 16), (true, 17), (true, 18), (true, 19), (true, 20)] (by kernel_rfl) (by kernel_rfl) (fun _ _ d _ _ h => by cases d <;> exact h) ?_
            have hb : Below wr.heap.size wr wr.drew := (Below.refl _ _).drew
            iterate 21
              first | refine wpS_takeL rfl rfl ?_ | refine wpS_takeN rfl ⟨_, rfl⟩ ?_
              go_big_quiet_step (rfl)
              refine wpQuiet_nil ?_
            refine wpS_nil ?_
            simp only [List.drop_succ_cons, List.drop_zero]
            go_wp2_with fail
            refine ((HB.out.of hb).put y1 y2 k HST.out.1 (by omega)).mono ?_
            rintro e w4 ⟨rfl, D4, hB4, hl4⟩
            rw [← HST.out.2.1] at hB4
            have HB4 := Lib.hid hB4
            have HW4 := Lib.hid ((HW.out.trans (hb.mono HB.out.size)).trans hl4)
            clear hB4 hl4 hb HB HW c0 c1 k1 k2 lb
            go_wp2_with fail
            go_roundg (k - 1 - (i + 1))
            case measure => omega
            case rel => exact ⟨i + 1, D4, by norm_cast, by omega, Nat.le_refl _, HB4, HST.out.2.2, HW4⟩
          · have hik : k = i + 1 := Nat.le_antisymm (Nat.le_of_not_lt hlt) hi
            have hlt' : l.take i = l := List.take_of_length_le (by rw [hll, hik]; exact Nat.le_refl _)
            have hBB := HB.out
            have HIK := Lib.hid hik
            rw [hlt'] at hBB
            have HB5 := Lib.hid hBB
            clear hBB hlt' HP HB hc3 hcell hik
            have c0 := HB5.out.bm.blk.cell 0
            have c1 := HB5.out.bm.blk.cell 1
            have lb := HB5.out.bm.blk.lt
            have hsz := HB5.out.size
            have hki : ¬ ((i : Int) + 1 < (k : Int)) := fun h => hlt (by exact_mod_cast h)
            go_wp2_with (at_builtin; refine wpList_append_nl rfl _ _ rfl B (.slice (some ⟨g, 0, none⟩) k cap) H k wr.heap.size rfl rfl (Blk.new wr _ _) (HB5.out.bm.row.of (below_a1 _ _)) ?c1 ?c2 ?_)
            case c1 => omega
            case c2 => exact Nat.le_succ_of_le hsz
            intro ao' m' cap' w2_ hn2 hg2
            have HB1 := Lib.hid (HB5.out.of (below_a1 wr (.cells #[.int .i64 (k : Nat)] 3)))
            have kb := HB1.out.bbAt hg2
            have hbu := HB1.out.hull hn2 hg2
            have HB6 := Lib.hid hbu.1
            have HW6 := Lib.hid (HW.out.trans (((below_a1 wr (.cells #[.int .i64 (k : Nat)] 3)).mono hsz).trans hbu.2))
            have k0 := kb.cell 0
            have k1 := kb.cell 1
            have f1 := kb.free 1
            clear hn2 hg2 hbu HB5 HW HB1 kb c0 c1 lb hsz
            go_wp2_with fail
            simp [bodyPost, results, Try.results44, go_sem]
            have e : ((k : Nat) : Int) - 1 = (i : Int) := by have := HIK.out; omega
            rw [HH.out, HL.out, e]
            exact ⟨⟨_, _, HB6.out⟩, HW6.out⟩
      · have HBH := Lib.hid (show begH X Y k = List.range k by unfold begH; rw [if_neg (by rw [HR.out]; omega)])
        have HB3 : Hid (BS B w2 bb t D (.slice ao m cap) N X Y O 0 (begH X Y k)) := by rw [HBH.out]; exact HB2
        have HW3 := HW2
        have hrn : ¬ r < 0 := by omega
        clear HB2 HW2 HBH hr3
        replace HB3 := Lib.hid (⟨_, _, _, HB3.out⟩ : ∃ ao m cap, BS B w2 bb t D (.slice ao m cap) N X Y O 0 (begH X Y k))
        obtain ⟨ao, m, cap, HB3⟩ := HB3.out
        replace HB3 := Lib.hid HB3
        have hbl := begH_len X Y k
        obtain ⟨H, hH⟩ : ∃ H, begH X Y k = H := ⟨_, rfl⟩
        rw [hH] at hbl HB3
        have HH := Lib.hid hH
        obtain ⟨l, hl⟩ : ∃ l, begT H k = l := ⟨_, rfl⟩
        have HL := Lib.hid hl
        have HP2 : Hid (PutOk N O l) := by refine Lib.hid ?_; rw [← hl, ← hH]; exact HP.out
        have hll : l.length = k - 1 := by rw [← hl]; exact begT_len H k
        have HN : Hid (∀ x, x ∈ H → x < N) := by
          refine Lib.hid fun x hx => ?_
          rw [← hH] at hx
          unfold begH at hx
          split at hx
          · have := List.mem_range.1 (List.mem_reverse.1 hx); omega
          · have := List.mem_range.1 hx; omega
        clear hH hl HP
        go_wp2_with fail
        go_loopg [5] k (fun gk s5 wr => ∃ (i : Nat) (D2 : SD), s5 = .int .i64 ((i : Int) + 1) ∧ i + 1 ≤ k ∧ k - 1 - i ≤ gk ∧ Hid (BS B wr bb t D2 (.slice ao m cap) N X Y (putAll O (l.take i)) i H) ∧ Hid (PutOk N (putAll O (l.take i)) (l.drop i)) ∧ Hid (Below B w wr))
        case atStart => exact ⟨0, D, by rfl, by omega, by omega, HB3, HP2, HW3⟩
        case round =>
          clear HB3 HW3 HP2
          obtain ⟨i, D2, rfl, hi, hg, HB, HP, HW⟩ := hrel
          obtain ⟨ao', cap', hv, hc1, hc2, hc3⟩ := HB.out.bm.row.val
          obtain ⟨g, hao, _, hgl, hcell⟩ := hc3 (by omega)
          injection hv with e1 e2 e3
          rw [hbl] at e2 hc1
          replace e2 := e2.symm; subst e1; subst e2; subst e3; subst hao
          by_cases hlt : i + 1 < k
          · have hx := HP.out
            have hst := putOk_step HP.out (x := (gH H i, gH H (i + 1), k)) (by rw [← HL.out]; exact begT_at H k i (by omega))
            have HST := Lib.hid hst
            have c0 := HB.out.bm.blk.cell 0
            have c1 := HB.out.bm.blk.cell 1
            have lb := HB.out.bm.blk.lt
            have k1 := hcell i _ (gH_at (by omega))
            have k2 := hcell (i + 1) _ (gH_at (by omega))
            obtain ⟨y1, hy1⟩ : ∃ y, gH H i = y := ⟨_, rfl⟩
            obtain ⟨y2, hy2⟩ : ∃ y, gH H (i + 1) = y := ⟨_, rfl⟩
            rw [hy1] at k1 HST
            rw [hy2] at k2 HST
            clear hx hst hc3 hcell hy1 hy2 HP
            go_wp2_with fail
            refine wp_region_up wr.heap.size 21 [(true, 0), (true, 1), (true, 2), (true, 3), (true, 4), (true, 5), (true, 6), (true, 7), (true, 8), (true, 9), (true, 10), (true, 11), (true, 12), (true, 13), (true, 14), (true, 15), (true, 16), (true, 17), (true, 18), (true, 19), (true, 20)] (by kernel_rfl) (by kernel_rfl) (fun _ _ d _ _ h => by cases d <;> exact h) ?_
            have hb : Below wr.heap.size wr wr.drew := (Below.refl _ _).drew
            iterate 21
              first | refine wpS_takeL rfl rfl ?_ | refine wpS_takeN rfl ⟨_, rfl⟩ ?_
              go_big_quiet_step (rfl)
              refine wpQuiet_nil ?_
            refine wpS_nil ?_
            simp only [List.drop_succ_cons, List.drop_zero]
            go_wp2_with fail
            refine ((HB.out.of hb).put y1 y2 k HST.out.1 (by omega)).mono ?_
            rintro e w4 ⟨rfl, D4, hB4, hl4⟩
            rw [← HST.out.2.1] at hB4
            have HB4 := Lib.hid hB4
            have HW4 := Lib.hid ((HW.out.trans (hb.mono HB.out.size)).trans hl4)
            clear hB4 hl4 hb HB HW c0 c1 k1 k2 lb
            go_wp2_with fail
            go_roundg (k - 1 - (i + 1))
            case measure => omega
            case rel => exact ⟨i + 1, D4, by norm_cast, by omega, Nat.le_refl _, HB4, HST.out.2.2, HW4⟩
          · have hik : k = i + 1 := Nat.le_antisymm (Nat.le_of_not_lt hlt) hi
            have hlt' : l.take i = l := List.take_of_length_le (by rw [hll, hik]; exact Nat.le_refl _)
            have hBB := HB.out
            have HIK := Lib.hid hik
            rw [hlt'] at hBB
            have HB5 := Lib.hid hBB
            clear hBB hlt' HP HB hc3 hcell hik
            have c0 := HB5.out.bm.blk.cell 0
            have c1 := HB5.out.bm.blk.cell 1
            have lb := HB5.out.bm.blk.lt
            have hsz := HB5.out.size
            have hki : ¬ ((i : Int) + 1 < (k : Int)) := fun h => hlt (by exact_mod_cast h)
            go_wp2_with (at_builtin; refine wpList_append_nl rfl _ _ rfl B (.slice (some ⟨g, 0, none⟩) k cap) H k wr.heap.size rfl rfl (Blk.new wr _ _) (HB5.out.bm.row.of (below_a1 _ _)) ?c1 ?c2 ?_)
            case c1 => omega
            case c2 => exact Nat.le_succ_of_le hsz
            intro ao' m' cap' w2_ hn2 hg2
            have HB1 := Lib.hid (HB5.out.of (below_a1 wr (.cells #[.int .i64 (k : Nat)] 3)))
            have kb := HB1.out.bbAt hg2
            have hbu := HB1.out.hull hn2 hg2
            have HB6 := Lib.hid hbu.1
            have HW6 := Lib.hid (HW.out.trans (((below_a1 wr (.cells #[.int .i64 (k : Nat)] 3)).mono hsz).trans hbu.2))
            have k0 := kb.cell 0
            have k1 := kb.cell 1
            have f1 := kb.free 1
            clear hn2 hg2 hbu HB5 HW HB1 kb c0 c1 lb hsz
            go_wp2_with fail
            simp [bodyPost, results, Try.results44, go_sem]
            have e : ((k : Nat) : Int) - 1 = (i : Int) := by have := HIK.out; omega
            rw [HH.out, HL.out, e]
            exact ⟨⟨_, _, HB6.out⟩, HW6.out⟩
end Go.Proofs.Ytdlpfiiakmhnlaa

namespace Go.Proofs.Ytdlpfiiakmhnlaa
open Go.RowKit

/-- does p see the way from one place of a hull to the next one? -/
def sE (X Y : Nat → Int) (h : List Nat) (p i : Nat) : Bool := decide (wy X Y (gH h i) (gH h (nx h.length i)) p < 0)
def addT (h : List Nat) (p f j : Nat) : List Tri3 := (List.range j).map fun k => (gH h ((f + k) % h.length), p, gH h (nx h.length ((f + k) % h.length)))
def addH (h : List Nat) (p f j : Nat) : List Nat := gH h f :: p :: (List.range (h.length - j)).map fun k => gH h ((f + j + k) % h.length)
theorem addT_at (h : List Nat) (p f j k : Nat) (hk : k < j) : (addT h p f j)[k]? = some (gH h ((f + k) % h.length), p, gH h (nx h.length ((f + k) % h.length))) := by
  unfold addT
  rw [List.getElem?_map, List.getElem?_range hk]; rfl
theorem addT_len (h : List Nat) (p f j : Nat) : (addT h p f j).length = j := by unfold addT; simp
theorem tmod_nat (a b : Nat) : Int.tmod (a : Int) (b : Int) = ((a % b : Nat) : Int) := by rw [Int.tmod_eq_emod_of_nonneg (by omega)]; norm_cast
theorem ar1 {a b c : Nat} (h : c ≤ a - b) (hl : a ≤ 4096) : c + 2 < 100000 := by omega
theorem ar2 {i f j c : Nat} (h : i = f + j + c) : i + 1 = f + j + (c + 1) := by omega
theorem ar4 {a c g : Nat} (h : a - c ≤ g) (hc : c < a) : a - (c + 1) < g := by omega
theorem ar5 {f j m : Nat} (h : j < m) : f + j + (m - j) = f + m := by omega
theorem ar6 {i f j c m : Nat} (h : i = f + j + c) (hf : f < m) (hj : j < m) (hc : c ≤ m - j) (hl : m ≤ 4096) : (i : Int) + 1 ≤ 9223372036854775807 := by omega
theorem mod_ne {f d m : Nat} (hf : f < m) (h0 : 0 < d) (hd : d < m) : (f + d) % m ≠ f := by
  intro h
  rcases Nat.lt_or_ge (f + d) m with h1 | h1
  · rw [Nat.mod_eq_of_lt h1] at h; omega
  · rw [Nat.mod_eq_sub_mod h1, Nat.mod_eq_of_lt (by omega)] at h; omega
theorem nx_mod (m i : Nat) : nx m (i % m) = (i + 1) % m := by unfold nx; rw [Nat.mod_add_mod]
theorem NL.low {w : World} {base base' : Nat} {v : Value} {L : List Nat} (h : NL w base v L) (hb : base' ≤ base) : NL w base' v L := by
  refine ⟨h.1, h.2.imp id ?_⟩
  rintro ⟨g, cap, cur, e, hbg, r⟩
  exact ⟨g, cap, cur, e, Nat.le_trans hb hbg, r⟩
/-- what add asks of the hull -/
structure AddOk (X Y : Nat → Int) (h : List Nat) (p f j : Nat) : Prop where
  f0 : f < h.length
  j0 : 0 < j
  j1 : j < h.length
  before : ∀ i, i < f → sE X Y h p i = true → sE X Y h p ((i + h.length - 1) % h.length) = true
  at0 : sE X Y h p ((f + h.length - 1) % h.length) = false
  run : ∀ k, k < j → sE X Y h p ((f + k) % h.length) = true
  fin : sE X Y h p ((f + j) % h.length) = false
set_option maxRecDepth 100000 in
set_option maxHeartbeats 4000000 in
theorem add_is (B : Nat) (bb t : Nat) (D : SD) (hv : Value) (N : Nat) (X Y : Nat → Int) (O : Nat → List (Nat × Nat)) (n : Int) (h : List Nat) (p f j : Nat) (w : World) (h0 : BS B w bb t D hv N X Y O n h) (hp : p < N) (hN : ∀ x, x ∈ h → x < N) (hl : h.length ≤ 4096)
    (hA : AddOk X Y h p f j) (hP : PutOk N O (addT h p f j)) (hn : 0 ≤ n ∧ n < 100000000) :
    Calls Try.prog 45 #[ptr bb 0, .int .i64 p] w fun e w' => e = .returned (.tuple #[]) ∧ ∃ D' hv', BS B w' bb t D' hv' N X Y (putAll O (addT h p f j)) (n + j) (addH h p f j) ∧ Below B w w' := by
  have H0 := Lib.hid h0
  have HP := Lib.hid hP
  have HN := Lib.hid hN
  have HA := Lib.hid hA
  have hf := hA.f0
  have hj0 := hA.j0
  have hj1 := hA.j1
  obtain ⟨ao0, cap0, hv0, hc1, hc2, _⟩ := h0.bm.row.val
  obtain ⟨m, hm⟩ : ∃ m, h.length = m := ⟨_, rfl⟩
  rw [hm] at hf hj1 hl hv0 hc1
  have HM := Lib.hid hm
  have hm0 : ¬ m = 0 := by omega
  have c1 := h0.bm.blk.cell 1
  rw [hv0] at c1
  clear h0 hP hN hA hm hv0
  go_enter Try.func45, Try.ntmps45
  go_wp2_with fail
  go_loopg [5] f (fun gk s5 wr => ∃ i : Nat, s5 = .int .i64 i ∧ i ≤ f ∧ f - i ≤ gk ∧ Hid (BS B wr bb t D hv N X Y O n h) ∧ Hid (Below B w wr))
  case atStart => exact ⟨0, rfl, Nat.zero_le _, by omega, H0, Lib.hid (Below.refl _ _)⟩
  case round =>
    clear H0 c1
    obtain ⟨i, rfl, hi, hg, HB, HW⟩ := hrel
    obtain ⟨r1, hr1⟩ : ∃ r, wy X Y (gH h i) (gH h (nx h.length i)) p = r := ⟨_, rfl⟩
    have HR1 := Lib.hid hr1
    have hs1 : sE X Y h p i = decide (r1 < 0) := by unfold sE; rw [hr1]
    have HS1 := Lib.hid hs1
    have himh : i < h.length := by rw [HM.out]; omega
    clear hr1 hs1
    go_wp2_with fail
    refine (seen_st bb t B hv h D N X Y O n p i r1 wr HB.out.sm HB.out.bm hp himh HN.out HR1.out).mono ?_
    rintro e w2 ⟨rfl, hn2⟩
    have HB2 := Lib.hid (HB.out.of hn2)
    have HW2 := Lib.hid (HW.out.trans (hn2.mono HB.out.size))
    clear hn2 HB HW
    by_cases hr : r1 < 0
    · obtain ⟨q, hq⟩ : ∃ q, (i + m - 1) % m = q := ⟨_, rfl⟩
      have hqm : q < m := by rw [← hq]; exact Nat.mod_lt _ (by omega)
      have hmod : Int.tmod ((i : Int) + (m : Int) - 1) (m : Int) = (q : Int) := by
        rw [show (i : Int) + (m : Int) - 1 = ((i + m - 1 : Nat) : Int) by omega, tmod_nat, hq]
      obtain ⟨r2, hr2⟩ : ∃ r, wy X Y (gH h q) (gH h (nx h.length q)) p = r := ⟨_, rfl⟩
      have HR2 := Lib.hid hr2
      have hs2 : sE X Y h p q = decide (r2 < 0) := by unfold sE; rw [hr2]
      have HS2 := Lib.hid hs2
      have HQ := Lib.hid hq
      have hqh : q < h.length := by rw [HM.out]; exact hqm
      clear hr2 hs2 hq
      go_wp2_with fail
      refine (seen_st bb t B hv h D N X Y O n p q r2 w2 HB2.out.sm HB2.out.bm hp hqh HN.out HR2.out).mono ?_
      rintro e w3 ⟨rfl, hn2⟩
      have HB3 := Lib.hid (HB2.out.of hn2)
      have HW3 := Lib.hid (HW2.out.trans (hn2.mono HB2.out.size))
      clear hn2 HB2 HW2 hmod
      by_cases hrr : r2 < 0
      · have hif : i < f := by
          rcases Nat.lt_or_ge i f with h1 | h1
          · exact h1
          · exfalso
            have e : i = f := by omega
            have h2 := HA.out.at0
            rw [HM.out, ← e, HQ.out, HS2.out] at h2
            simp at h2; omega
        go_wp2_with fail
        go_roundg (f - (i + 1))
        case measure => omega
        case rel => exact ⟨i + 1, by norm_cast, by omega, Nat.le_refl _, HB3, HW3⟩
      · have hif : i = f := by
          rcases Nat.lt_or_ge i f with h1 | h1
          · exfalso
            have h2 := HA.out.before i h1 (by rw [HS1.out]; simpa using hr)
            rw [HM.out, HQ.out, HS2.out] at h2
            simp at h2; omega
          · omega
        have hfi := hif.symm
        subst hfi
        obtain ⟨l, hl⟩ : ∃ l, addT h p f j = l := ⟨_, rfl⟩
        have HL := Lib.hid hl
        have HP2 : Hid (PutOk N O l) := by refine Lib.hid ?_; rw [← hl]; exact HP.out
        have hll : l.length = j := by rw [← hl]; exact addT_len h p f j
        clear hl HP HS1 HR1 HS2 HR2 HQ hi hg hqm hqh himh
        go_wp2_with fail
        clear hr hrr
        go_loopg [6] j (fun gk s6 wr => ∃ (i k : Nat) (D2 : SD), s6 = .int .i64 i ∧ i = f + k ∧ k ≤ j ∧ j - k ≤ gk ∧ Hid (BS B wr bb t D2 hv N X Y (putAll O (l.take k)) (n + k) h) ∧ Hid (PutOk N (putAll O (l.take k)) (l.drop k)) ∧ Hid (Below B w wr))
        case atStart => exact ⟨f, 0, D, rfl, rfl, Nat.zero_le _, by omega, Lib.hid (by rw [List.take_zero, show n + ((0 : Nat) : Int) = n by omega]; exact HB3.out), HP2, HW3⟩
        case round =>
          clear HB3 HW3 HP2
          obtain ⟨i, k, D2, rfl, hik, hk, hg, HB, HP, HW⟩ := hrel
          obtain ⟨q, hq⟩ : ∃ q, i % m = q := ⟨_, rfl⟩
          have hqm : q < m := by rw [← hq]; exact Nat.mod_lt _ (by omega)
          have hmod : Int.tmod (i : Int) (m : Int) = (q : Int) := by rw [tmod_nat, hq]
          obtain ⟨r, hr⟩ : ∃ r, wy X Y (gH h q) (gH h (nx h.length q)) p = r := ⟨_, rfl⟩
          have HR := Lib.hid hr
          have hs : sE X Y h p q = decide (r < 0) := by unfold sE; rw [hr]
          have HS := Lib.hid hs
          have HQ := Lib.hid hq
          have HIK := Lib.hid hik
          have hqh : q < h.length := by rw [HM.out]; exact hqm
          clear hr hs hq hik
          go_wp2_with fail
          refine (seen_st bb t B hv h D2 N X Y _ _ p q r wr HB.out.sm HB.out.bm hp hqh HN.out HR.out).mono ?_
          rintro e w2_ ⟨rfl, hn2⟩
          have HB2 := Lib.hid (HB.out.of hn2)
          have HW2 := Lib.hid (HW.out.trans (hn2.mono HB.out.size))
          clear hn2 HB HW
          by_cases hkj : k < j
          · have hrn : r < 0 := by
              have h2 := HA.out.run k hkj
              rw [HM.out, ← HIK.out, HQ.out, HS.out] at h2
              simpa using h2
            obtain ⟨ao', cap', hv', hc1', hc2', hc3'⟩ := HB2.out.bm.row.val
            obtain ⟨g, hao, _, hgl, hcell⟩ := hc3' (by rw [HM.out]; exact Nat.lt_of_le_of_lt (Nat.zero_le _) hf)
            have c0 := HB2.out.bm.blk.cell 0
            have c1 := HB2.out.bm.blk.cell 1
            rw [hv', HM.out, hao] at c1
            rw [HM.out] at hc1'
            have lb := HB2.out.bm.blk.lt
            obtain ⟨q2, hq2⟩ : ∃ q2, nx m q = q2 := ⟨_, rfl⟩
            have hq2m : q2 < m := by rw [← hq2]; exact nx_lt hqm
            have hmod2 : Int.tmod ((i : Int) + 1) (m : Int) = (q2 : Int) := by
              rw [show (i : Int) + 1 = ((i + 1 : Nat) : Int) by norm_cast, tmod_nat, ← hq2, ← HQ.out, nx_mod]
            have k1 := hcell q _ (gH_at hqh)
            have k2 := hcell q2 _ (gH_at (by rw [HM.out]; exact hq2m))
            have hst := putOk_step HP.out (x := (gH h q, p, gH h q2)) (by rw [← HL.out, addT_at h p f j k hkj, HM.out, ← HIK.out, HQ.out, hq2])
            have HST := Lib.hid hst
            obtain ⟨y1, hy1⟩ : ∃ y, gH h q = y := ⟨_, rfl⟩
            obtain ⟨y2, hy2⟩ : ∃ y, gH h q2 = y := ⟨_, rfl⟩
            rw [hy1] at k1 HST
            rw [hy2] at k2 HST
            have hi1 : (i : Int) + 1 ≤ 9223372036854775807 := by have := HIK.out; omega
            clear hst hc3' hcell hv' hao hy1 hy2 HP hq2
            go_wp2_with fail
            refine wp_region_up w2_.heap.size 25 [(true, 0), (true, 1), (true, 2), (true, 3), (true, 4), (true, 5), (true, 6), (true, 7), (true, 8), (true, 9), (true, 10), (true, 11), (true, 12), (true, 13), (true, 14), (true, 15), (true, 16), (true, 17), (true, 18), (true, 19), (true, 20), (true, 21), (true, 22), (true, 23), (true, 24)] (by kernel_rfl) (by kernel_rfl) (fun _ _ d _ _ h => by cases d <;> exact h) ?_
            have hb : Below w2_.heap.size w2_ w2_.drew := (Below.refl _ _).drew
            iterate 25
              first | refine wpS_takeL rfl rfl ?_ | refine wpS_takeN rfl ⟨_, rfl⟩ ?_
              go_big_quiet_step (rfl)
              refine wpQuiet_nil ?_
            refine wpS_nil ?_
            simp only [List.drop_succ_cons, List.drop_zero]
            go_wp2_with fail
            refine ((HB2.out.of hb).put y1 p y2 HST.out.1 (by omega)).mono ?_
            rintro e w4 ⟨rfl, D4, hB4, hl4⟩
            rw [← HST.out.2.1, show n + (k : Int) + 1 = n + ((k + 1 : Nat) : Int) by omega] at hB4
            have HB4 := Lib.hid hB4
            have HW4 := Lib.hid ((HW2.out.trans (hb.mono HB2.out.size)).trans hl4)
            clear hB4 hl4 hb HB2 HW2 c0 c1 k1 k2 lb hmod hmod2
            go_wp2_with fail
            go_roundg (j - (k + 1))
            case measure => omega
            case rel => exact ⟨i + 1, k + 1, D4, rfl, by have := HIK.out; omega, by omega, Nat.le_refl _, HB4, HST.out.2.2, HW4⟩
          · have hkj2 : j = k := Nat.le_antisymm (Nat.le_of_not_lt hkj) hk
            have hrn : ¬ r < 0 := by
              have h2 := HA.out.fin
              rw [HM.out, hkj2, ← HIK.out, HQ.out, HS.out] at h2
              simpa using h2
            have hlt' : l.take k = l := List.take_of_length_le (by rw [hll, hkj2]; exact Nat.le_refl _)
            have hBB := HB2.out
            rw [hlt', ← hkj2] at hBB
            have HB5 := Lib.hid hBB
            have HI2 : Hid (i = f + j) := by refine Lib.hid ?_; rw [hkj2]; exact HIK.out
            clear hBB hlt' HP HB2 hkj2 hkj hk hg HIK HQ HS HR hmod hqm hqh
            obtain ⟨ao', cap', hv', hc1', hc2', hc3'⟩ := HB5.out.bm.row.val
            obtain ⟨g, hao, _, hgl, hcell⟩ := hc3' (by rw [HM.out]; exact Nat.lt_of_le_of_lt (Nat.zero_le _) hf)
            have c0 := HB5.out.bm.blk.cell 0
            have c1 := HB5.out.bm.blk.cell 1
            rw [hv', HM.out, hao] at c1
            rw [HM.out] at hc1'
            have lb := HB5.out.bm.blk.lt
            have kf := hcell f _ (gH_at (by rw [HM.out]; exact hf))
            go_wp2_with fail
            refine name_world ?_
            intro W5 hW5
            have ko : Blk W5 w2_.heap.size #[.int .i64 (gH h f : Nat), .int .i64 (p : Nat)] 3 := by rw [hW5]; exact Blk.new w2_ _ _
            have hb5 : Below w2_.heap.size w2_ W5 := by rw [hW5]; exact below_a1 w2_ _
            have hs5 : W5.heap.size = w2_.heap.size + 1 := by rw [hW5]; simp
            have hno : NL W5 w2_.heap.size (.slice (some ⟨w2_.heap.size, 0, none⟩) 2 2) [gH h f, p] := ⟨rfl, .inr ⟨w2_.heap.size, 2, _, rfl, Nat.le_refl _, ko, Nat.le_refl _, by decide, rfl, rfl⟩⟩
            have HNO := Lib.hid hno
            have H5 := Lib.hid hb5
            clear hno hb5 hs5 hW5 ko hc3' c0 c1 lb kf
            go_wp2_with fail
            go_loopg [7, 8] (m - j) (fun gk s7 s8 wz => ∃ (i2 c : Nat) (ao2 : Option Addr) (n2 cap2 : Nat), s8 = .int .i64 i2 ∧ s7 = .slice ao2 n2 cap2 ∧ Hid (i2 = f + j + c) ∧ c ≤ m - j ∧ m - j - c ≤ gk ∧ Hid (NL wz w2_.heap.size (.slice ao2 n2 cap2) (gH h f :: p :: (List.range c).map fun k => gH h ((f + j + k) % h.length))) ∧ Hid (Below w2_.heap.size w2_ wz))
            case atStart => exact ⟨i, 0, _, _, _, rfl, rfl, HI2, Nat.zero_le _, by omega, HNO, H5⟩
            case round =>
              clear HNO H5
              obtain ⟨i2, c, ao2, n2, cap2, rfl, rfl, HI3, hc, hg, HNO, H5⟩ := hrel
              obtain ⟨q, hq⟩ : ∃ q, i2 % m = q := ⟨_, rfl⟩
              have hqm : q < m := by rw [← hq]; exact Nat.mod_lt _ (Nat.pos_of_ne_zero hm0)
              have hmod : Int.tmod (i2 : Int) (m : Int) = (q : Int) := by rw [tmod_nat, hq]
              have HQ := Lib.hid hq
              clear hq
              have HB6 := Lib.hid (HB5.out.of H5.out)
              obtain ⟨ao3, cap3, hv3, _, _, _⟩ := HNO.out.val
              have c1 := HB6.out.bm.blk.cell 1
              rw [hv', HM.out, hao] at c1
              have lb := HB6.out.bm.blk.lt
              by_cases hcj : c < m - j
              · have hqf : ¬ (q : Int) = (f : Int) := by
                  intro e
                  have e2 : q = f := by omega
                  have h2 := HI3.out
                  have h3 := HQ.out
                  rw [h2, e2] at h3
                  exact mod_ne hf (show 0 < j + c by omega) (show j + c < m by omega) (by rw [← Nat.add_assoc]; exact h3)
                have kq := (H5.out.cell (p := ⟨g, q, none⟩) hgl).trans (hcell q _ (gH_at (by rw [HM.out]; exact hqm)))
                obtain ⟨y, hy⟩ : ∃ y, gH h q = y := ⟨_, rfl⟩
                rw [hy] at kq
                have HY := Lib.hid hy
                clear hy
                have lg : g < wr.heap.size := Nat.lt_of_lt_of_le hgl H5.out.size
                have hszz := H5.out.size
                have hll2 : (gH h f :: p :: (List.range c).map fun k => gH h ((f + j + k) % h.length)).length < 100000 := by
                  rw [show (gH h f :: p :: (List.range c).map fun k => gH h ((f + j + k) % h.length)).length = c + 2 by simp]
                  exact ar1 hc hl
                obtain ⟨OL, hOL⟩ : ∃ OL, (gH h f :: p :: (List.range c).map fun k => gH h ((f + j + k) % h.length)) = OL := ⟨_, rfl⟩
                rw [hOL] at HNO hll2
                have HOL := Lib.hid hOL
                clear hOL hv3
                go_wp2_with fail
                refine wp_region_up wr.heap.size 11 [(true, 0), (true, 1), (true, 2), (true, 3), (true, 4), (true, 5), (true, 6), (true, 7), (true, 8), (true, 9), (false, 10)] (by kernel_rfl) (by kernel_rfl) (fun _ _ d _ _ h => by cases d <;> exact h) ?_
                iterate 10
                  first | refine wpS_takeL rfl rfl ?_ | refine wpS_takeN rfl ⟨_, rfl⟩ ?_
                  go_big_quiet_step (rfl)
                  refine wpQuiet_nil ?_
                refine wpS_doL rfl ?_
                intro K hK
                go_wp2_with fail
                refine name_Kw ?_
                intro Wx hWx
                have kx : Blk Wx wr.heap.size #[.int .i64 (y : Nat)] 3 := by rw [hWx]; exact Blk.new wr.drew _ _
                have hbx : Below wr.heap.size wr Wx := by rw [hWx]; exact ((Below.refl _ _).drew).alloc (by simp) _
                refine hK.out _ _ (up_iff.2 hbx) ?_
                clear hK K
                have HNX := Lib.hid (HNO.out.of hbx)
                have HKX := Lib.hid kx
                have HBX := Lib.hid hbx
                have hszx : w2_.heap.size ≤ Wx.heap.size := Nat.le_trans hszz hbx.size
                clear hWx kx hbx
                refine wpS_nil ?_
                simp only [List.drop_succ_cons, List.drop_zero]
                go_wp2_with (at_builtin; refine wpList_append_nl rfl _ _ rfl w2_.heap.size (.slice ao2 n2 cap2) OL y wr.heap.size rfl rfl HKX.out HNX.out hll2 hszx ?_)
                intro ao4 n4 cap4 w8 hn8 hg8
                have hb8 : Below w2_.heap.size w2_ w8 := (H5.out.trans (HBX.out.mono hszz)).trans ((Below.refl _ _).grown hg8 hszx (fun b hb => by
                  obtain ⟨_, _, h3⟩ := HNX.out.typ hb
                  exact h3))
                have hn9 : NL w8 w2_.heap.size (.slice ao4 n4 cap4) (gH h f :: p :: (List.range (c + 1)).map fun k => gH h ((f + j + k) % h.length)) := by
                  have e : (gH h f :: p :: (List.range (c + 1)).map fun k => gH h ((f + j + k) % h.length)) = OL ++ [y] := by
                    rw [← HOL.out, List.range_succ, List.map_append, ← HY.out, ← HQ.out, HI3.out, HM.out]; rfl
                  rw [e]; exact hn8
                have HN9 := Lib.hid hn9
                have H8 := Lib.hid hb8
                clear hn9 hb8 hn8 hg8 HNX HKX HBX HNO H5 HB6 c1 lb kq lg hszz hszx hll2
                have hb62 : (i2 : Int) + 1 ≤ 9223372036854775807 := ar6 HI3.out hf hj1 hc hl
                go_wp2_with fail
                go_roundg (m - j - (c + 1))
                case measure => exact ar4 hg hcj
                case rel => exact ⟨i2 + 1, c + 1, ao4, n4, cap4, rfl, rfl, Lib.hid (ar2 HI3.out), hcj, Nat.le_refl _, HN9, H8⟩
              · have hcm : c = m - j := Nat.le_antisymm hc (Nat.le_of_not_lt hcj)
                have hqf : (q : Int) = (f : Int) := by
                  have h2 := HI3.out
                  have h3 := HQ.out
                  rw [h2, hcm, show f + j + (m - j) = f + m from ar5 hj1, Nat.add_mod_right, Nat.mod_eq_of_lt hf] at h3
                  rw [h3]
                have HNF := HNO.out
                rw [hcm] at HNF
                have e9 : (gH h f :: p :: (List.range (m - j)).map fun k => gH h ((f + j + k) % h.length)) = addH h p f j := by unfold addH; rw [HM.out]
                rw [e9] at HNF
                have hbu := HB6.out.hull (HNF.low HB5.out.size) ⟨rfl, rfl, rfl, Nat.le_refl _, fun _ _ _ => rfl⟩
                have HB7 := Lib.hid hbu.1
                have HW7 := Lib.hid (((HW2.out).trans (H5.out.mono HB5.out.size)).trans hbu.2)
                have c0 := HB6.out.bm.blk.cell 0
                have f1 := HB6.out.bm.blk.free 1
                clear hbu HNF e9 HNO H5 hcm hc hcj hg hv3
                go_wp2_with fail
                simp [bodyPost, results, Try.results45, go_sem]
                rw [HL.out]
                exact ⟨⟨_, _, HB7.out⟩, HW7.out⟩
    · have hif : i < f := by
        rcases Nat.lt_or_ge i f with h1 | h1
        · exact h1
        · exfalso
          have e : i = f := by omega
          have h2 := HA.out.run 0 hj0
          rw [HM.out, Nat.add_zero, Nat.mod_eq_of_lt hf, ← e, HS1.out] at h2
          simp at h2; omega
      go_wp2_with fail
      go_roundg (f - (i + 1))
      case measure => omega
      case rel => exact ⟨i + 1, by norm_cast, by omega, Nat.le_refl _, HB2, HW2⟩
end Go.Proofs.Ytdlpfiiakmhnlaa

namespace Go.Proofs.Ytdlpfiiakmhnlaa
open Go.RowKit

/-- the cells of the first k points -/
def fw (X Y : Nat → Int) : Nat → List Value
  | 0 => []
  | k + 1 => fw X Y k ++ [.int .i64 (X k), .int .i64 (Y k)]
theorem fw_len (X Y : Nat → Int) : ∀ k, (fw X Y k).length = k * 2
  | 0 => rfl
  | k + 1 => by show (fw X Y k ++ _).length = _; rw [List.length_append, fw_len X Y k]; show k * 2 + 2 = _; omega
theorem fw_at (X Y : Nat → Int) : ∀ k j, j < k → (fw X Y k)[j * 2]? = some (.int .i64 (X j)) ∧ (fw X Y k)[j * 2 + 1]? = some (.int .i64 (Y j))
  | 0, j, h => by omega
  | k + 1, j, h => by
    show (fw X Y k ++ _)[j * 2]? = _ ∧ (fw X Y k ++ _)[j * 2 + 1]? = _
    by_cases e : j = k
    · subst e
      rw [List.getElem?_append_right (by rw [fw_len]; omega), List.getElem?_append_right (by rw [fw_len]; omega), fw_len, show j * 2 - j * 2 = 0 by omega, show j * 2 + 1 - j * 2 = 1 by omega]
      exact ⟨rfl, rfl⟩
    · rw [List.getElem?_append_left (by rw [fw_len]; omega), List.getElem?_append_left (by rw [fw_len]; omega)]
      exact fw_at X Y k j (by omega)
theorem fw_one (X Y : Nat → Int) : ∀ k, ∀ u ∈ fw X Y k, u.oneCell' = true
  | 0, u, h => by cases h
  | k + 1, u, h => by
    rcases List.mem_append.1 h with h | h
    · exact fw_one X Y k u h
    · simp at h; rcases h with rfl | rfl <;> rfl
theorem Pts.src {w : World} {a : Addr} {n cap : Nat} {X Y : Nat → Int} (h : Pts w (some a) n cap X Y) (j : Nat) (u : Value) (hj : (fw X Y n)[j]? = some u) : w.cell? (a.add j) = some u := by
  have hjl : j < n * 2 := by rw [← fw_len X Y n]; exact (List.getElem?_eq_some_iff.1 hj).1
  obtain ⟨a', e, _, hc⟩ := h.ptr (by omega)
  injection e with e; subst e
  have hi : j / 2 < n := by omega
  have h1 := fw_at X Y n (j / 2) hi
  have h2 := hc (j / 2) hi
  rcases (show j % 2 = 0 ∨ j % 2 = 1 by omega) with e | e
  · have ej : j = j / 2 * 2 := by omega
    rw [ej] at hj ⊢
    rw [h1.1] at hj; injection hj with hj; subst hj; exact h2.1
  · have ej : j = j / 2 * 2 + 1 := by omega
    rw [ej] at hj ⊢
    rw [h1.2] at hj; injection hj with hj; subst hj
    have := h2.2
    have e3 : (a.add (j / 2 * 2)).add 1 = a.add (j / 2 * 2 + 1) := by
      by_cases e0 : j / 2 * 2 = 0
      · rw [e0]; unfold Addr.add; simp
      · obtain ⟨k, hk⟩ : ∃ k, j / 2 * 2 = k + 1 := ⟨j / 2 * 2 - 1, by omega⟩
        rw [hk]; rfl
    rw [← e3]; exact this
theorem info_pt : (Try.prog.info? 41).map (fun i => (i.zero, i.size, i.bytes)) = some (some (.agg #[.int .i64 0, .int .i64 0]), 2, 16) := by kernel_rfl
/-- points in a row of their own -/
def PO (w : World) (base : Nat) (v : Value) (k : Nat) (X Y : Nat → Int) : Prop := w.ownsRow base 41 2 v k (fw X Y k)
theorem PO.pts {w : World} {base : Nat} {v : Value} {k : Nat} {X Y : Nat → Int} (h : PO w base v k X Y) :
    ∃ ao cap, v = .slice ao k cap ∧ Pts w ao k cap X Y ∧ (0 < k → ∃ a cur, ao = some a ∧ base ≤ a.block ∧ w.heap[a.block]? = some (.cells cur 41 (0, 0))) := by
  rcases h.2 with ⟨rfl, rfl⟩ | ⟨g, cap, cur, rfl, hb, hg, h1, h2, h3, h4⟩
  · exact ⟨none, 0, rfl, ⟨fun h => absurd h (by omega), Nat.le_refl _, by omega⟩, fun h => absurd h (by omega)⟩
  · refine ⟨some ⟨g, 0, none⟩, cap, rfl, ⟨fun _ => ⟨_, rfl, (Array.getElem?_eq_some_iff.1 hg).1, fun i hi => ?_⟩, h1, by unfold maxLen at h2; omega⟩, fun _ => ⟨_, cur, rfl, hb, hg⟩⟩
    have key : ∀ o u, o < k * 2 → (fw X Y k)[o]? = some u → w.cell? ⟨g, o, none⟩ = some u := fun o u ho hu => by
      rw [← h4, List.getElem?_take_of_lt ho, Array.getElem?_toList] at hu
      rw [cell_row hg]; exact hu
    have := fw_at X Y k i hi
    refine ⟨?_, ?_⟩
    · rw [add_pl, Nat.zero_add]; exact key _ _ (by omega) this.1
    · rw [add_pl, add_pl, Nat.zero_add]; exact key _ _ (by omega) this.2
set_option maxRecDepth 100000 in
set_option maxHeartbeats 1000000 in
theorem ClonePt_is (ao : Option Addr) (n cap : Nat) (X Y : Nat → Int) (w : World) (h : Pts w ao n cap X Y) (hn : n ≤ 4096) :
    Calls Try.prog 42 #[.slice ao n cap] w fun e w' => ∃ v, e = .returned v ∧ PO w' w.heap.size v n X Y ∧ Below w.heap.size w w' := by
  have hcl := h.capl
  have hcb := h.capb
  obtain ⟨i0, hi, hz0, hz1, hz2⟩ := info_parts info_pt
  have HP := Lib.hid h
  clear h
  cases ao with
  | none =>
    have heq : ∀ n w, Sem.run Try.prog (binOp BinOp.eql 22 (.slice none n cap) (.slice none 0 0)) w = .ok (.bool true) w := fun n w => by kernel_rfl
    have hn0 : n = 0 := by
      rcases Nat.eq_zero_or_pos n with h0 | h0
      · exact h0
      · obtain ⟨a, e, _⟩ := HP.out.ptr h0; cases e
    subst hn0
    have hcap : cap = 0 ∨ 0 < cap := by omega
    go_enter Try.func42, Try.ntmps42
    go_wp2
    go_ret
    exact ⟨_, rfl, ⟨rfl, .inl ⟨rfl, rfl⟩⟩, Below.refl _ _⟩
  | some a =>
    have heq : ∀ w, Sem.run Try.prog (binOp BinOp.eql 22 (.slice (some a) n cap) (.slice none 0 0)) w = .ok (.bool false) w := fun w => by kernel_rfl
    go_enter Try.func42, Try.ntmps42
    go_wp2_with (at_builtin; refine wpList_append_lies _ rfl _ _ 22 rfl w.heap.size 41 i0 (Value.agg #[.int .i64 0, .int .i64 0]) 2 16 Try.underlying22 hi hz0 hz1 hz2 rfl (by decide) (.slice (some ⟨w.heap.size, 0, none⟩) 0 0) 0 [] rfl ⟨rfl, .inr ⟨w.heap.size, 0, #[], rfl, Nat.le_refl _, heap_alloc_new w _, Nat.le_refl _, by decide, rfl, rfl⟩⟩ a n cap (fw X Y n) rfl (fw_len X Y n) (Pts.src (HP.out.of (below_a1 _ _))) (fw_one X Y n) (by unfold maxLen; omega) (by omega) (by simp) ?_)
    intro v' w' own gr _
    have HO : Hid (PO w' w.heap.size v' n X Y) := by
      refine Lib.hid ?_
      exact own
    have hb : Below w.heap.size w w' := (below_a1 w _).trans ((Below.refl _ _).grown gr (by simp) (fun k hk => by cases hk; exact Nat.le_refl _))
    clear own gr
    go_wp2
    go_ret
    exact ⟨_, rfl, HO.out, hb⟩
end Go.Proofs.Ytdlpfiiakmhnlaa

namespace Go.Proofs.Ytdlpfiiakmhnlaa
open Go.RowKit

theorem Pts.at {w wr : World} {ao : Option Addr} {n cap : Nat} {X Y : Nat → Int} (h : Pts w ao n cap X Y) (hb : Below w.heap.size w wr) {i : Nat} (hi : i < n) :
    ∃ a, ao = some a ∧ wr.cell? (a.add (i * 2)) = some (.int .i64 (X i)) ∧ wr.cell? { block := (a.add (i * 2)).block, off := (a.add (i * 2)).off + 1 } = some (.int .i64 (Y i)) := by
  obtain ⟨a, h1, h2, h3⟩ := h.ptr (by omega)
  have e1 : ∀ k, (a.add k).block = a.block := fun k => by unfold Addr.add; split <;> rfl
  have e2 : ∀ k l, ((a.add k).add l).block = a.block := fun k l => by unfold Addr.add; split <;> split <;> rfl
  refine ⟨a, h1, ?_, ?_⟩
  · rw [hb.cell (by rw [e1]; exact h2)]; exact (h3 i hi).1
  · have : wr.cell? ((a.add (i * 2)).add 1) = some (.int .i64 (Y i)) := by rw [hb.cell (by rw [e2]; exact h2)]; exact (h3 i hi).2
    exact this
def firstI (X Y : Nat → Int) (h : List Nat) (p : Nat) : Nat := ((List.range h.length).find? fun i => sE X Y h p i && !sE X Y h p ((i + h.length - 1) % h.length)).getD 0
def runJ (X Y : Nat → Int) (h : List Nat) (p f : Nat) : Nat := ((List.range h.length).takeWhile fun k => sE X Y h p ((f + k) % h.length)).length
/-- hull and triangles behind q + k points -/
def bld (X Y : Nat → Int) (q : Nat) : Nat → List Nat × List Tri3
  | 0 => (begH X Y q ++ [q], begT (begH X Y q) q)
  | k + 1 =>
    let s := bld X Y q k
    let p := q + k + 1
    let f := firstI X Y s.1 p
    let j := runJ X Y s.1 p f
    (addH s.1 p f j, s.2 ++ addT s.1 p f j)
/-- what Build asks of the points behind the first line -/
structure BldOk (N : Nat) (X Y : Nat → Int) (q : Nat) : Prop where
  put : ∀ k, q + k < N → PutOk N (fun _ => []) (bld X Y q k).2
  dom : ∀ k, q + k < N → ∀ x, x ∈ (bld X Y q k).1 → x < N
  add : ∀ k, q + k + 1 < N → AddOk X Y (bld X Y q k).1 (q + k + 1) (firstI X Y (bld X Y q k).1 (q + k + 1)) (runJ X Y (bld X Y q k).1 (q + k + 1) (firstI X Y (bld X Y q k).1 (q + k + 1)))
  len : ∀ k, q + k < N → (bld X Y q k).1.length ≤ 4096
  cnt : ∀ k, q + k < N → (bld X Y q k).2.length < 100000000
theorem info_row : (Try.prog.info? 103).map (fun i => (i.zero, i.size, i.bytes)) = some (some (.slice none 0 0), 1, 24) := by kernel_rfl
/-- N rows, all empty -/
theorem make_rows (N : Nat) (hN : N ≤ 4096) : ∃ MC : Array Value, (∀ w, Sem.run Try.prog (Instr.makeSlice 85 (.int .i64 (N : Nat)) (.int .i64 (N : Nat))) w = .ok (.slice (some ⟨w.heap.size, 0, none⟩) N N) (w.alloc (.cells MC 103))) ∧ ∀ a, a < N → MC[a]? = some (.slice none 0 0) := by
  obtain ⟨i0, hi, hz0, hz1, hz2⟩ := info_parts info_row
  refine ⟨madeCells (Value.slice none 0 0).cells (N * 1), fun w => ?_, fun a ha => ?_⟩
  · have := run_makeSlice (P := Try.prog) w 85 103 i0 (.slice none 0 0) Try.underlying85 hi hz0 .i64 .i64 (N : Nat) (N : Nat) (by omega) (Int.le_refl _) (by rw [hz1]; simp; omega) (by rw [hz2]; omega) (by omega)
    rw [hz1] at this
    simpa using this
  · unfold madeCells
    simp [Value.cells, ha, Nat.mod_one]
theorem HRow.none {w : World} {base : Nat} : HRow w base (.slice none 0 0) [] := ⟨rfl, .inl ⟨rfl, rfl⟩⟩
theorem NL.none {w : World} {base : Nat} : NL w base (.slice none 0 0) [] := ⟨rfl, .inl ⟨rfl, rfl⟩⟩
/-- a fresh store and its builder -/
theorem BS.new {B : Nat} {V : World} {t bb ob N cap2 : Nat} {ao2 : Option Addr} {X Y : Nat → Int} {MC : Array Value} (ht : Blk V t #[.slice ao2 N cap2, .slice (some ⟨ob, 0, none⟩) N N, .int .i64 0] 87)
    (hb : Blk V bb #[ptr t 0, .slice none 0 0] 89) (ho : Blk V ob MC 103) (hM : ∀ a, a < N → MC[a]? = some (.slice none 0 0)) (hp : Pts V ao2 N cap2 X Y)
    (hty : 0 < N → ∃ a cur, ao2 = some a ∧ V.heap[a.block]? = some (.cells cur 41 (0, 0))) (hN : N ≤ 4096) (hBt : B ≤ t) (hBb : B ≤ bb) (hBo : B ≤ ob) :
    BS B V bb t ⟨ao2, cap2, ob, N, fun _ => .slice none 0 0⟩ (.slice none 0 0) N X Y (fun _ => []) 0 [] := by
  refine ⟨⟨ht, hp, hty, ⟨MC, ho, hM⟩, Nat.le_refl _, ?_, fun a _ => HRow.none, fun a b g _ _ _ h => ?_, hN, fun a _ x h => ?_, fun a _ j k x y _ h => ?_⟩, ⟨hb, NL.none⟩, fun g h => ?_, hBb⟩
  · show N ≤ _; omega
  · cases h
  · cases h
  · simp at h
  · rcases h with rfl | rfl | ⟨a, _, h⟩
    · exact hBt
    · exact hBo
    · cases h
theorem ar_lt (n : Nat) (h : n < 100000000) : (n : Int) < 100000000 := by omega
def risC (N : Nat) (X Y : Nat → Int) : Prop := ∀ i, i + 1 < N → cmpP (X i) (Y i) (X (i + 1)) (Y (i + 1)) < 0
set_option maxRecDepth 100000 in
set_option maxHeartbeats 4000000 in
theorem Build_ok (ao : Option Addr) (N cap : Nat) (X Y : Nat → Int) (w : World) (h : Pts w ao N cap X Y) (hN : N ≤ 4096) (hg : allC N X Y = true) (hr : risC N X Y) (hok : ∀ q, isLn N X Y q → q < N → BldOk N X Y q) :
    Calls Try.prog 12 #[.slice ao N cap] w fun e w' => ∃ (t : Nat) (D : SD) (q : Nat), e = .returned (.tuple #[ptr t 0, .int .i64 0]) ∧ isLn N X Y q ∧
      SM w' t D N X Y (if q = N then fun _ => [] else putAll (fun _ => []) (bld X Y q (N - 1 - q)).2) (if q = N then 0 else ((bld X Y q (N - 1 - q)).2.length : Nat)) ∧ (∀ g, D.has t N g → w.heap.size ≤ g) ∧ Below w.heap.size w w' := by
  have hcl := h.capl
  have hcb := h.capb
  have HO := Lib.hid h
  have HG := Lib.hid hg
  have HR := Lib.hid hr
  have HK := Lib.hid hok
  clear h hg hr hok
  go_enter Try.func12, Try.ntmps12
  go_wp2_with fail
  go_loopg [15] N (fun gk s15 wr => ∃ k : Nat, s15 = .int .i64 k ∧ k ≤ N ∧ N - k ≤ gk ∧ Hid (Below w.heap.size w wr))
  case atStart => exact ⟨0, rfl, Nat.zero_le _, by omega, Lib.hid (Below.refl _ _)⟩
  case round =>
    obtain ⟨k, rfl, hk, hgk, HW⟩ := hrel
    by_cases hlt : k < N
    · obtain ⟨a, rfl, p0, p1⟩ := HO.out.at HW.out hlt
      obtain ⟨px, hpx⟩ : ∃ x, X k = x := ⟨_, rfl⟩
      obtain ⟨py, hpy⟩ : ∃ x, Y k = x := ⟨_, rfl⟩
      have hrp : rp px py = true := by rw [← hpx, ← hpy]; exact List.all_eq_true.1 (by have := HG.out; unfold allC at this; exact this) k (List.mem_range.2 hlt)
      rw [hpx] at p0
      rw [hpy] at p1
      have HRP := Lib.hid hrp
      clear hpx hpy hrp
      go_wp2_with fail
      refine calls_w ?_
      intro V hV
      have hbV : Below wr.heap.size wr V := by rw [hV]; exact below_a1 _ _
      clear hV p0 p1
      have hpr := PtRight_any px py V
      rw [show (inC px && inC py) = true from HRP.out] at hpr
      refine hpr.mono ?_
      rintro e W2 ⟨rfl, hn⟩
      have HW2 := Lib.hid ((HW.out.trans (hbV.mono HW.out.size)).trans (hn.mono (HW.out.trans (hbV.mono HW.out.size)).size))
      clear hn hbV HW hpr
      go_wp2_with fail
      go_roundg (N - (k + 1))
      case measure => omega
      case rel => exact ⟨k + 1, by norm_cast, by omega, Nat.le_refl _, HW2⟩
    · go_wp2_with fail
      clear hk hgk hlt
      go_loopg [6] N (fun gk s6 wr => ∃ k : Nat, s6 = .int .i64 k ∧ 1 ≤ k ∧ (k ≤ N ∨ k = 1) ∧ N - k ≤ gk ∧ Hid (Below w.heap.size w wr))
      case atStart => exact ⟨1, rfl, Nat.le_refl _, .inr rfl, by omega, HW⟩
      case round =>
        clear HW
        obtain ⟨k, rfl, hk1, hk, hgk, HW⟩ := hrel
        by_cases hlt : k < N
        · obtain ⟨i, rfl⟩ : ∃ i, k = i + 1 := ⟨k - 1, by omega⟩
          obtain ⟨pa, rfl, hpt⟩ := (HO.out.of HW.out).atP (by omega)
          have qa := hpt i (by omega)
          have qb := hpt (i + 1) hlt
          have hcm := HR.out i hlt
          obtain ⟨ax, hax⟩ : ∃ x, X i = x := ⟨_, rfl⟩
          obtain ⟨ay, hay⟩ : ∃ x, Y i = x := ⟨_, rfl⟩
          obtain ⟨bx, hbx⟩ : ∃ x, X (i + 1) = x := ⟨_, rfl⟩
          obtain ⟨b_y, hby⟩ : ∃ x, Y (i + 1) = x := ⟨_, rfl⟩
          rw [hax, hay] at qa
          rw [hbx, hby] at qb
          rw [hax, hay, hbx, hby] at hcm
          have qa0 := fun u => (qa u).1
          have qa1 := fun u => (qa u).2
          have qb0 := fun u => (qb u).1
          have qb1 := fun u => (qb u).2
          obtain ⟨r, hr⟩ : ∃ r, cmpP ax ay bx b_y = r := ⟨_, rfl⟩
          rw [hr] at hcm
          have HC := Lib.hid hr
          have hii : ((i + 1 : Nat) : Int) - 1 = (i : Int) := by omega
          clear hpt qa qb hax hay hbx hby hr
          have hbk := HW.out
          go_wp2_with fail
          refine wp_region_up wr.heap.size 9 [(true, 0), (true, 1), (true, 2), (true, 3), (true, 4), (true, 5), (true, 6), (true, 7), (true, 8)] (by kernel_rfl) (by kernel_rfl) (fun _ _ d _ _ h => by cases d <;> exact h) ?_
          have hb : Below wr.heap.size wr wr.drew := (Below.refl _ _).drew
          iterate 9
            first | refine wpS_takeL rfl rfl ?_ | refine wpS_takeB rfl rfl rfl ?_
            first | go_big_quiet_step (rfl) | (go_big_quiet_want; go_big_quiet_op; refine ⟨_, fun _ => rfl, ?_⟩; go_big_quiet_on)
            refine wpQuiet_nil ?_
          refine wpS_nil ?_
          simp only [List.drop_succ_cons, List.drop_zero]
          go_wp2_with fail
          refine (PtCmp_is ax ay bx b_y r HC.out _).mono ?_
          rintro e W2 ⟨rfl, hn⟩
          have HW2 := Lib.hid ((hbk.trans (hb.mono hbk.size)).trans (hn.mono (hbk.trans (hb.mono hbk.size)).size))
          have hrn : ¬ 0 ≤ r := by omega
          clear hn hb hbk HW qa0 qa1 qb0 qb1
          go_wp2_with fail
          go_roundg (N - (i + 1 + 1))
          case measure => omega
          case rel => exact ⟨i + 1 + 1, by norm_cast, by omega, by omega, Nat.le_refl _, HW2⟩
        · go_wp2_with fail
          clear hk1 hk hgk hlt
          obtain ⟨MC, hmk, hMC⟩ := make_rows N hN
          have HMC := Lib.hid hMC
          clear hMC
          go_region_with (go_at_call 42; go_loud (refine (ClonePt_is ao N cap X Y _ (HO.out.of (by repeat' (first | with_reducible exact HW.out | with_reducible refine Below.drew ?_ | with_reducible refine Below.alloc ?_ ?_ _ | (have := HW.out.size; simp; omega)))) hN).mono ?_; rintro e w2 ⟨v2, rfl, hpo, hb2⟩; obtain ⟨ao2, cap2, rfl, hp2, hty2⟩ := hpo.pts; clear hpo))
          · go_wp2_with fail
            refine calls_w ?_
            intro V hV
            have hBW := HW.out
            obtain ⟨HB, HWV⟩ : Hid (BS w.heap.size V (w2.heap.size + 1 + 1) (w2.heap.size + 1) ⟨ao2, cap2, w2.heap.size, N, fun _ => .slice none 0 0⟩ (.slice none 0 0) N X Y (fun _ => []) 0 []) ∧ Hid (Below w.heap.size w V) := by
              have hsz := hBW.size
              have h2 : wr.drew.heap.size ≤ w2.heap.size := hb2.size
              have h3 : wr.drew.heap.size = wr.heap.size := rfl
              have hw2 : Below w.heap.size w w2 := hBW.drew.trans (hb2.mono (by omega))
              have hV2 : Below w2.heap.size w2 V := by rw [hV]; exact (((Below.refl _ _).alloc (Nat.le_refl _) _).alloc (by simp) _).alloc (by simp; omega) _
              refine ⟨Lib.hid (BS.new (MC := MC) (by rw [hV]; exact (Blk.new1 w2 _ _ _).alloc _) (by rw [hV]; exact Blk.new2 w2 _ _ _ _) (by rw [hV]; exact ((Blk.new w2 _ _).alloc _).alloc _) HMC.out (hp2.of hV2) (fun h0 => ?_) hN (by omega) (by omega) (by omega)), Lib.hid (hw2.trans (hV2.mono (by omega)))⟩
              obtain ⟨a, cur, e1, _, e2⟩ := hty2 h0
              exact ⟨a, cur, e1, (hV2.block _ (Array.getElem?_eq_some_iff.1 e2).1).trans e2⟩
            obtain ⟨D, hD⟩ : ∃ D : SD, D = ⟨ao2, cap2, w2.heap.size, N, fun _ => .slice none 0 0⟩ := ⟨_, rfl⟩
            rw [← hD] at HB
            obtain ⟨bb, hbb⟩ : ∃ b : Nat, b = (w2.heap.size + 1 + 1) := ⟨_, rfl⟩
            rw [← hbb] at HB
            obtain ⟨t, ht⟩ : ∃ t : Nat, t = (w2.heap.size + 1) := ⟨_, rfl⟩
            rw [← ht] at HB
            rw [← hbb, ← ht]
            clear hD ht hbb hBW hV hb2 hp2 hty2 HW hmk HMC
            refine (line_is ao N cap X Y V (HO.out.of HWV.out) hN).mono ?_
            rintro e W3 ⟨q, rfl, hq, hb3⟩
            have HB3 := Lib.hid (HB.out.of hb3)
            have HW3 := Lib.hid (HWV.out.trans (hb3.mono HWV.out.size))
            have HQ := Lib.hid hq
            clear hb3 HB HWV
            by_cases hqN : q = N
            · have c0 := HB3.out.bm.blk.cell 0
              have hqi : (q : Int) = (N : Int) := by rw [hqN]
              have HQN := Lib.hid hqN
              clear hqN hq
              go_wp2
              simp [bodyPost, results, Try.results12, go_sem]
              refine ⟨D, q, HQ.out, ?_, HB3.out.dB, HW3.out⟩
              have e1 : (if q = N then fun (_ : Nat) => ([] : List (Nat × Nat)) else putAll (fun _ => []) (bld X Y q (N - 1 - q)).2) = fun _ => [] := if_pos HQN.out
              have e2 : (if q = N then (0 : Int) else ((bld X Y q (N - 1 - q)).2.length : Nat)) = 0 := if_pos HQN.out
              rw [e1, e2]
              exact HB3.out.sm
            · have hlt : q < N := by have := hq.2.1; omega
              have hq2 : 2 ≤ q := by have := hq.1; omega
              have HKQ := Lib.hid (HK.out q hq hlt)
              have hqi : ¬ (q : Int) = (N : Int) := by omega
              clear hq
              go_wp2_with fail
              refine (begin_is w.heap.size bb t D N X Y (fun _ => []) q W3 HB3.out hq2 hlt (HKQ.out.put 0 hlt)).mono ?_
              rintro e W4 ⟨rfl, D4, hv4, hB4, hb4⟩
              rw [show ((q : Int) - 1) = (((bld X Y q 0).2.length : Nat) : Int) by show _ = (((begT (begH X Y q) q).length : Nat) : Int); rw [begT_len]; omega] at hB4
              have HB4 : Hid (BS w.heap.size W4 bb t D4 hv4 N X Y (putAll (fun _ => []) (bld X Y q 0).2) (((bld X Y q 0).2.length : Nat) : Int) (bld X Y q 0).1) := Lib.hid hB4
              have HW4 := Lib.hid (HW3.out.trans hb4)
              clear hB4 hb4 HB3 HW3
              go_wp2_with fail
              go_loopg [9] N (fun gk s9 wz => ∃ (i k : Nat) (D5 : SD) (hv5 : Value), s9 = .int .i64 i ∧ Hid (i = q + k + 1) ∧ i ≤ N ∧ N - i ≤ gk ∧ Hid (BS w.heap.size wz bb t D5 hv5 N X Y (putAll (fun _ => []) (bld X Y q k).2) (((bld X Y q k).2.length : Nat) : Int) (bld X Y q k).1) ∧ Hid (Below w.heap.size w wz))
              case atStart => exact ⟨q + 1, 0, D4, hv4, rfl, Lib.hid rfl, hlt, by omega, HB4, HW4⟩
              case round =>
                clear HB4 HW4
                obtain ⟨i, k, D5, hv5, rfl, HI, hi, hg, HB5, HW5⟩ := hrel
                by_cases hil : i < N
                · have hkN : q + k + 1 < N := by rw [← HI.out]; exact hil
                  have hA := HKQ.out.add k hkN
                  have hPP := (putOk_app N (fun _ => []) (bld X Y q k).2 _).1 (HKQ.out.put (k + 1) hkN)
                  have hc := HKQ.out.cnt k (Nat.lt_of_succ_lt hkN)
                  have hln := HKQ.out.len k (Nat.lt_of_succ_lt hkN)
                  have hdm := HKQ.out.dom k (Nat.lt_of_succ_lt hkN)
                  have HAA := Lib.hid (And.intro hA (And.intro hPP.2 (And.intro hc (And.intro hln hdm))))
                  clear hA hPP hc hln hdm hkN
                  go_wp2_with fail
                  have hadd := add_is w.heap.size bb t D5 hv5 N X Y _ _ _ (q + k + 1) _ _ wr HB5.out (by rw [← HI.out]; exact hil) HAA.out.2.2.2.2 HAA.out.2.2.2.1 HAA.out.1 HAA.out.2.1 ⟨Int.natCast_nonneg _, ar_lt _ HAA.out.2.2.1⟩
                  rw [← HI.out] at hadd
                  refine hadd.mono ?_
                  rintro e W6 ⟨rfl, D6, hv6, hB6, hb6⟩
                  have hB7 : BS w.heap.size W6 bb t D6 hv6 N X Y (putAll (fun _ => []) (bld X Y q (k + 1)).2) (((bld X Y q (k + 1)).2.length : Nat) : Int) (bld X Y q (k + 1)).1 := by
                    rw [HI.out] at hB6
                    show BS w.heap.size W6 bb t D6 hv6 N X Y (putAll (fun _ => []) ((bld X Y q k).2 ++ _)) ((((bld X Y q k).2 ++ _).length : Nat) : Int) _
                    rw [putAll_app, List.length_append, addT_len]
                    exact_mod_cast hB6
                  have HB7 := Lib.hid hB7
                  have HW7 := Lib.hid (HW5.out.trans hb6)
                  clear hB6 hb6 hB7 HB5 HW5 hadd HAA
                  go_wp2_with fail
                  go_roundg (N - (i + 1))
                  case measure => omega
                  case rel => exact ⟨i + 1, k + 1, D6, hv6, rfl, Lib.hid (by have := HI.out; omega), hil, Nat.le_refl _, HB7, HW7⟩
                · have hiN : i = N := Nat.le_antisymm hi (Nat.le_of_not_lt hil)
                  have HIN := Lib.hid hiN
                  have c0 := HB5.out.bm.blk.cell 0
                  clear hiN hi hg
                  go_wp2
                  simp [bodyPost, results, Try.results12, go_sem]
                  refine ⟨D5, q, HQ.out, ?_, HB5.out.dB, HW5.out⟩
                  have hk : N - 1 - q = k := by have h1 := HI.out; have h2 := HIN.out; omega
                  have e1 : (if q = N then fun (_ : Nat) => ([] : List (Nat × Nat)) else putAll (fun _ => []) (bld X Y q (N - 1 - q)).2) = putAll (fun _ => []) (bld X Y q k).2 := by rw [if_neg hqN, hk]
                  have e2 : (if q = N then (0 : Int) else (((bld X Y q (N - 1 - q)).2.length : Nat) : Int)) = (((bld X Y q k).2.length : Nat) : Int) := by rw [if_neg hqN, hk]
                  rw [e1, e2]
                  exact HB5.out.sm
          · go_wp2_with fail
            refine calls_w ?_
            intro V hV
            have hBW := HW.out
            obtain ⟨HB, HWV⟩ : Hid (BS w.heap.size V (w2.heap.size + 1) w2.heap.size ⟨ao2, cap2, wr.heap.size, N, fun _ => .slice none 0 0⟩ (.slice none 0 0) N X Y (fun _ => []) 0 []) ∧ Hid (Below w.heap.size w V) := by
              have hsz := hBW.size
              obtain ⟨w1, hw1⟩ : ∃ w1 : World, w1 = (wr.alloc (.cells MC 103)).drew := ⟨_, rfl⟩
              have hS1 : w1.heap.size = wr.heap.size + 1 := by rw [hw1]; simp [World.drew]
              have hk1 : Blk w1 wr.heap.size MC 103 := by rw [hw1]; exact Blk.new wr _ _
              have hb1 : Below w.heap.size w w1 := by rw [hw1]; exact (hBW.alloc hsz _).drew
              rw [← hw1] at hb2 hty2
              have h2 : w1.heap.size ≤ w2.heap.size := hb2.size
              have hw2 : Below w.heap.size w w2 := hb1.trans (hb2.mono (by omega))
              have hV2 : Below w2.heap.size w2 V := by rw [hV]; exact ((Below.refl _ _).alloc (Nat.le_refl _) _).alloc (by simp) _
              refine ⟨Lib.hid (BS.new (MC := MC) (by rw [hV]; exact (Blk.new w2 _ _).alloc _) (by rw [hV]; exact Blk.new1 w2 _ _ _) ((hk1.of hb2).of hV2) HMC.out (hp2.of hV2) (fun h0 => ?_) hN (by omega) (by omega) (by omega)), Lib.hid (hw2.trans (hV2.mono (by omega)))⟩
              obtain ⟨a, cur, e1, _, e2⟩ := hty2 h0
              exact ⟨a, cur, e1, (hV2.block _ (Array.getElem?_eq_some_iff.1 e2).1).trans e2⟩
            obtain ⟨D, hD⟩ : ∃ D : SD, D = ⟨ao2, cap2, wr.heap.size, N, fun _ => .slice none 0 0⟩ := ⟨_, rfl⟩
            rw [← hD] at HB
            obtain ⟨bb, hbb⟩ : ∃ b : Nat, b = (w2.heap.size + 1) := ⟨_, rfl⟩
            rw [← hbb] at HB
            obtain ⟨t, ht⟩ : ∃ t : Nat, t = w2.heap.size := ⟨_, rfl⟩
            rw [← ht] at HB
            rw [← hbb, ← ht]
            clear hD ht hbb hBW hV hb2 hp2 hty2 HW hmk HMC
            refine (line_is ao N cap X Y V (HO.out.of HWV.out) hN).mono ?_
            rintro e W3 ⟨q, rfl, hq, hb3⟩
            have HB3 := Lib.hid (HB.out.of hb3)
            have HW3 := Lib.hid (HWV.out.trans (hb3.mono HWV.out.size))
            have HQ := Lib.hid hq
            clear hb3 HB HWV
            by_cases hqN : q = N
            · have c0 := HB3.out.bm.blk.cell 0
              have hqi : (q : Int) = (N : Int) := by rw [hqN]
              have HQN := Lib.hid hqN
              clear hqN hq
              go_wp2
              simp [bodyPost, results, Try.results12, go_sem]
              refine ⟨D, q, HQ.out, ?_, HB3.out.dB, HW3.out⟩
              have e1 : (if q = N then fun (_ : Nat) => ([] : List (Nat × Nat)) else putAll (fun _ => []) (bld X Y q (N - 1 - q)).2) = fun _ => [] := if_pos HQN.out
              have e2 : (if q = N then (0 : Int) else ((bld X Y q (N - 1 - q)).2.length : Nat)) = 0 := if_pos HQN.out
              rw [e1, e2]
              exact HB3.out.sm
            · have hlt : q < N := by have := hq.2.1; omega
              have hq2 : 2 ≤ q := by have := hq.1; omega
              have HKQ := Lib.hid (HK.out q hq hlt)
              have hqi : ¬ (q : Int) = (N : Int) := by omega
              clear hq
              go_wp2_with fail
              refine (begin_is w.heap.size bb t D N X Y (fun _ => []) q W3 HB3.out hq2 hlt (HKQ.out.put 0 hlt)).mono ?_
              rintro e W4 ⟨rfl, D4, hv4, hB4, hb4⟩
              rw [show ((q : Int) - 1) = (((bld X Y q 0).2.length : Nat) : Int) by show _ = (((begT (begH X Y q) q).length : Nat) : Int); rw [begT_len]; omega] at hB4
              have HB4 : Hid (BS w.heap.size W4 bb t D4 hv4 N X Y (putAll (fun _ => []) (bld X Y q 0).2) (((bld X Y q 0).2.length : Nat) : Int) (bld X Y q 0).1) := Lib.hid hB4
              have HW4 := Lib.hid (HW3.out.trans hb4)
              clear hB4 hb4 HB3 HW3
              go_wp2_with fail
              go_loopg [9] N (fun gk s9 wz => ∃ (i k : Nat) (D5 : SD) (hv5 : Value), s9 = .int .i64 i ∧ Hid (i = q + k + 1) ∧ i ≤ N ∧ N - i ≤ gk ∧ Hid (BS w.heap.size wz bb t D5 hv5 N X Y (putAll (fun _ => []) (bld X Y q k).2) (((bld X Y q k).2.length : Nat) : Int) (bld X Y q k).1) ∧ Hid (Below w.heap.size w wz))
              case atStart => exact ⟨q + 1, 0, D4, hv4, rfl, Lib.hid rfl, hlt, by omega, HB4, HW4⟩
              case round =>
                clear HB4 HW4
                obtain ⟨i, k, D5, hv5, rfl, HI, hi, hg, HB5, HW5⟩ := hrel
                by_cases hil : i < N
                · have hkN : q + k + 1 < N := by rw [← HI.out]; exact hil
                  have hA := HKQ.out.add k hkN
                  have hPP := (putOk_app N (fun _ => []) (bld X Y q k).2 _).1 (HKQ.out.put (k + 1) hkN)
                  have hc := HKQ.out.cnt k (Nat.lt_of_succ_lt hkN)
                  have hln := HKQ.out.len k (Nat.lt_of_succ_lt hkN)
                  have hdm := HKQ.out.dom k (Nat.lt_of_succ_lt hkN)
                  have HAA := Lib.hid (And.intro hA (And.intro hPP.2 (And.intro hc (And.intro hln hdm))))
                  clear hA hPP hc hln hdm hkN
                  go_wp2_with fail
                  have hadd := add_is w.heap.size bb t D5 hv5 N X Y _ _ _ (q + k + 1) _ _ wr HB5.out (by rw [← HI.out]; exact hil) HAA.out.2.2.2.2 HAA.out.2.2.2.1 HAA.out.1 HAA.out.2.1 ⟨Int.natCast_nonneg _, ar_lt _ HAA.out.2.2.1⟩
                  rw [← HI.out] at hadd
                  refine hadd.mono ?_
                  rintro e W6 ⟨rfl, D6, hv6, hB6, hb6⟩
                  have hB7 : BS w.heap.size W6 bb t D6 hv6 N X Y (putAll (fun _ => []) (bld X Y q (k + 1)).2) (((bld X Y q (k + 1)).2.length : Nat) : Int) (bld X Y q (k + 1)).1 := by
                    rw [HI.out] at hB6
                    show BS w.heap.size W6 bb t D6 hv6 N X Y (putAll (fun _ => []) ((bld X Y q k).2 ++ _)) ((((bld X Y q k).2 ++ _).length : Nat) : Int) _
                    rw [putAll_app, List.length_append, addT_len]
                    exact_mod_cast hB6
                  have HB7 := Lib.hid hB7
                  have HW7 := Lib.hid (HW5.out.trans hb6)
                  clear hB6 hb6 hB7 HB5 HW5 hadd HAA
                  go_wp2_with fail
                  go_roundg (N - (i + 1))
                  case measure => omega
                  case rel => exact ⟨i + 1, k + 1, D6, hv6, rfl, Lib.hid (by have := HI.out; omega), hil, Nat.le_refl _, HB7, HW7⟩
                · have hiN : i = N := Nat.le_antisymm hi (Nat.le_of_not_lt hil)
                  have HIN := Lib.hid hiN
                  have c0 := HB5.out.bm.blk.cell 0
                  clear hiN hi hg
                  go_wp2
                  simp [bodyPost, results, Try.results12, go_sem]
                  refine ⟨D5, q, HQ.out, ?_, HB5.out.dB, HW5.out⟩
                  have hk : N - 1 - q = k := by have h1 := HI.out; have h2 := HIN.out; omega
                  have e1 : (if q = N then fun (_ : Nat) => ([] : List (Nat × Nat)) else putAll (fun _ => []) (bld X Y q (N - 1 - q)).2) = putAll (fun _ => []) (bld X Y q k).2 := by rw [if_neg hqN, hk]
                  have e2 : (if q = N then (0 : Int) else (((bld X Y q (N - 1 - q)).2.length : Nat) : Int)) = (((bld X Y q k).2.length : Nat) : Int) := by rw [if_neg hqN, hk]
                  rw [e1, e2]
                  exact HB5.out.sm
end Go.Proofs.Ytdlpfiiakmhnlaa

