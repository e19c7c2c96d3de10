/- The statement PixelBoxesSaid: for every input the law returns true, and its arguments read as before. Conditions: none. -/
import Derived.Test.YtlcbomjdbdgbmaaSPb3
import Derived.KernelRfl
import Derived.StillTail
import Derived.OrdersHeld
import Derived.Deep.Quiet
import Derived.Below
import Derived.WalkKit
import Derived.Test.YtlcbomjdbdgbmaaProg
import Derived.WalkSpells
import Derived.StillTactics
import Derived.Laws.Pointers
import Derived.Deep.RegionHeld3
import Derived.RowKit3
import Derived.Deep.QuietTactic
import Derived.BigQuiet
import Derived.BigRegion
import Derived.Lib.Hide
import Derived.WalkSmall
import Derived.Laws.BitsAllLaws
import Derived.IntWalk
import Derived.Deep.OwnRows
import Derived.Deep.LoopGhost
import Derived.Shelf.Bits.Mul64
import Derived.Deep.WholeRow
import Derived.Laws.Rows
import Derived.Test.YtlcbomjdbdgbmaaRows
import Derived.ProofKit
import Derived.OpenShut
import Derived.ShutString
import Derived.ChangeOld
import Derived.Lib.SmallJoins
import Derived.Laws.IdiomArrays
namespace Go.Proofs.Ytlcbomjdbdgbmaa
open Go.RowKit

structure OutL (l : List Nat) (W w' : World) : Prop where
  os : w'.os = W.os
  tape : w'.tape = W.tape
  output : w'.output = W.output
  size : W.heap.size ≤ w'.heap.size
  block : ∀ k, k < W.heap.size → k ∉ l → w'.heap[k]? = W.heap[k]?
theorem OutL.refl (l : List Nat) (W : World) : OutL l W W := ⟨rfl, rfl, rfl, Nat.le_refl _, fun _ _ _ => rfl⟩
theorem OutL.ofBelow {l : List Nat} {w w' : World} (h : Below w.heap.size w w') : OutL l w w' := ⟨h.os, h.tape, h.output, h.size, fun k hk _ => h.block k hk⟩
theorem OutL.trans {l : List Nat} {W w w' : World} (h : OutL l W w) (h' : OutL l w w') : OutL l W w' :=
  ⟨h'.os.trans h.os, h'.tape.trans h.tape, h'.output.trans h.output, Nat.le_trans h.size h'.size, fun k hk hc => (h'.block k (Nat.lt_of_lt_of_le hk h.size) hc).trans (h.block k hk hc)⟩
theorem OutL.mono {l l' : List Nat} {W w : World} (h : OutL l W w) (hl : ∀ k, k < W.heap.size → k ∈ l → k ∈ l') : OutL l' W w :=
  ⟨h.os, h.tape, h.output, h.size, fun k hk hc => h.block k hk fun hm => hc (hl k hk hm)⟩
theorem OutL.set {l : List Nat} {W w : World} (h : OutL l W w) {b : Nat} (hb : b ∈ l) (o : Nat) (s : Option Nat) (v : Value) : OutL l W (w.setCell ⟨b, o, s⟩ v) :=
  ⟨h.os, h.tape, h.output, by simpa [World.setCell] using h.size, fun k hk hc => (Below.heap_setCell _ _ _ _ (fun e => hc (by have : k = b := e; rw [this]; exact hb))).trans (h.block k hk hc)⟩
theorem OutL.alloc {l : List Nat} {W w : World} (h : OutL l W w) (o : Obj) : OutL l W (w.alloc o) := h.trans (.ofBelow ((Below.refl _ _).alloc (Nat.le_refl _) o))
theorem OutL.drew {l : List Nat} {W w : World} (h : OutL l W w) : OutL l W w.drew := h.trans (.ofBelow (Below.refl _ _).drew)
theorem OutL.below {l : List Nat} {B : Nat} {W w : World} (h : OutL l W w) (hB : B ≤ W.heap.size) (hl : ∀ k ∈ l, B ≤ k) : Below B W w :=
  ⟨h.os, h.tape, h.output, h.size, fun k hk => h.block k (by omega) fun hm => by have := hl k hm; omega⟩
def UpL (l : List Nat) (W : World) : Type := { w' : World // OutL l W w' }
def UpL.w {l : List Nat} {W : World} (u : UpL l W) : World := u.1
@[go_sem] theorem UpL.cell {l : List Nat} {W : World} (u : UpL l W) (b o : Nat) (h : b < W.heap.size) (hc : b ∉ l) : u.w.cell? ⟨b, o, none⟩ = W.cell? ⟨b, o, none⟩ :=
  World.cell?_of_block (w := W) (u.2.block b h hc)
theorem upl {l : List Nat} {W w' : World} (h : OutL l W w') : ∃ u : UpL l W, w' = u.w := ⟨⟨w', h⟩, rfl⟩
end Go.Proofs.Ytlcbomjdbdgbmaa

namespace Go.Proofs.Ytlcbomjdbdgbmaa
open Go.RowKit

theorem rsp_one {x y : Int} (h : rp x y = true) : rspR x y 1 = true := by
  have k := (rp_iff x y).1 h
  unfold rspR
  rw [sign_le0, cmp_gt0, cmp_ge0, cmp_le0, cmp_ge0, cmp_le0, decide_eq_true (show -(2199023255552 * 1) ≤ x by omega), decide_eq_true (show x ≤ 2199023255552 * 1 by omega), decide_eq_true (show -(2199023255552 * 1) ≤ y by omega), decide_eq_true (show y ≤ 2199023255552 * 1 by omega)]
  rfl
theorem pat_ok {x y : Int} (h : rp x y = true) : atx x y = x ∧ aty x y = y ∧ atw x y = 1 := by
  unfold atx aty atw; rw [h]; exact ⟨rfl, rfl, rfl⟩
structure PtCell (x y n : Int) : Prop where
  e0 : pxOe x y 1 n = 0
  ex : pxOx x y 1 n = pxc x 1 n
  ey : pxOy x y 1 n = pxc y 1 n
  cx : inCell n 1 (pxc x 1 n) x
  cy : inCell n 1 (pxc y 1 n) y
  rr : rp (pxc x 1 n) (pxc y 1 n) = true
theorem pt_cell {x y n : Int} (h : rp x y = true) (hS : pxS n = true) : PtCell x y n := by
  have k := (rp_iff x y).1 h
  have hn := (pxS_iff n).1 hS
  obtain ⟨e1, e2, e3⟩ := pxO_of hS ((spR_eq x y 1).trans (rsp_one h))
  obtain ⟨k1, k2, k3⟩ := @pxc_sp x 1 n (by omega) (by omega) (by omega) (by omega) hn
  obtain ⟨m1, m2, m3⟩ := @pxc_sp y 1 n (by omega) (by omega) (by omega) (by omega) hn
  exact ⟨e3, e1, e2, k1, m1, (rp_iff _ _).2 ⟨⟨k2, k3⟩, m2, m3⟩⟩
end Go.Proofs.Ytlcbomjdbdgbmaa

namespace Go.Proofs.Ytlcbomjdbdgbmaa
open Go.RowKit

section
variable {P : Program} {C : World → Prop} {Q : Exit → Act → World → Prop}
theorem mm_value {o : Oper} {c : Call} {ρ : Operand → Value} {w w' : World} {n : Next} (hp : o.op = .call c) (hb : c.callee = .builtin .min ∨ c.callee = .builtin .max) (h : (execOp ρ o).run P w = .ok n w') : ∃ v, n = .value v := by
  unfold execOp at h
  rw [hp] at h
  dsimp only at h
  unfold resolve at h
  rcases hb with hb | hb <;> rw [hb] at h <;> simp only [Sem.run_bind, Sem.run_pure, Result.andThen_ok, invoke, builtin] at h
  · cases h1 : Sem.run P (Builtin.min_ c.argTypes o.type (c.args.map ρ)) w with
    | halt y w1 => rw [h1] at h; simp [Result.andThen] at h
    | ok p w1 => rw [h1] at h; simp only [Result.andThen] at h; exact ⟨_, ((Result.ok.inj h).1).symm⟩
  · cases h1 : Sem.run P (Builtin.max_ c.argTypes o.type (c.args.map ρ)) w with
    | halt y w1 => rw [h1] at h; simp [Result.andThen] at h
    | ok p w1 => rw [h1] at h; simp only [Result.andThen] at h; exact ⟨_, ((Result.ok.inj h).1).symm⟩
theorem mm_yields {o : Oper} {c : Call} {a : Act} {v : Value} (hp : o.op = .call c) (hb : c.callee = .builtin .min ∨ c.callee = .builtin .max) (h : ∀ w, C w → o.quietAt P a C w v) : ∀ w, C w → (execOp a.eval o).run P w = .ok (.value v) w := by
  intro w hw
  have h3 := h w hw
  unfold Oper.quietAt at h3
  cases hr : (execOp a.eval o).run P w with
  | ok n w' =>
    rw [hr] at h3
    obtain ⟨u, rfl⟩ := mm_value hp hb hr
    simp only [Oper.quietUpon] at h3
    rw [h3.1, h3.2]
  | halt x w' => rw [hr] at h3; simp only [Oper.quietUpon] at h3
theorem mm_item {l : List Oper} {o : Oper} {c : Call} {a : Act} {K : Act → Prop} (hp : o.op = .call c) (hb : c.callee = .builtin .min ∨ c.callee = .builtin .max) (h : wpQuiet P l.toArray C K [o] a) : ∃ v, YieldsIf P l.toArray C o v a ∧ K (a.put o.dst v) := by
  unfold wpQuiet at h
  by_cases hw : Region.wanted o (yielded l.toArray a.tmps) = true
  · rw [if_pos hw] at h
    obtain ⟨v, h1, h2⟩ := h
    exact ⟨v, .inl ⟨hw, mm_yields hp hb h1⟩, h2⟩
  · rw [if_neg hw] at h
    exact ⟨undef, .inr ⟨by simpa using hw, rfl⟩, h⟩
theorem wpG_takeM0 {l : List Oper} {σ : List (Nat × Nat)} {i : Nat} {o : Oper} {c : Call} {a : Act} {w : World} (ho : l[i]? = some o) (hp : o.op = .call c) (hb : c.callee = .builtin .min ∨ c.callee = .builtin .max)
    (h : wpQuiet P l.toArray C (fun a' => wpG P l.toArray C Q σ a' w) [o] a) : wpG P l.toArray C Q ((0, i) :: σ) a w := by
  obtain ⟨v, h1, h2⟩ := mm_item hp hb h
  exact ⟨o, v, by simpa using ho, h1, h2⟩
@[go_sem high] theorem run_min_i (ts : Array TypeId) (t : TypeId) (k k' : IntKind) (x y : Int) (w : World) : (Builtin.min_ ts t #[.int k x, .int k' y]).run P w = .ok (.int k (min x y)) w := by
  rw [run_min_int2, show (if y < x then y else x) = min x y by rw [Int.min_def]; split <;> split <;> omega]
@[go_sem high] theorem run_max_i (ts : Array TypeId) (t : TypeId) (k k' : IntKind) (x y : Int) (w : World) : (Builtin.max_ ts t #[.int k x, .int k' y]).run P w = .ok (.int k (max x y)) w := by
  rw [run_max_int2, show (if x < y then y else x) = max x y by rw [Int.max_def]; split <;> split <;> omega]
end
end Go.Proofs.Ytlcbomjdbdgbmaa

namespace Go.Proofs.Ytlcbomjdbdgbmaa
open Go.RowKit

def boa (ax : Int) (ay : Int) (bx : Int) (b_y : Int) (n : Int) : Int := (bif (sgR ax ay bx b_y) then (bif ((pxOe (atx ax ay) (aty ax ay) (atw ax ay) n) == 0) then (min (pxOx (atx ax ay) (aty ax ay) (atw ax ay) n) (pxOx (atx bx b_y) (aty bx b_y) (atw bx b_y) n)) else 0) else 0)

def bob (ax : Int) (ay : Int) (bx : Int) (b_y : Int) (n : Int) : Int := (bif (sgR ax ay bx b_y) then (bif ((pxOe (atx ax ay) (aty ax ay) (atw ax ay) n) == 0) then (min (pxOy (atx ax ay) (aty ax ay) (atw ax ay) n) (pxOy (atx bx b_y) (aty bx b_y) (atw bx b_y) n)) else 0) else 0)

def boc (ax : Int) (ay : Int) (bx : Int) (b_y : Int) (n : Int) : Int := (bif (sgR ax ay bx b_y) then (bif ((pxOe (atx ax ay) (aty ax ay) (atw ax ay) n) == 0) then (max (pxOx (atx ax ay) (aty ax ay) (atw ax ay) n) (pxOx (atx bx b_y) (aty bx b_y) (atw bx b_y) n)) else 0) else 0)

def bod (ax : Int) (ay : Int) (bx : Int) (b_y : Int) (n : Int) : Int := (bif (sgR ax ay bx b_y) then (bif ((pxOe (atx ax ay) (aty ax ay) (atw ax ay) n) == 0) then (max (pxOy (atx ax ay) (aty ax ay) (atw ax ay) n) (pxOy (atx bx b_y) (aty bx b_y) (atw bx b_y) n)) else 0) else 0)

def boe (ax : Int) (ay : Int) (bx : Int) (b_y : Int) (n : Int) : Int := (bif (sgR ax ay bx b_y) then (bif ((pxOe (atx ax ay) (aty ax ay) (atw ax ay) n) == 0) then 0 else (pxOe (atx ax ay) (aty ax ay) (atw ax ay) n)) else 11)

set_option maxRecDepth 100000 in
set_option maxHeartbeats 4000000 in

theorem pxBo_is (ax : Int) (ay : Int) (bx : Int) (b_y : Int) (n : Int)  (R0 : Int) (R1 : Int) (R2 : Int) (R3 : Int) (R4 : Int) (hR0 : boa ax ay bx b_y n = R0) (hR1 : bob ax ay bx b_y n = R1) (hR2 : boc ax ay bx b_y n = R2) (hR3 : bod ax ay bx b_y n = R3) (hR4 : boe ax ay bx b_y n = R4) (_iax : In64 ax) (_iay : In64 ay) (_ibx : In64 bx) (_ib_y : In64 b_y) (_in : In64 n)  (w : World)  :
    Calls Try.prog 48 #[.agg #[.int .i64 ax, .int .i64 ay, .int .i64 bx, .int .i64 b_y], .int .i64 n] w fun e w' => e = .returned (.tuple #[.agg #[.int .i64 R0, .int .i64 R1], .agg #[.int .i64 R2, .int .i64 R3], .int .i64 R4]) ∧ Below w.heap.size w w' := by

  have HR0 := Lib.hid hR0
  clear hR0
  have HR1 := Lib.hid hR1
  clear hR1
  have HR2 := Lib.hid hR2
  clear hR2
  have HR3 := Lib.hid hR3
  clear hR3
  have HR4 := Lib.hid hR4
  clear hR4
  go_enter Try.func48, Try.ntmps48
  go_wp2_with fail
  first | refine calls_w ?_ | refine name_world ?_ | refine list_world ?_ | refine post_world ?_
  intro V1 hV1
  have hn : Below w.heap.size w V1 := by rw [hV1]; exact below_a3 _ _ _ _
  have nhb0 := hn
  have k1 : Blk V1 w.heap.size #[.int .i64 ax, .int .i64 ay, .int .i64 bx, .int .i64 b_y] 50 := by rw [hV1]; exact (((Blk.new _ _ _).alloc _).alloc _)
  have k2 : Blk V1 (w.heap.size + 1) #[.int .i64 0, .int .i64 0] 24 := by rw [hV1]; exact ((Blk.new1 _ _ _ _).alloc _)
  have k3 : Blk V1 (w.heap.size + 1 + 1) #[.int .i64 0, .int .i64 0] 24 := by rw [hV1]; exact (Blk.new2 _ _ _ _ _)
  clear hV1
  have hb0 := nhb0
  clear nhb0
  obtain ⟨z1, hz1⟩ : ∃ o_o : Bool, sgR ax ay bx b_y = o_o := ⟨_, rfl⟩
  have Hz1 := Lib.hid hz1
  clear hz1
  refine (SegRight_is ax ay bx b_y z1 Hz1.out _iax _iay _ibx _ib_y  _).mono ?_
  rintro e U2 ⟨rfl, hn⟩
  replace k1 := k1.of hn
  replace k2 := k2.of hn
  replace k3 := k3.of hn
  replace hb0 := hb0.trans (hn.mono hb0.size)
  clear hn
  cases z1
  · go_wp2_with fail
    have c2_0 : U2.cell? ⟨(w.heap.size + 1), 0, none⟩ = some (.int .i64 0) := k2.cell 0
    have c2_1 : U2.cell? ⟨(w.heap.size + 1), 1, none⟩ = some (.int .i64 0) := k2.cell 1
    have f2_0 := k2.free 0
    have f2_1 := k2.free 1
    have l2 := k2.lt
    have c3_0 : U2.cell? ⟨(w.heap.size + 1 + 1), 0, none⟩ = some (.int .i64 0) := k3.cell 0
    have c3_1 : U2.cell? ⟨(w.heap.size + 1 + 1), 1, none⟩ = some (.int .i64 0) := k3.cell 1
    have f3_0 := k3.free 0
    have f3_1 := k3.free 1
    have l3 := k3.lt
    have p2_3 : (w.heap.size + 1) ≠ (w.heap.size + 1 + 1) := (by omega)
    have Kk1 := Lib.hid k1
    clear k1
    have Kk2 := Lib.hid k2
    clear k2
    have Kk3 := Lib.hid k3
    clear k3
    go_region
    first | refine name_q ?_ | refine calls_w ?_ | refine name_world ?_ | refine list_world ?_ | refine post_world ?_
    intro U3 hU3
    clear c2_0 c2_1 f2_0 f2_1 l2 c3_0 c3_1 f3_0 f3_1 l3 p2_3
    have k1 : Blk U3 w.heap.size #[.int .i64 ax, .int .i64 ay, .int .i64 bx, .int .i64 b_y] 50 := by rw [hU3]; exact Blk.drew (blk_setL (blk_setL Kk1.out (by omega) 0 [.int .i64 0, .int .i64 0]) (by omega) 0 [.int .i64 0, .int .i64 0])
    clear Kk1
    have k2 : Blk U3 (w.heap.size + 1) #[.int .i64 0, .int .i64 0] 24 := by rw [hU3]; exact Blk.drew (blk_setL (blk_full _ [.int .i64 0, .int .i64 0] Kk2.out rfl) (by omega) 0 [.int .i64 0, .int .i64 0])
    clear Kk2
    have k3 : Blk U3 (w.heap.size + 1 + 1) #[.int .i64 0, .int .i64 0] 24 := by rw [hU3]; exact Blk.drew (blk_full _ [.int .i64 0, .int .i64 0] (blk_setL Kk3.out (by omega) 0 [.int .i64 0, .int .i64 0]) rfl)
    clear Kk3
    replace hb0 : Below w.heap.size w U3 := by rw [hU3]; exact Below.drew (blw_setL (blw_setL hb0 (by omega) 0 [.int .i64 0, .int .i64 0]) (by omega) 0 [.int .i64 0, .int .i64 0])
    clear hU3
    have e0 : 0 = R0 := by rw [← HR0.out]; unfold boa; (try rw [Hz1.out]); all_goals first | rfl | simp
    have e1 : 0 = R1 := by rw [← HR1.out]; unfold bob; (try rw [Hz1.out]); all_goals first | rfl | simp
    have e2 : 0 = R2 := by rw [← HR2.out]; unfold boc; (try rw [Hz1.out]); all_goals first | rfl | simp
    have e3 : 0 = R3 := by rw [← HR3.out]; unfold bod; (try rw [Hz1.out]); all_goals first | rfl | simp
    have e4 : 11 = R4 := by rw [← HR4.out]; unfold boe; (try rw [Hz1.out]); all_goals first | rfl | simp
    subst e0
    subst e1
    subst e2
    subst e3
    subst e4
    go_wp2
    have g2_0 : U3.cell? ⟨(w.heap.size + 1), 0, none⟩ = some (.int .i64 0) := k2.cell 0
    have g2_1 : U3.cell? ⟨(w.heap.size + 1), 1, none⟩ = some (.int .i64 0) := k2.cell 1
    have g3_0 : U3.cell? ⟨(w.heap.size + 1 + 1), 0, none⟩ = some (.int .i64 0) := k3.cell 0
    have g3_1 : U3.cell? ⟨(w.heap.size + 1 + 1), 1, none⟩ = some (.int .i64 0) := k3.cell 1
    clear k1 k2 k3
    simp [bodyPost, results, Try.results48, go_sem, g2_0, g2_1, g3_0, g3_1]
    first | exact hb0 | exact ⟨rfl, hb0⟩
  · have c1_0 : U2.cell? ⟨w.heap.size, 0, none⟩ = some (.int .i64 ax) := k1.cell 0
    have c1_1 : U2.cell? ⟨w.heap.size, 1, none⟩ = some (.int .i64 ay) := k1.cell 1
    have l1 := k1.lt
    go_wp2_with fail
    clear c1_0 c1_1 l1
    obtain ⟨r2, hr2⟩ : ∃ o_o : Int, atx ax ay = o_o := ⟨_, rfl⟩
    have Hr2 := Lib.hid hr2
    clear hr2
    obtain ⟨r3, hr3⟩ : ∃ o_o : Int, aty ax ay = o_o := ⟨_, rfl⟩
    have Hr3 := Lib.hid hr3
    clear hr3
    obtain ⟨r4, hr4⟩ : ∃ o_o : Int, atw ax ay = o_o := ⟨_, rfl⟩
    have Hr4 := Lib.hid hr4
    clear hr4
    refine (crAt_is ax ay r2 r3 r4 Hr2.out Hr3.out Hr4.out _iax _iay  _).mono ?_
    rintro e U4 ⟨rfl, hn⟩
    replace k1 := k1.of hn
    replace k2 := k2.of hn
    replace k3 := k3.of hn
    replace hb0 := hb0.trans (hn.mono hb0.size)
    clear hn
    go_wp2_with fail
    obtain ⟨r5, hr5⟩ : ∃ o_o : Int, pxOx r2 r3 r4 n = o_o := ⟨_, rfl⟩
    have Hr5 := Lib.hid hr5
    clear hr5
    obtain ⟨r6, hr6⟩ : ∃ o_o : Int, pxOy r2 r3 r4 n = o_o := ⟨_, rfl⟩
    have Hr6 := Lib.hid hr6
    clear hr6
    obtain ⟨r7, hr7⟩ : ∃ o_o : Int, pxOe r2 r3 r4 n = o_o := ⟨_, rfl⟩
    have Hr7 := Lib.hid hr7
    clear hr7
    refine (pxOf_is r2 r3 r4 n r5 r6 r7 Hr5.out Hr6.out Hr7.out (Hr2.out ▸ atx_in ax ay _iax _iay) (Hr3.out ▸ aty_in ax ay _iax _iay) (Hr4.out ▸ atw_in ax ay _iax _iay) _in  _).mono ?_
    rintro e U5 ⟨rfl, hn⟩
    replace k1 := k1.of hn
    replace k2 := k2.of hn
    replace k3 := k3.of hn
    replace hb0 := hb0.trans (hn.mono hb0.size)
    clear hn
    obtain ⟨z8, hz8⟩ : ∃ o_o : Bool, (r7 == 0) = o_o := ⟨_, rfl⟩
    cases z8
    · have nz8 : ¬ r7 = 0 := by simpa using hz8
      go_wp2_with fail
      first | refine calls_w ?_ | refine name_world ?_ | refine list_world ?_ | refine post_world ?_
      intro V6 hV6
      have D1 := Lib.hid k1.lt
      have D2 := Lib.hid k2.lt
      have D3 := Lib.hid k3.lt
      have D4 := Lib.hid hb0.size
      have hn : Below U5.heap.size U5 V6 := by rw [hV6]; exact below_a1 _ _
      have nk1 := k1.of hn
      have nk2 := k2.of hn
      have nk3 := k3.of hn
      have nhb0 := hb0.trans (hn.mono hb0.size)
      clear hn
      have k5 : Blk V6 U5.heap.size #[.int .i64 r5, .int .i64 r6] 24 := by rw [hV6]; exact (Blk.new _ _ _)
      clear k1 k2 k3
      clear hb0
      clear hV6
      have k1 := nk1
      clear nk1
      have k2 := nk2
      clear nk2
      have k3 := nk3
      clear nk3
      have hb0 := nhb0
      clear nhb0
      have c2_0 : V6.cell? ⟨(w.heap.size + 1), 0, none⟩ = some (.int .i64 0) := k2.cell 0
      have c2_1 : V6.cell? ⟨(w.heap.size + 1), 1, none⟩ = some (.int .i64 0) := k2.cell 1
      have f2_0 := k2.free 0
      have f2_1 := k2.free 1
      have l2 := k2.lt
      have c3_0 : V6.cell? ⟨(w.heap.size + 1 + 1), 0, none⟩ = some (.int .i64 0) := k3.cell 0
      have c3_1 : V6.cell? ⟨(w.heap.size + 1 + 1), 1, none⟩ = some (.int .i64 0) := k3.cell 1
      have f3_0 := k3.free 0
      have f3_1 := k3.free 1
      have l3 := k3.lt
      have p2_3 : (w.heap.size + 1) ≠ (w.heap.size + 1 + 1) := (by omega)
      have Kk1 := Lib.hid k1
      clear k1
      have Kk2 := Lib.hid k2
      clear k2
      have Kk3 := Lib.hid k3
      clear k3
      have Kk5 := Lib.hid k5
      clear k5
      go_region
      first | refine name_q ?_ | refine calls_w ?_ | refine name_world ?_ | refine list_world ?_ | refine post_world ?_
      intro U7 hU7
      clear c2_0 c2_1 f2_0 f2_1 l2 c3_0 c3_1 f3_0 f3_1 l3 p2_3
      have k1 : Blk U7 w.heap.size #[.int .i64 ax, .int .i64 ay, .int .i64 bx, .int .i64 b_y] 50 := by rw [hU7]; exact Blk.drew (blk_setL (blk_setL Kk1.out (by omega) 0 [.int .i64 0, .int .i64 0]) (by omega) 0 [.int .i64 0, .int .i64 0])
      clear Kk1
      have k2 : Blk U7 (w.heap.size + 1) #[.int .i64 0, .int .i64 0] 24 := by rw [hU7]; exact Blk.drew (blk_setL (blk_full _ [.int .i64 0, .int .i64 0] Kk2.out rfl) (by omega) 0 [.int .i64 0, .int .i64 0])
      clear Kk2
      have k3 : Blk U7 (w.heap.size + 1 + 1) #[.int .i64 0, .int .i64 0] 24 := by rw [hU7]; exact Blk.drew (blk_full _ [.int .i64 0, .int .i64 0] (blk_setL Kk3.out (by omega) 0 [.int .i64 0, .int .i64 0]) rfl)
      clear Kk3
      have k5 : Blk U7 U5.heap.size #[.int .i64 r5, .int .i64 r6] 24 := by rw [hU7]; exact Blk.drew (blk_setL (blk_setL Kk5.out (by have := D2.out; omega) 0 [.int .i64 0, .int .i64 0]) (by have := D3.out; omega) 0 [.int .i64 0, .int .i64 0])
      clear Kk5
      replace hb0 : Below w.heap.size w U7 := by rw [hU7]; exact Below.drew (blw_setL (blw_setL hb0 (by omega) 0 [.int .i64 0, .int .i64 0]) (by omega) 0 [.int .i64 0, .int .i64 0])
      clear hU7
      have e0 : 0 = R0 := by rw [← HR0.out]; unfold boa; (try rw [Hz1.out]); (try rw [Hr2.out]); (try rw [Hr3.out]); (try rw [Hr4.out]); (try rw [Hr5.out]); (try rw [Hr6.out]); (try rw [Hr7.out]); (try rw [hz8]); all_goals first | rfl | simp
      have e1 : 0 = R1 := by rw [← HR1.out]; unfold bob; (try rw [Hz1.out]); (try rw [Hr2.out]); (try rw [Hr3.out]); (try rw [Hr4.out]); (try rw [Hr5.out]); (try rw [Hr6.out]); (try rw [Hr7.out]); (try rw [hz8]); all_goals first | rfl | simp
      have e2 : 0 = R2 := by rw [← HR2.out]; unfold boc; (try rw [Hz1.out]); (try rw [Hr2.out]); (try rw [Hr3.out]); (try rw [Hr4.out]); (try rw [Hr5.out]); (try rw [Hr6.out]); (try rw [Hr7.out]); (try rw [hz8]); all_goals first | rfl | simp
      have e3 : 0 = R3 := by rw [← HR3.out]; unfold bod; (try rw [Hz1.out]); (try rw [Hr2.out]); (try rw [Hr3.out]); (try rw [Hr4.out]); (try rw [Hr5.out]); (try rw [Hr6.out]); (try rw [Hr7.out]); (try rw [hz8]); all_goals first | rfl | simp
      have e4 : r7 = R4 := by rw [← HR4.out]; unfold boe; (try rw [Hz1.out]); (try rw [Hr2.out]); (try rw [Hr3.out]); (try rw [Hr4.out]); (try rw [Hr5.out]); (try rw [Hr6.out]); (try rw [Hr7.out]); (try rw [hz8]); all_goals first | rfl | simp
      subst e0
      subst e1
      subst e2
      subst e3
      subst e4
      go_wp2
      have g2_0 : U7.cell? ⟨(w.heap.size + 1), 0, none⟩ = some (.int .i64 0) := k2.cell 0
      have g2_1 : U7.cell? ⟨(w.heap.size + 1), 1, none⟩ = some (.int .i64 0) := k2.cell 1
      have g3_0 : U7.cell? ⟨(w.heap.size + 1 + 1), 0, none⟩ = some (.int .i64 0) := k3.cell 0
      have g3_1 : U7.cell? ⟨(w.heap.size + 1 + 1), 1, none⟩ = some (.int .i64 0) := k3.cell 1
      clear k1 k2 k3 k5
      simp [bodyPost, results, Try.results48, go_sem, g2_0, g2_1, g3_0, g3_1]
      first | exact hb0 | exact ⟨rfl, hb0⟩
    · obtain rfl : r7 = 0 := by simpa using hz8
      clear hz8
      have c1_2 : U5.cell? ⟨w.heap.size, 2, none⟩ = some (.int .i64 bx) := k1.cell 2
      have c1_3 : U5.cell? ⟨w.heap.size, 3, none⟩ = some (.int .i64 b_y) := k1.cell 3
      have l1 := k1.lt
      go_wp2_with fail
      clear c1_2 c1_3 l1
      first | refine calls_w ?_ | refine name_world ?_ | refine list_world ?_ | refine post_world ?_
      intro V8 hV8
      clear k1
      have D5 := Lib.hid k2.lt
      have D6 := Lib.hid k3.lt
      have D7 := Lib.hid hb0.size
      have hn : Below U5.heap.size U5 V8 := by rw [hV8]; exact below_a1 _ _
      have nk2 := k2.of hn
      have nk3 := k3.of hn
      have nhb0 := hb0.trans (hn.mono hb0.size)
      clear hn
      have k6 : Blk V8 U5.heap.size #[.int .i64 r5, .int .i64 r6] 24 := by rw [hV8]; exact (Blk.new _ _ _)
      clear k2 k3
      clear hb0
      clear hV8
      have k2 := nk2
      clear nk2
      have k3 := nk3
      clear nk3
      have hb0 := nhb0
      clear nhb0
      obtain ⟨r9, hr9⟩ : ∃ o_o : Int, atx bx b_y = o_o := ⟨_, rfl⟩
      have Hr9 := Lib.hid hr9
      clear hr9
      obtain ⟨r10, hr10⟩ : ∃ o_o : Int, aty bx b_y = o_o := ⟨_, rfl⟩
      have Hr10 := Lib.hid hr10
      clear hr10
      obtain ⟨r11, hr11⟩ : ∃ o_o : Int, atw bx b_y = o_o := ⟨_, rfl⟩
      have Hr11 := Lib.hid hr11
      clear hr11
      refine (crAt_is bx b_y r9 r10 r11 Hr9.out Hr10.out Hr11.out _ibx _ib_y  _).mono ?_
      rintro e U9 ⟨rfl, hn⟩
      replace k2 := k2.of hn
      replace k3 := k3.of hn
      replace k6 := k6.of hn
      replace hb0 := hb0.trans (hn.mono hb0.size)
      clear hn
      go_wp2_with fail
      obtain ⟨r12, hr12⟩ : ∃ o_o : Int, pxOx r9 r10 r11 n = o_o := ⟨_, rfl⟩
      have Hr12 := Lib.hid hr12
      clear hr12
      obtain ⟨r13, hr13⟩ : ∃ o_o : Int, pxOy r9 r10 r11 n = o_o := ⟨_, rfl⟩
      have Hr13 := Lib.hid hr13
      clear hr13
      obtain ⟨r14, hr14⟩ : ∃ o_o : Int, pxOe r9 r10 r11 n = o_o := ⟨_, rfl⟩
      have Hr14 := Lib.hid hr14
      clear hr14
      refine (pxOf_is r9 r10 r11 n r12 r13 r14 Hr12.out Hr13.out Hr14.out (Hr9.out ▸ atx_in bx b_y _ibx _ib_y) (Hr10.out ▸ aty_in bx b_y _ibx _ib_y) (Hr11.out ▸ atw_in bx b_y _ibx _ib_y) _in  _).mono ?_
      rintro e U10 ⟨rfl, hn⟩
      replace k2 := k2.of hn
      replace k3 := k3.of hn
      replace k6 := k6.of hn
      replace hb0 := hb0.trans (hn.mono hb0.size)
      clear hn
      go_wp2_with fail
      first | refine calls_w ?_ | refine name_world ?_ | refine list_world ?_ | refine post_world ?_
      intro V11 hV11
      have D8 := Lib.hid k2.lt
      have D9 := Lib.hid k3.lt
      have D10 := Lib.hid k6.lt
      have D11 := Lib.hid hb0.size
      have hn : Below U10.heap.size U10 V11 := by rw [hV11]; exact below_a1 _ _
      have nk2 := k2.of hn
      have nk3 := k3.of hn
      have nk6 := k6.of hn
      have nhb0 := hb0.trans (hn.mono hb0.size)
      clear hn
      have k7 : Blk V11 U10.heap.size #[.int .i64 r12, .int .i64 r13] 24 := by rw [hV11]; exact (Blk.new _ _ _)
      clear k2 k3 k6
      clear hb0
      clear hV11
      have k2 := nk2
      clear nk2
      have k3 := nk3
      clear nk3
      have k6 := nk6
      clear nk6
      have hb0 := nhb0
      clear nhb0
      have c2_0 : V11.cell? ⟨(w.heap.size + 1), 0, none⟩ = some (.int .i64 0) := k2.cell 0
      have c2_1 : V11.cell? ⟨(w.heap.size + 1), 1, none⟩ = some (.int .i64 0) := k2.cell 1
      have f2_0 := k2.free 0
      have f2_1 := k2.free 1
      have l2 := k2.lt
      have c3_0 : V11.cell? ⟨(w.heap.size + 1 + 1), 0, none⟩ = some (.int .i64 0) := k3.cell 0
      have c3_1 : V11.cell? ⟨(w.heap.size + 1 + 1), 1, none⟩ = some (.int .i64 0) := k3.cell 1
      have f3_0 := k3.free 0
      have f3_1 := k3.free 1
      have l3 := k3.lt
      have c6_0 : V11.cell? ⟨U5.heap.size, 0, none⟩ = some (.int .i64 r5) := k6.cell 0
      have c6_1 : V11.cell? ⟨U5.heap.size, 1, none⟩ = some (.int .i64 r6) := k6.cell 1
      have l6 := k6.lt
      have c7_0 : V11.cell? ⟨U10.heap.size, 0, none⟩ = some (.int .i64 r12) := k7.cell 0
      have c7_1 : V11.cell? ⟨U10.heap.size, 1, none⟩ = some (.int .i64 r13) := k7.cell 1
      have l7 := k7.lt
      have p2_3 : (w.heap.size + 1) ≠ (w.heap.size + 1 + 1) := (by omega)
      have p6_2 : U5.heap.size ≠ (w.heap.size + 1) := (by have := D5.out; omega)
      have p6_3 : U5.heap.size ≠ (w.heap.size + 1 + 1) := (by have := D6.out; omega)
      have p7_2 : U10.heap.size ≠ (w.heap.size + 1) := (by have := D8.out; omega)
      have p7_3 : U10.heap.size ≠ (w.heap.size + 1 + 1) := (by have := D9.out; omega)
      have Kk2 := Lib.hid k2
      clear k2
      have Kk3 := Lib.hid k3
      clear k3
      have Kk6 := Lib.hid k6
      clear k6
      have Kk7 := Lib.hid k7
      clear k7
      refine Stay.wp_region_E (C := fun w_ => ∃ u : UpL [(w.heap.size + 1), (w.heap.size + 1 + 1)] V11, w_ = u.w) [(0, 0), (0, 1), (0, 2), (0, 3), (0, 4), (0, 5), (0, 6), (0, 7), (0, 8), (0, 9), (0, 10), (0, 11), (0, 12), (0, 13), (0, 14), (0, 15), (0, 16), (0, 17), (0, 18), (0, 19), (0, 20), (0, 21), (1, 22), (1, 23), (0, 24)] (by kernel_rfl) (by kernel_rfl) (fun _ _ d _ _ => by cases d <;> exact Iff.rfl) (upl (OutL.refl _ _).drew) ?_
      have ho : OutL [(w.heap.size + 1), (w.heap.size + 1 + 1)] V11 V11.drew := (OutL.refl _ _).drew
      have hb : Below V11.heap.size V11 V11.drew := (Below.refl _ _).drew
      iterate 22
        first | refine wpG_take0 rfl rfl ?_ | refine wpG_takeM0 rfl rfl (by simp) ?_
        go_big_quiet_step (rfl)
        refine wpQuiet_nil ?_
      refine wpG_do1 rfl ?_
      intro K hK
      go_wp2_with fail
      refine hK.out _ _ (upl (by repeat' (first | exact ho | exact OutL.refl _ _ | (simp; done) | refine OutL.drew ?_ | refine OutL.set ?_ ?_ _ _ _))) ?_
      clear hK K
      refine wpG_do1 rfl ?_
      intro K hK
      go_wp2_with fail
      refine hK.out _ _ (upl (by repeat' (first | exact ho | exact OutL.refl _ _ | (simp; done) | refine OutL.drew ?_ | refine OutL.set ?_ ?_ _ _ _))) ?_
      clear hK K
      first | refine wpG_take0 rfl rfl ?_ | refine wpG_takeM0 rfl rfl (by simp) ?_
      go_big_quiet_step (rfl)
      refine wpQuiet_nil ?_
      refine wpG_nil ?_
      refine list_world ?_
      intro U12 hU12
      clear c2_0 c2_1 f2_0 f2_1 l2 c3_0 c3_1 f3_0 f3_1 l3 c6_0 c6_1 l6 c7_0 c7_1 l7 p2_3 p6_2 p6_3 p7_2 p7_3
      have D12 := Lib.hid Kk2.out.lt
      have D13 := Lib.hid Kk3.out.lt
      have D14 := Lib.hid Kk6.out.lt
      have D15 := Lib.hid Kk7.out.lt
      have D16 := Lib.hid hb0.size
      have k2 : Blk U12 (w.heap.size + 1) #[.int .i64 ((min r5 r12)), .int .i64 ((min r6 r13))] 24 := by rw [hU12]; exact (blk_setL (blk_full _ [.int .i64 ((min r5 r12)), .int .i64 ((min r6 r13))] (Kk2.out.of hb) rfl) (by omega) 0 [.int .i64 ((max r5 r12)), .int .i64 ((max r6 r13))])
      have k3 : Blk U12 (w.heap.size + 1 + 1) #[.int .i64 ((max r5 r12)), .int .i64 ((max r6 r13))] 24 := by rw [hU12]; exact (blk_full _ [.int .i64 ((max r5 r12)), .int .i64 ((max r6 r13))] (blk_setL (Kk3.out.of hb) (by omega) 0 [.int .i64 ((min r5 r12)), .int .i64 ((min r6 r13))]) rfl)
      have k6 : Blk U12 U5.heap.size #[.int .i64 r5, .int .i64 r6] 24 := by rw [hU12]; exact (blk_setL (blk_setL (Kk6.out.of hb) (by have := D5.out; omega) 0 [.int .i64 ((min r5 r12)), .int .i64 ((min r6 r13))]) (by have := D6.out; omega) 0 [.int .i64 ((max r5 r12)), .int .i64 ((max r6 r13))])
      have k7 : Blk U12 U10.heap.size #[.int .i64 r12, .int .i64 r13] 24 := by rw [hU12]; exact (blk_setL (blk_setL (Kk7.out.of hb) (by have := D8.out; omega) 0 [.int .i64 ((min r5 r12)), .int .i64 ((min r6 r13))]) (by have := D9.out; omega) 0 [.int .i64 ((max r5 r12)), .int .i64 ((max r6 r13))])
      replace hb0 : Below w.heap.size w U12 := by rw [hU12]; exact (blw_setL (blw_setL (hb0.trans (hb.mono hb0.size)) (by omega) 0 [.int .i64 ((min r5 r12)), .int .i64 ((min r6 r13))]) (by omega) 0 [.int .i64 ((max r5 r12)), .int .i64 ((max r6 r13))])
      clear hU12 hb Kk2 Kk3 Kk6 Kk7
      have e0 : (min r5 r12) = R0 := by rw [← HR0.out]; unfold boa; (try rw [Hz1.out]); (try rw [Hr2.out]); (try rw [Hr3.out]); (try rw [Hr4.out]); (try rw [Hr5.out]); (try rw [Hr6.out]); (try rw [Hr7.out]); (try rw [Hr9.out]); (try rw [Hr10.out]); (try rw [Hr11.out]); (try rw [Hr12.out]); (try rw [Hr13.out]); (try rw [Hr14.out]); all_goals first | rfl | simp
      have e1 : (min r6 r13) = R1 := by rw [← HR1.out]; unfold bob; (try rw [Hz1.out]); (try rw [Hr2.out]); (try rw [Hr3.out]); (try rw [Hr4.out]); (try rw [Hr5.out]); (try rw [Hr6.out]); (try rw [Hr7.out]); (try rw [Hr9.out]); (try rw [Hr10.out]); (try rw [Hr11.out]); (try rw [Hr12.out]); (try rw [Hr13.out]); (try rw [Hr14.out]); all_goals first | rfl | simp
      have e2 : (max r5 r12) = R2 := by rw [← HR2.out]; unfold boc; (try rw [Hz1.out]); (try rw [Hr2.out]); (try rw [Hr3.out]); (try rw [Hr4.out]); (try rw [Hr5.out]); (try rw [Hr6.out]); (try rw [Hr7.out]); (try rw [Hr9.out]); (try rw [Hr10.out]); (try rw [Hr11.out]); (try rw [Hr12.out]); (try rw [Hr13.out]); (try rw [Hr14.out]); all_goals first | rfl | simp
      have e3 : (max r6 r13) = R3 := by rw [← HR3.out]; unfold bod; (try rw [Hz1.out]); (try rw [Hr2.out]); (try rw [Hr3.out]); (try rw [Hr4.out]); (try rw [Hr5.out]); (try rw [Hr6.out]); (try rw [Hr7.out]); (try rw [Hr9.out]); (try rw [Hr10.out]); (try rw [Hr11.out]); (try rw [Hr12.out]); (try rw [Hr13.out]); (try rw [Hr14.out]); all_goals first | rfl | simp
      have e4 : 0 = R4 := by rw [← HR4.out]; unfold boe; (try rw [Hz1.out]); (try rw [Hr2.out]); (try rw [Hr3.out]); (try rw [Hr4.out]); (try rw [Hr5.out]); (try rw [Hr6.out]); (try rw [Hr7.out]); (try rw [Hr9.out]); (try rw [Hr10.out]); (try rw [Hr11.out]); (try rw [Hr12.out]); (try rw [Hr13.out]); (try rw [Hr14.out]); all_goals first | rfl | simp
      subst e0
      subst e1
      subst e2
      subst e3
      subst e4
      go_wp2
      have g2_0 : U12.cell? ⟨(w.heap.size + 1), 0, none⟩ = some (.int .i64 ((min r5 r12))) := k2.cell 0
      have g2_1 : U12.cell? ⟨(w.heap.size + 1), 1, none⟩ = some (.int .i64 ((min r6 r13))) := k2.cell 1
      have g3_0 : U12.cell? ⟨(w.heap.size + 1 + 1), 0, none⟩ = some (.int .i64 ((max r5 r12))) := k3.cell 0
      have g3_1 : U12.cell? ⟨(w.heap.size + 1 + 1), 1, none⟩ = some (.int .i64 ((max r6 r13))) := k3.cell 1
      clear k2 k3 k6 k7
      simp [bodyPost, results, Try.results48, go_sem, g2_0, g2_1, g3_0, g3_1]
      first | exact hb0 | exact ⟨rfl, hb0⟩
end Go.Proofs.Ytlcbomjdbdgbmaa

namespace Go.Proofs.Ytlcbomjdbdgbmaa
open Go.RowKit

set_option maxRecDepth 100000 in
set_option maxHeartbeats 4000000 in

theorem PBx_1 (ax : Int) (ay : Int) (bx : Int) (b_y : Int) (cx : Int) (cy : Int) (n : Int)    (hP0 : prfx ax ay = ax) (hP1 : prfy ax ay = ay) (hP2 : prfx bx b_y = bx) (hP3 : prfy bx b_y = b_y) (hP4 : boa ax ay bx b_y n = 0) (hP5 : bob ax ay bx b_y n = 0) (hP6 : boc ax ay bx b_y n = 0) (hP7 : bod ax ay bx b_y n = 0) (hP8 : boe ax ay bx b_y n = 11) (hP9 : psz n = false) (_iax : In64 ax) (_iay : In64 ay) (_ibx : In64 bx) (_ib_y : In64 b_y) (_icx : In64 cx) (_icy : In64 cy) (_in : In64 n)  (w : World)  :
    Calls Try.prog 9 #[.agg #[.int .i64 ax, .int .i64 ay, .int .i64 bx, .int .i64 b_y], .agg #[.int .i64 cx, .int .i64 cy], .int .i64 n] w fun e w' => e = .returned (.bool true) ∧ Below w.heap.size w w' := by

  have HP0 := Lib.hid hP0
  clear hP0
  have HP1 := Lib.hid hP1
  clear hP1
  have HP2 := Lib.hid hP2
  clear hP2
  have HP3 := Lib.hid hP3
  clear hP3
  have HP4 := Lib.hid hP4
  clear hP4
  have HP5 := Lib.hid hP5
  clear hP5
  have HP6 := Lib.hid hP6
  clear hP6
  have HP7 := Lib.hid hP7
  clear hP7
  have HP8 := Lib.hid hP8
  clear hP8
  have HP9 := Lib.hid hP9
  clear hP9
  go_enter Try.func9, Try.ntmps9
  go_wp2_with fail
  first | refine calls_w ?_ | refine name_world ?_ | refine list_world ?_ | refine post_world ?_
  intro V1 hV1
  have hn : Below w.heap.size w V1 := by rw [hV1]; exact below_a2 _ _ _
  have nhb0 := hn
  have k1 : Blk V1 w.heap.size #[.int .i64 ax, .int .i64 ay, .int .i64 bx, .int .i64 b_y] 50 := by rw [hV1]; exact ((Blk.new _ _ _).alloc _)
  have k2 : Blk V1 (w.heap.size + 1) #[.int .i64 cx, .int .i64 cy] 24 := by rw [hV1]; exact (Blk.new1 _ _ _ _)
  clear hV1
  have hb0 := nhb0
  clear nhb0
  refine (pxBo_is ax ay bx b_y n 0 0 0 0 11 HP4.out HP5.out HP6.out HP7.out HP8.out _iax _iay _ibx _ib_y _in  _).mono ?_
  rintro e U2 ⟨rfl, hn⟩
  replace k1 := k1.of hn
  replace k2 := k2.of hn
  replace hb0 := hb0.trans (hn.mono hb0.size)
  clear hn
  go_wp2_with fail
  first | refine calls_w ?_ | refine name_world ?_ | refine list_world ?_ | refine post_world ?_
  intro V3 hV3
  have D1 := Lib.hid k1.lt
  have D2 := Lib.hid k2.lt
  have D3 := Lib.hid hb0.size
  have hn : Below U2.heap.size U2 V3 := by rw [hV3]; exact below_a2 _ _ _
  have nk1 := k1.of hn
  have nk2 := k2.of hn
  have nhb0 := hb0.trans (hn.mono hb0.size)
  clear hn
  have k3 : Blk V3 U2.heap.size #[.int .i64 0, .int .i64 0] 24 := by rw [hV3]; exact ((Blk.new _ _ _).alloc _)
  have k4 : Blk V3 (U2.heap.size + 1) #[.int .i64 0, .int .i64 0] 24 := by rw [hV3]; exact (Blk.new1 _ _ _ _)
  clear k1 k2
  clear hb0
  clear hV3
  have k1 := nk1
  clear nk1
  have k2 := nk2
  clear nk2
  have hb0 := nhb0
  clear nhb0
  refine (p15size_is n false HP9.out _in  _).mono ?_
  rintro e U4 ⟨rfl, hn⟩
  replace k1 := k1.of hn
  replace k2 := k2.of hn
  replace k3 := k3.of hn
  replace k4 := k4.of hn
  replace hb0 := hb0.trans (hn.mono hb0.size)
  clear hn
  have c3_0 : U4.cell? ⟨U2.heap.size, 0, none⟩ = some (.int .i64 0) := k3.cell 0
  have c3_1 : U4.cell? ⟨U2.heap.size, 1, none⟩ = some (.int .i64 0) := k3.cell 1
  have l3 := k3.lt
  have c4_0 : U4.cell? ⟨(U2.heap.size + 1), 0, none⟩ = some (.int .i64 0) := k4.cell 0
  have c4_1 : U4.cell? ⟨(U2.heap.size + 1), 1, none⟩ = some (.int .i64 0) := k4.cell 1
  have l4 := k4.lt
  go_wp2_with fail
  clear c3_0 c3_1 l3 c4_0 c4_1 l4
  refine (p15awake_any _).mono ?_
  rintro e U5 ⟨rfl, hn⟩
  replace k1 := k1.of hn
  replace k2 := k2.of hn
  replace k3 := k3.of hn
  replace k4 := k4.of hn
  replace hb0 := hb0.trans (hn.mono hb0.size)
  clear hn
  go_wp2
  first | go_ret | go_ret2
  exact ⟨by first | rfl | (simp; done) | (simp; assumption), hb0⟩

set_option maxRecDepth 100000 in
set_option maxHeartbeats 4000000 in

theorem PBx_2 (ax : Int) (ay : Int) (bx : Int) (b_y : Int) (cx : Int) (cy : Int) (n : Int)    (hP0 : prfx ax ay = ax) (hP1 : prfy ax ay = ay) (hP2 : prfx bx b_y = bx) (hP3 : prfy bx b_y = b_y) (hP4 : boa ax ay bx b_y n = 0) (hP5 : bob ax ay bx b_y n = 0) (hP6 : boc ax ay bx b_y n = 0) (hP7 : bod ax ay bx b_y n = 0) (hP8 : boe ax ay bx b_y n = 11) (hP9 : psz n = true) (hP10 : rp ax ay = false) (_iax : In64 ax) (_iay : In64 ay) (_ibx : In64 bx) (_ib_y : In64 b_y) (_icx : In64 cx) (_icy : In64 cy) (_in : In64 n)  (w : World)  :
    Calls Try.prog 9 #[.agg #[.int .i64 ax, .int .i64 ay, .int .i64 bx, .int .i64 b_y], .agg #[.int .i64 cx, .int .i64 cy], .int .i64 n] w fun e w' => e = .returned (.bool true) ∧ Below w.heap.size w w' := by

  have HP0 := Lib.hid hP0
  clear hP0
  have HP1 := Lib.hid hP1
  clear hP1
  have HP2 := Lib.hid hP2
  clear hP2
  have HP3 := Lib.hid hP3
  clear hP3
  have HP4 := Lib.hid hP4
  clear hP4
  have HP5 := Lib.hid hP5
  clear hP5
  have HP6 := Lib.hid hP6
  clear hP6
  have HP7 := Lib.hid hP7
  clear hP7
  have HP8 := Lib.hid hP8
  clear hP8
  have HP9 := Lib.hid hP9
  clear hP9
  have HP10 := Lib.hid hP10
  clear hP10
  go_enter Try.func9, Try.ntmps9
  go_wp2_with fail
  first | refine calls_w ?_ | refine name_world ?_ | refine list_world ?_ | refine post_world ?_
  intro V1 hV1
  have hn : Below w.heap.size w V1 := by rw [hV1]; exact below_a2 _ _ _
  have nhb0 := hn
  have k1 : Blk V1 w.heap.size #[.int .i64 ax, .int .i64 ay, .int .i64 bx, .int .i64 b_y] 50 := by rw [hV1]; exact ((Blk.new _ _ _).alloc _)
  have k2 : Blk V1 (w.heap.size + 1) #[.int .i64 cx, .int .i64 cy] 24 := by rw [hV1]; exact (Blk.new1 _ _ _ _)
  clear hV1
  have hb0 := nhb0
  clear nhb0
  refine (pxBo_is ax ay bx b_y n 0 0 0 0 11 HP4.out HP5.out HP6.out HP7.out HP8.out _iax _iay _ibx _ib_y _in  _).mono ?_
  rintro e U2 ⟨rfl, hn⟩
  replace k1 := k1.of hn
  replace k2 := k2.of hn
  replace hb0 := hb0.trans (hn.mono hb0.size)
  clear hn
  go_wp2_with fail
  first | refine calls_w ?_ | refine name_world ?_ | refine list_world ?_ | refine post_world ?_
  intro V3 hV3
  have D1 := Lib.hid k1.lt
  have D2 := Lib.hid k2.lt
  have D3 := Lib.hid hb0.size
  have hn : Below U2.heap.size U2 V3 := by rw [hV3]; exact below_a2 _ _ _
  have nk1 := k1.of hn
  have nk2 := k2.of hn
  have nhb0 := hb0.trans (hn.mono hb0.size)
  clear hn
  have k3 : Blk V3 U2.heap.size #[.int .i64 0, .int .i64 0] 24 := by rw [hV3]; exact ((Blk.new _ _ _).alloc _)
  have k4 : Blk V3 (U2.heap.size + 1) #[.int .i64 0, .int .i64 0] 24 := by rw [hV3]; exact (Blk.new1 _ _ _ _)
  clear k1 k2
  clear hb0
  clear hV3
  have k1 := nk1
  clear nk1
  have k2 := nk2
  clear nk2
  have hb0 := nhb0
  clear nhb0
  refine (p15size_is n true HP9.out _in  _).mono ?_
  rintro e U4 ⟨rfl, hn⟩
  replace k1 := k1.of hn
  replace k2 := k2.of hn
  replace k3 := k3.of hn
  replace k4 := k4.of hn
  replace hb0 := hb0.trans (hn.mono hb0.size)
  clear hn
  have c1_0 : U4.cell? ⟨w.heap.size, 0, none⟩ = some (.int .i64 ax) := k1.cell 0
  have c1_1 : U4.cell? ⟨w.heap.size, 1, none⟩ = some (.int .i64 ay) := k1.cell 1
  have l1 := k1.lt
  go_wp2_with fail
  clear c1_0 c1_1 l1
  refine (p15ref_is ax ay ax ay HP0.out HP1.out _iax _iay  _).mono ?_
  rintro e U5 ⟨rfl, hn⟩
  replace k1 := k1.of hn
  replace k2 := k2.of hn
  replace k3 := k3.of hn
  replace k4 := k4.of hn
  replace hb0 := hb0.trans (hn.mono hb0.size)
  clear hn
  go_wp2_with fail
  refine (rRight_v ax ay false HP10.out _).mono ?_
  rintro e U6 ⟨rfl, hn⟩
  replace k1 := k1.of hn
  replace k2 := k2.of hn
  replace k3 := k3.of hn
  replace k4 := k4.of hn
  replace hb0 := hb0.trans (hn.mono hb0.size)
  clear hn
  have c3_0 : U6.cell? ⟨U2.heap.size, 0, none⟩ = some (.int .i64 0) := k3.cell 0
  have c3_1 : U6.cell? ⟨U2.heap.size, 1, none⟩ = some (.int .i64 0) := k3.cell 1
  have l3 := k3.lt
  have c4_0 : U6.cell? ⟨(U2.heap.size + 1), 0, none⟩ = some (.int .i64 0) := k4.cell 0
  have c4_1 : U6.cell? ⟨(U2.heap.size + 1), 1, none⟩ = some (.int .i64 0) := k4.cell 1
  have l4 := k4.lt
  go_wp2_with fail
  clear c3_0 c3_1 l3 c4_0 c4_1 l4
  refine (p15awake_any _).mono ?_
  rintro e U7 ⟨rfl, hn⟩
  replace k1 := k1.of hn
  replace k2 := k2.of hn
  replace k3 := k3.of hn
  replace k4 := k4.of hn
  replace hb0 := hb0.trans (hn.mono hb0.size)
  clear hn
  go_wp2
  first | go_ret | go_ret2
  exact ⟨by first | rfl | (simp; done) | (simp; assumption), hb0⟩

set_option maxRecDepth 100000 in
set_option maxHeartbeats 4000000 in

theorem PBx_3 (ax : Int) (ay : Int) (bx : Int) (b_y : Int) (cx : Int) (cy : Int) (n : Int)    (hP0 : prfx ax ay = ax) (hP1 : prfy ax ay = ay) (hP2 : prfx bx b_y = bx) (hP3 : prfy bx b_y = b_y) (hP4 : boa ax ay bx b_y n = 0) (hP5 : bob ax ay bx b_y n = 0) (hP6 : boc ax ay bx b_y n = 0) (hP7 : bod ax ay bx b_y n = 0) (hP8 : boe ax ay bx b_y n = 11) (hP9 : psz n = true) (hP10 : rp ax ay = true) (hP11 : rp bx b_y = false) (_iax : In64 ax) (_iay : In64 ay) (_ibx : In64 bx) (_ib_y : In64 b_y) (_icx : In64 cx) (_icy : In64 cy) (_in : In64 n)  (w : World)  :
    Calls Try.prog 9 #[.agg #[.int .i64 ax, .int .i64 ay, .int .i64 bx, .int .i64 b_y], .agg #[.int .i64 cx, .int .i64 cy], .int .i64 n] w fun e w' => e = .returned (.bool true) ∧ Below w.heap.size w w' := by

  have HP0 := Lib.hid hP0
  clear hP0
  have HP1 := Lib.hid hP1
  clear hP1
  have HP2 := Lib.hid hP2
  clear hP2
  have HP3 := Lib.hid hP3
  clear hP3
  have HP4 := Lib.hid hP4
  clear hP4
  have HP5 := Lib.hid hP5
  clear hP5
  have HP6 := Lib.hid hP6
  clear hP6
  have HP7 := Lib.hid hP7
  clear hP7
  have HP8 := Lib.hid hP8
  clear hP8
  have HP9 := Lib.hid hP9
  clear hP9
  have HP10 := Lib.hid hP10
  clear hP10
  have HP11 := Lib.hid hP11
  clear hP11
  go_enter Try.func9, Try.ntmps9
  go_wp2_with fail
  first | refine calls_w ?_ | refine name_world ?_ | refine list_world ?_ | refine post_world ?_
  intro V1 hV1
  have hn : Below w.heap.size w V1 := by rw [hV1]; exact below_a2 _ _ _
  have nhb0 := hn
  have k1 : Blk V1 w.heap.size #[.int .i64 ax, .int .i64 ay, .int .i64 bx, .int .i64 b_y] 50 := by rw [hV1]; exact ((Blk.new _ _ _).alloc _)
  have k2 : Blk V1 (w.heap.size + 1) #[.int .i64 cx, .int .i64 cy] 24 := by rw [hV1]; exact (Blk.new1 _ _ _ _)
  clear hV1
  have hb0 := nhb0
  clear nhb0
  refine (pxBo_is ax ay bx b_y n 0 0 0 0 11 HP4.out HP5.out HP6.out HP7.out HP8.out _iax _iay _ibx _ib_y _in  _).mono ?_
  rintro e U2 ⟨rfl, hn⟩
  replace k1 := k1.of hn
  replace k2 := k2.of hn
  replace hb0 := hb0.trans (hn.mono hb0.size)
  clear hn
  go_wp2_with fail
  first | refine calls_w ?_ | refine name_world ?_ | refine list_world ?_ | refine post_world ?_
  intro V3 hV3
  have D1 := Lib.hid k1.lt
  have D2 := Lib.hid k2.lt
  have D3 := Lib.hid hb0.size
  have hn : Below U2.heap.size U2 V3 := by rw [hV3]; exact below_a2 _ _ _
  have nk1 := k1.of hn
  have nk2 := k2.of hn
  have nhb0 := hb0.trans (hn.mono hb0.size)
  clear hn
  have k3 : Blk V3 U2.heap.size #[.int .i64 0, .int .i64 0] 24 := by rw [hV3]; exact ((Blk.new _ _ _).alloc _)
  have k4 : Blk V3 (U2.heap.size + 1) #[.int .i64 0, .int .i64 0] 24 := by rw [hV3]; exact (Blk.new1 _ _ _ _)
  clear k1 k2
  clear hb0
  clear hV3
  have k1 := nk1
  clear nk1
  have k2 := nk2
  clear nk2
  have hb0 := nhb0
  clear nhb0
  refine (p15size_is n true HP9.out _in  _).mono ?_
  rintro e U4 ⟨rfl, hn⟩
  replace k1 := k1.of hn
  replace k2 := k2.of hn
  replace k3 := k3.of hn
  replace k4 := k4.of hn
  replace hb0 := hb0.trans (hn.mono hb0.size)
  clear hn
  have c1_0 : U4.cell? ⟨w.heap.size, 0, none⟩ = some (.int .i64 ax) := k1.cell 0
  have c1_1 : U4.cell? ⟨w.heap.size, 1, none⟩ = some (.int .i64 ay) := k1.cell 1
  have l1 := k1.lt
  go_wp2_with fail
  clear c1_0 c1_1 l1
  refine (p15ref_is ax ay ax ay HP0.out HP1.out _iax _iay  _).mono ?_
  rintro e U5 ⟨rfl, hn⟩
  replace k1 := k1.of hn
  replace k2 := k2.of hn
  replace k3 := k3.of hn
  replace k4 := k4.of hn
  replace hb0 := hb0.trans (hn.mono hb0.size)
  clear hn
  go_wp2_with fail
  refine (rRight_v ax ay true HP10.out _).mono ?_
  rintro e U6 ⟨rfl, hn⟩
  replace k1 := k1.of hn
  replace k2 := k2.of hn
  replace k3 := k3.of hn
  replace k4 := k4.of hn
  replace hb0 := hb0.trans (hn.mono hb0.size)
  clear hn
  have c1_2 : U6.cell? ⟨w.heap.size, 2, none⟩ = some (.int .i64 bx) := k1.cell 2
  have c1_3 : U6.cell? ⟨w.heap.size, 3, none⟩ = some (.int .i64 b_y) := k1.cell 3
  have l1 := k1.lt
  go_wp2_with fail
  clear c1_2 c1_3 l1
  refine (p15ref_is bx b_y bx b_y HP2.out HP3.out _ibx _ib_y  _).mono ?_
  rintro e U7 ⟨rfl, hn⟩
  replace k1 := k1.of hn
  replace k2 := k2.of hn
  replace k3 := k3.of hn
  replace k4 := k4.of hn
  replace hb0 := hb0.trans (hn.mono hb0.size)
  clear hn
  go_wp2_with fail
  refine (rRight_v bx b_y false HP11.out _).mono ?_
  rintro e U8 ⟨rfl, hn⟩
  replace k1 := k1.of hn
  replace k2 := k2.of hn
  replace k3 := k3.of hn
  replace k4 := k4.of hn
  replace hb0 := hb0.trans (hn.mono hb0.size)
  clear hn
  have c3_0 : U8.cell? ⟨U2.heap.size, 0, none⟩ = some (.int .i64 0) := k3.cell 0
  have c3_1 : U8.cell? ⟨U2.heap.size, 1, none⟩ = some (.int .i64 0) := k3.cell 1
  have l3 := k3.lt
  have c4_0 : U8.cell? ⟨(U2.heap.size + 1), 0, none⟩ = some (.int .i64 0) := k4.cell 0
  have c4_1 : U8.cell? ⟨(U2.heap.size + 1), 1, none⟩ = some (.int .i64 0) := k4.cell 1
  have l4 := k4.lt
  go_wp2_with fail
  clear c3_0 c3_1 l3 c4_0 c4_1 l4
  refine (p15awake_any _).mono ?_
  rintro e U9 ⟨rfl, hn⟩
  replace k1 := k1.of hn
  replace k2 := k2.of hn
  replace k3 := k3.of hn
  replace k4 := k4.of hn
  replace hb0 := hb0.trans (hn.mono hb0.size)
  clear hn
  go_wp2
  first | go_ret | go_ret2
  exact ⟨by first | rfl | (simp; done) | (simp; assumption), hb0⟩

set_option maxRecDepth 100000 in
set_option maxHeartbeats 4000000 in

theorem PBx_4 (ax : Int) (ay : Int) (bx : Int) (b_y : Int) (cx : Int) (cy : Int) (n : Int) (kx : Int) (ky : Int) (lx : Int) (ly : Int)   (hP0 : prfx ax ay = ax) (hP1 : prfy ax ay = ay) (hP2 : prfx bx b_y = bx) (hP3 : prfy bx b_y = b_y) (hP4 : boa ax ay bx b_y n = (min kx lx)) (hP5 : bob ax ay bx b_y n = (min ky ly)) (hP6 : boc ax ay bx b_y n = (max kx lx)) (hP7 : bod ax ay bx b_y n = (max ky ly)) (hP8 : boe ax ay bx b_y n = 0) (hP9 : psz n = true) (hP10 : rp ax ay = true) (hP11 : rp bx b_y = true) (hP12 : atx ax ay = ax) (hP13 : aty ax ay = ay) (hP14 : atw ax ay = 1) (hP15 : pxOx ax ay 1 n = kx) (hP16 : pxOy ax ay 1 n = ky) (hP17 : pxOe ax ay 1 n = 0) (hP18 : pxM ax ay bx b_y kx ky n = true) (hP19 : atx bx b_y = bx) (hP20 : aty bx b_y = b_y) (hP21 : atw bx b_y = 1) (hP22 : pxOx bx b_y 1 n = lx) (hP23 : pxOy bx b_y 1 n = ly) (hP24 : pxOe bx b_y 1 n = 0) (hP25 : pxM ax ay bx b_y lx ly n = true) (hP26 : pxM ax ay bx b_y cx cy n = false) (_ikx : In64 kx) (_iky : In64 ky) (_ilx : In64 lx) (_ily : In64 ly) (_iax : In64 ax) (_iay : In64 ay) (_ibx : In64 bx) (_ib_y : In64 b_y) (_icx : In64 cx) (_icy : In64 cy) (_in : In64 n)  (w : World)  :
    Calls Try.prog 9 #[.agg #[.int .i64 ax, .int .i64 ay, .int .i64 bx, .int .i64 b_y], .agg #[.int .i64 cx, .int .i64 cy], .int .i64 n] w fun e w' => e = .returned (.bool true) ∧ Below w.heap.size w w' := by

  have HP0 := Lib.hid hP0
  clear hP0
  have HP1 := Lib.hid hP1
  clear hP1
  have HP2 := Lib.hid hP2
  clear hP2
  have HP3 := Lib.hid hP3
  clear hP3
  have HP4 := Lib.hid hP4
  clear hP4
  have HP5 := Lib.hid hP5
  clear hP5
  have HP6 := Lib.hid hP6
  clear hP6
  have HP7 := Lib.hid hP7
  clear hP7
  have HP8 := Lib.hid hP8
  clear hP8
  have HP9 := Lib.hid hP9
  clear hP9
  have HP10 := Lib.hid hP10
  clear hP10
  have HP11 := Lib.hid hP11
  clear hP11
  have HP12 := Lib.hid hP12
  clear hP12
  have HP13 := Lib.hid hP13
  clear hP13
  have HP14 := Lib.hid hP14
  clear hP14
  have HP15 := Lib.hid hP15
  clear hP15
  have HP16 := Lib.hid hP16
  clear hP16
  have HP17 := Lib.hid hP17
  clear hP17
  have HP18 := Lib.hid hP18
  clear hP18
  have HP19 := Lib.hid hP19
  clear hP19
  have HP20 := Lib.hid hP20
  clear hP20
  have HP21 := Lib.hid hP21
  clear hP21
  have HP22 := Lib.hid hP22
  clear hP22
  have HP23 := Lib.hid hP23
  clear hP23
  have HP24 := Lib.hid hP24
  clear hP24
  have HP25 := Lib.hid hP25
  clear hP25
  have HP26 := Lib.hid hP26
  clear hP26
  go_enter Try.func9, Try.ntmps9
  go_wp2_with fail
  first | refine calls_w ?_ | refine name_world ?_ | refine list_world ?_ | refine post_world ?_
  intro V1 hV1
  have hn : Below w.heap.size w V1 := by rw [hV1]; exact below_a2 _ _ _
  have nhb0 := hn
  have k1 : Blk V1 w.heap.size #[.int .i64 ax, .int .i64 ay, .int .i64 bx, .int .i64 b_y] 50 := by rw [hV1]; exact ((Blk.new _ _ _).alloc _)
  have k2 : Blk V1 (w.heap.size + 1) #[.int .i64 cx, .int .i64 cy] 24 := by rw [hV1]; exact (Blk.new1 _ _ _ _)
  clear hV1
  have hb0 := nhb0
  clear nhb0
  refine (pxBo_is ax ay bx b_y n (min kx lx) (min ky ly) (max kx lx) (max ky ly) 0 HP4.out HP5.out HP6.out HP7.out HP8.out _iax _iay _ibx _ib_y _in  _).mono ?_
  rintro e U2 ⟨rfl, hn⟩
  replace k1 := k1.of hn
  replace k2 := k2.of hn
  replace hb0 := hb0.trans (hn.mono hb0.size)
  clear hn
  go_wp2_with fail
  first | refine calls_w ?_ | refine name_world ?_ | refine list_world ?_ | refine post_world ?_
  intro V3 hV3
  have D1 := Lib.hid k1.lt
  have D2 := Lib.hid k2.lt
  have D3 := Lib.hid hb0.size
  have hn : Below U2.heap.size U2 V3 := by rw [hV3]; exact below_a2 _ _ _
  have nk1 := k1.of hn
  have nk2 := k2.of hn
  have nhb0 := hb0.trans (hn.mono hb0.size)
  clear hn
  have k3 : Blk V3 U2.heap.size #[.int .i64 ((min kx lx)), .int .i64 ((min ky ly))] 24 := by rw [hV3]; exact ((Blk.new _ _ _).alloc _)
  have k4 : Blk V3 (U2.heap.size + 1) #[.int .i64 ((max kx lx)), .int .i64 ((max ky ly))] 24 := by rw [hV3]; exact (Blk.new1 _ _ _ _)
  clear k1 k2
  clear hb0
  clear hV3
  have k1 := nk1
  clear nk1
  have k2 := nk2
  clear nk2
  have hb0 := nhb0
  clear nhb0
  refine (p15size_is n true HP9.out _in  _).mono ?_
  rintro e U4 ⟨rfl, hn⟩
  replace k1 := k1.of hn
  replace k2 := k2.of hn
  replace k3 := k3.of hn
  replace k4 := k4.of hn
  replace hb0 := hb0.trans (hn.mono hb0.size)
  clear hn
  have c1_0 : U4.cell? ⟨w.heap.size, 0, none⟩ = some (.int .i64 ax) := k1.cell 0
  have c1_1 : U4.cell? ⟨w.heap.size, 1, none⟩ = some (.int .i64 ay) := k1.cell 1
  have l1 := k1.lt
  go_wp2_with fail
  clear c1_0 c1_1 l1
  refine (p15ref_is ax ay ax ay HP0.out HP1.out _iax _iay  _).mono ?_
  rintro e U5 ⟨rfl, hn⟩
  replace k1 := k1.of hn
  replace k2 := k2.of hn
  replace k3 := k3.of hn
  replace k4 := k4.of hn
  replace hb0 := hb0.trans (hn.mono hb0.size)
  clear hn
  go_wp2_with fail
  refine (rRight_v ax ay true HP10.out _).mono ?_
  rintro e U6 ⟨rfl, hn⟩
  replace k1 := k1.of hn
  replace k2 := k2.of hn
  replace k3 := k3.of hn
  replace k4 := k4.of hn
  replace hb0 := hb0.trans (hn.mono hb0.size)
  clear hn
  have c1_2 : U6.cell? ⟨w.heap.size, 2, none⟩ = some (.int .i64 bx) := k1.cell 2
  have c1_3 : U6.cell? ⟨w.heap.size, 3, none⟩ = some (.int .i64 b_y) := k1.cell 3
  have l1 := k1.lt
  go_wp2_with fail
  clear c1_2 c1_3 l1
  refine (p15ref_is bx b_y bx b_y HP2.out HP3.out _ibx _ib_y  _).mono ?_
  rintro e U7 ⟨rfl, hn⟩
  replace k1 := k1.of hn
  replace k2 := k2.of hn
  replace k3 := k3.of hn
  replace k4 := k4.of hn
  replace hb0 := hb0.trans (hn.mono hb0.size)
  clear hn
  go_wp2_with fail
  refine (rRight_v bx b_y true HP11.out _).mono ?_
  rintro e U8 ⟨rfl, hn⟩
  replace k1 := k1.of hn
  replace k2 := k2.of hn
  replace k3 := k3.of hn
  replace k4 := k4.of hn
  replace hb0 := hb0.trans (hn.mono hb0.size)
  clear hn
  have c1_0 : U8.cell? ⟨w.heap.size, 0, none⟩ = some (.int .i64 ax) := k1.cell 0
  have c1_1 : U8.cell? ⟨w.heap.size, 1, none⟩ = some (.int .i64 ay) := k1.cell 1
  have l1 := k1.lt
  go_wp2_with fail
  clear c1_0 c1_1 l1
  refine (crAt_is ax ay ax ay 1 HP12.out HP13.out HP14.out _iax _iay  _).mono ?_
  rintro e U9 ⟨rfl, hn⟩
  replace k1 := k1.of hn
  replace k2 := k2.of hn
  replace k3 := k3.of hn
  replace k4 := k4.of hn
  replace hb0 := hb0.trans (hn.mono hb0.size)
  clear hn
  go_wp2_with fail
  refine (pxOf_is ax ay 1 n kx ky 0 HP15.out HP16.out HP17.out (in64_I' _iax) (in64_I' _iay) (by unfold InI b255; omega) _in  _).mono ?_
  rintro e U10 ⟨rfl, hn⟩
  replace k1 := k1.of hn
  replace k2 := k2.of hn
  replace k3 := k3.of hn
  replace k4 := k4.of hn
  replace hb0 := hb0.trans (hn.mono hb0.size)
  clear hn
  have c1_2 : U10.cell? ⟨w.heap.size, 2, none⟩ = some (.int .i64 bx) := k1.cell 2
  have c1_3 : U10.cell? ⟨w.heap.size, 3, none⟩ = some (.int .i64 b_y) := k1.cell 3
  have l1 := k1.lt
  go_wp2_with fail
  clear c1_2 c1_3 l1
  first | refine calls_w ?_ | refine name_world ?_ | refine list_world ?_ | refine post_world ?_
  intro V11 hV11
  have D4 := Lib.hid k1.lt
  have D5 := Lib.hid k2.lt
  have D6 := Lib.hid k3.lt
  have D7 := Lib.hid k4.lt
  have D8 := Lib.hid hb0.size
  have hn : Below U10.heap.size U10 V11 := by rw [hV11]; exact below_a1 _ _
  have nk1 := k1.of hn
  have nk2 := k2.of hn
  have nk3 := k3.of hn
  have nk4 := k4.of hn
  have nhb0 := hb0.trans (hn.mono hb0.size)
  clear hn
  have k5 : Blk V11 U10.heap.size #[.int .i64 kx, .int .i64 ky] 24 := by rw [hV11]; exact (Blk.new _ _ _)
  clear k1 k2 k3 k4
  clear hb0
  clear hV11
  have k1 := nk1
  clear nk1
  have k2 := nk2
  clear nk2
  have k3 := nk3
  clear nk3
  have k4 := nk4
  clear nk4
  have hb0 := nhb0
  clear nhb0
  refine (crAt_is bx b_y bx b_y 1 HP19.out HP20.out HP21.out _ibx _ib_y  _).mono ?_
  rintro e U12 ⟨rfl, hn⟩
  replace k1 := k1.of hn
  replace k2 := k2.of hn
  replace k3 := k3.of hn
  replace k4 := k4.of hn
  replace k5 := k5.of hn
  replace hb0 := hb0.trans (hn.mono hb0.size)
  clear hn
  go_wp2_with fail
  refine (pxOf_is bx b_y 1 n lx ly 0 HP22.out HP23.out HP24.out (in64_I' _ibx) (in64_I' _ib_y) (by unfold InI b255; omega) _in  _).mono ?_
  rintro e U13 ⟨rfl, hn⟩
  replace k1 := k1.of hn
  replace k2 := k2.of hn
  replace k3 := k3.of hn
  replace k4 := k4.of hn
  replace k5 := k5.of hn
  replace hb0 := hb0.trans (hn.mono hb0.size)
  clear hn
  obtain ⟨z1, hz1⟩ : ∃ o_o : Bool, decide ((min kx lx) ≤ cx) = o_o := ⟨_, rfl⟩
  cases z1
  · have c1_0 : U13.cell? ⟨w.heap.size, 0, none⟩ = some (.int .i64 ax) := k1.cell 0
    have c1_1 : U13.cell? ⟨w.heap.size, 1, none⟩ = some (.int .i64 ay) := k1.cell 1
    have c1_2 : U13.cell? ⟨w.heap.size, 2, none⟩ = some (.int .i64 bx) := k1.cell 2
    have c1_3 : U13.cell? ⟨w.heap.size, 3, none⟩ = some (.int .i64 b_y) := k1.cell 3
    have l1 := k1.lt
    have c2_0 : U13.cell? ⟨(w.heap.size + 1), 0, none⟩ = some (.int .i64 cx) := k2.cell 0
    have c2_1 : U13.cell? ⟨(w.heap.size + 1), 1, none⟩ = some (.int .i64 cy) := k2.cell 1
    have l2 := k2.lt
    have l2_0 : w.heap.size < U13.heap.size := by have := k2.lt; omega
    have c3_0 : U13.cell? ⟨U2.heap.size, 0, none⟩ = some (.int .i64 ((min kx lx))) := k3.cell 0
    have c3_1 : U13.cell? ⟨U2.heap.size, 1, none⟩ = some (.int .i64 ((min ky ly))) := k3.cell 1
    have l3 := k3.lt
    have c4_0 : U13.cell? ⟨(U2.heap.size + 1), 0, none⟩ = some (.int .i64 ((max kx lx))) := k4.cell 0
    have c4_1 : U13.cell? ⟨(U2.heap.size + 1), 1, none⟩ = some (.int .i64 ((max ky ly))) := k4.cell 1
    have l4 := k4.lt
    have l4_0 : U2.heap.size < U13.heap.size := by have := k4.lt; omega
    have c5_0 : U13.cell? ⟨U10.heap.size, 0, none⟩ = some (.int .i64 kx) := k5.cell 0
    have c5_1 : U13.cell? ⟨U10.heap.size, 1, none⟩ = some (.int .i64 ky) := k5.cell 1
    have l5 := k5.lt
    go_wp2_with fail
    clear c1_0 c1_1 c1_2 c1_3 l1 c2_0 c2_1 l2 l2_0 c3_0 c3_1 l3 c4_0 c4_1 l4 l4_0 c5_0 c5_1 l5
    first | refine calls_w ?_ | refine name_world ?_ | refine list_world ?_ | refine post_world ?_
    intro V14 hV14
    clear k2 k3 k4
    have D9 := Lib.hid k1.lt
    have D10 := Lib.hid k5.lt
    have D11 := Lib.hid hb0.size
    have hn : Below U13.heap.size U13 V14 := by rw [hV14]; exact below_a1 _ _
    have nk1 := k1.of hn
    have nk5 := k5.of hn
    have nhb0 := hb0.trans (hn.mono hb0.size)
    clear hn
    have k7 : Blk V14 U13.heap.size #[.int .i64 lx, .int .i64 ly] 24 := by rw [hV14]; exact (Blk.new _ _ _)
    clear k1 k5
    clear hb0
    clear hV14
    have k1 := nk1
    clear nk1
    have k5 := nk5
    clear nk5
    have hb0 := nhb0
    clear nhb0
    refine (pxMt_is ax ay bx b_y cx cy n false HP26.out _iax _iay _ibx _ib_y _icx _icy _in  _).mono ?_
    rintro e U15 ⟨rfl, hn⟩
    replace k1 := k1.of hn
    replace k5 := k5.of hn
    replace k7 := k7.of hn
    replace hb0 := hb0.trans (hn.mono hb0.size)
    clear hn
    have c1_0 : U15.cell? ⟨w.heap.size, 0, none⟩ = some (.int .i64 ax) := k1.cell 0
    have c1_1 : U15.cell? ⟨w.heap.size, 1, none⟩ = some (.int .i64 ay) := k1.cell 1
    have c1_2 : U15.cell? ⟨w.heap.size, 2, none⟩ = some (.int .i64 bx) := k1.cell 2
    have c1_3 : U15.cell? ⟨w.heap.size, 3, none⟩ = some (.int .i64 b_y) := k1.cell 3
    have l1 := k1.lt
    have c5_0 : U15.cell? ⟨U10.heap.size, 0, none⟩ = some (.int .i64 kx) := k5.cell 0
    have c5_1 : U15.cell? ⟨U10.heap.size, 1, none⟩ = some (.int .i64 ky) := k5.cell 1
    have l5 := k5.lt
    go_wp2_with fail
    clear c1_0 c1_1 c1_2 c1_3 l1 c5_0 c5_1 l5
    refine (pxMt_is ax ay bx b_y kx ky n true HP18.out _iax _iay _ibx _ib_y _ikx _iky _in  _).mono ?_
    rintro e U16 ⟨rfl, hn⟩
    clear k5
    replace k1 := k1.of hn
    replace k7 := k7.of hn
    replace hb0 := hb0.trans (hn.mono hb0.size)
    clear hn
    have c1_0 : U16.cell? ⟨w.heap.size, 0, none⟩ = some (.int .i64 ax) := k1.cell 0
    have c1_1 : U16.cell? ⟨w.heap.size, 1, none⟩ = some (.int .i64 ay) := k1.cell 1
    have c1_2 : U16.cell? ⟨w.heap.size, 2, none⟩ = some (.int .i64 bx) := k1.cell 2
    have c1_3 : U16.cell? ⟨w.heap.size, 3, none⟩ = some (.int .i64 b_y) := k1.cell 3
    have l1 := k1.lt
    have c7_0 : U16.cell? ⟨U13.heap.size, 0, none⟩ = some (.int .i64 lx) := k7.cell 0
    have c7_1 : U16.cell? ⟨U13.heap.size, 1, none⟩ = some (.int .i64 ly) := k7.cell 1
    have l7 := k7.lt
    go_wp2_with fail
    clear c1_0 c1_1 c1_2 c1_3 l1 c7_0 c7_1 l7
    refine (pxMt_is ax ay bx b_y lx ly n true HP25.out _iax _iay _ibx _ib_y _ilx _ily _in  _).mono ?_
    rintro e U17 ⟨rfl, hn⟩
    clear k1 k7
    replace hb0 := hb0.trans (hn.mono hb0.size)
    clear hn
    go_wp2_with fail
    refine (p15awake_any _).mono ?_
    rintro e U18 ⟨rfl, hn⟩
    replace hb0 := hb0.trans (hn.mono hb0.size)
    clear hn
    go_wp2
    first | go_ret | go_ret2
    exact ⟨by first | rfl | (simp; done) | (simp; assumption), hb0⟩
  · obtain ⟨z2, hz2⟩ : ∃ o_o : Bool, decide (cx ≤ (max kx lx)) = o_o := ⟨_, rfl⟩
    cases z2
    · have c1_0 : U13.cell? ⟨w.heap.size, 0, none⟩ = some (.int .i64 ax) := k1.cell 0
      have c1_1 : U13.cell? ⟨w.heap.size, 1, none⟩ = some (.int .i64 ay) := k1.cell 1
      have c1_2 : U13.cell? ⟨w.heap.size, 2, none⟩ = some (.int .i64 bx) := k1.cell 2
      have c1_3 : U13.cell? ⟨w.heap.size, 3, none⟩ = some (.int .i64 b_y) := k1.cell 3
      have l1 := k1.lt
      have c2_0 : U13.cell? ⟨(w.heap.size + 1), 0, none⟩ = some (.int .i64 cx) := k2.cell 0
      have c2_1 : U13.cell? ⟨(w.heap.size + 1), 1, none⟩ = some (.int .i64 cy) := k2.cell 1
      have l2 := k2.lt
      have l2_0 : w.heap.size < U13.heap.size := by have := k2.lt; omega
      have c3_0 : U13.cell? ⟨U2.heap.size, 0, none⟩ = some (.int .i64 ((min kx lx))) := k3.cell 0
      have c3_1 : U13.cell? ⟨U2.heap.size, 1, none⟩ = some (.int .i64 ((min ky ly))) := k3.cell 1
      have l3 := k3.lt
      have c4_0 : U13.cell? ⟨(U2.heap.size + 1), 0, none⟩ = some (.int .i64 ((max kx lx))) := k4.cell 0
      have c4_1 : U13.cell? ⟨(U2.heap.size + 1), 1, none⟩ = some (.int .i64 ((max ky ly))) := k4.cell 1
      have l4 := k4.lt
      have l4_0 : U2.heap.size < U13.heap.size := by have := k4.lt; omega
      have c5_0 : U13.cell? ⟨U10.heap.size, 0, none⟩ = some (.int .i64 kx) := k5.cell 0
      have c5_1 : U13.cell? ⟨U10.heap.size, 1, none⟩ = some (.int .i64 ky) := k5.cell 1
      have l5 := k5.lt
      go_wp2_with fail
      clear c1_0 c1_1 c1_2 c1_3 l1 c2_0 c2_1 l2 l2_0 c3_0 c3_1 l3 c4_0 c4_1 l4 l4_0 c5_0 c5_1 l5
      first | refine calls_w ?_ | refine name_world ?_ | refine list_world ?_ | refine post_world ?_
      intro V19 hV19
      clear k2 k3 k4
      have D12 := Lib.hid k1.lt
      have D13 := Lib.hid k5.lt
      have D14 := Lib.hid hb0.size
      have hn : Below U13.heap.size U13 V19 := by rw [hV19]; exact below_a1 _ _
      have nk1 := k1.of hn
      have nk5 := k5.of hn
      have nhb0 := hb0.trans (hn.mono hb0.size)
      clear hn
      have k9 : Blk V19 U13.heap.size #[.int .i64 lx, .int .i64 ly] 24 := by rw [hV19]; exact (Blk.new _ _ _)
      clear k1 k5
      clear hb0
      clear hV19
      have k1 := nk1
      clear nk1
      have k5 := nk5
      clear nk5
      have hb0 := nhb0
      clear nhb0
      refine (pxMt_is ax ay bx b_y cx cy n false HP26.out _iax _iay _ibx _ib_y _icx _icy _in  _).mono ?_
      rintro e U20 ⟨rfl, hn⟩
      replace k1 := k1.of hn
      replace k5 := k5.of hn
      replace k9 := k9.of hn
      replace hb0 := hb0.trans (hn.mono hb0.size)
      clear hn
      have c1_0 : U20.cell? ⟨w.heap.size, 0, none⟩ = some (.int .i64 ax) := k1.cell 0
      have c1_1 : U20.cell? ⟨w.heap.size, 1, none⟩ = some (.int .i64 ay) := k1.cell 1
      have c1_2 : U20.cell? ⟨w.heap.size, 2, none⟩ = some (.int .i64 bx) := k1.cell 2
      have c1_3 : U20.cell? ⟨w.heap.size, 3, none⟩ = some (.int .i64 b_y) := k1.cell 3
      have l1 := k1.lt
      have c5_0 : U20.cell? ⟨U10.heap.size, 0, none⟩ = some (.int .i64 kx) := k5.cell 0
      have c5_1 : U20.cell? ⟨U10.heap.size, 1, none⟩ = some (.int .i64 ky) := k5.cell 1
      have l5 := k5.lt
      go_wp2_with fail
      clear c1_0 c1_1 c1_2 c1_3 l1 c5_0 c5_1 l5
      refine (pxMt_is ax ay bx b_y kx ky n true HP18.out _iax _iay _ibx _ib_y _ikx _iky _in  _).mono ?_
      rintro e U21 ⟨rfl, hn⟩
      clear k5
      replace k1 := k1.of hn
      replace k9 := k9.of hn
      replace hb0 := hb0.trans (hn.mono hb0.size)
      clear hn
      have c1_0 : U21.cell? ⟨w.heap.size, 0, none⟩ = some (.int .i64 ax) := k1.cell 0
      have c1_1 : U21.cell? ⟨w.heap.size, 1, none⟩ = some (.int .i64 ay) := k1.cell 1
      have c1_2 : U21.cell? ⟨w.heap.size, 2, none⟩ = some (.int .i64 bx) := k1.cell 2
      have c1_3 : U21.cell? ⟨w.heap.size, 3, none⟩ = some (.int .i64 b_y) := k1.cell 3
      have l1 := k1.lt
      have c9_0 : U21.cell? ⟨U13.heap.size, 0, none⟩ = some (.int .i64 lx) := k9.cell 0
      have c9_1 : U21.cell? ⟨U13.heap.size, 1, none⟩ = some (.int .i64 ly) := k9.cell 1
      have l9 := k9.lt
      go_wp2_with fail
      clear c1_0 c1_1 c1_2 c1_3 l1 c9_0 c9_1 l9
      refine (pxMt_is ax ay bx b_y lx ly n true HP25.out _iax _iay _ibx _ib_y _ilx _ily _in  _).mono ?_
      rintro e U22 ⟨rfl, hn⟩
      clear k1 k9
      replace hb0 := hb0.trans (hn.mono hb0.size)
      clear hn
      go_wp2_with fail
      refine (p15awake_any _).mono ?_
      rintro e U23 ⟨rfl, hn⟩
      replace hb0 := hb0.trans (hn.mono hb0.size)
      clear hn
      go_wp2
      first | go_ret | go_ret2
      exact ⟨by first | rfl | (simp; done) | (simp; assumption), hb0⟩
    · obtain ⟨z3, hz3⟩ : ∃ o_o : Bool, decide ((min ky ly) ≤ cy) = o_o := ⟨_, rfl⟩
      cases z3
      · have c1_0 : U13.cell? ⟨w.heap.size, 0, none⟩ = some (.int .i64 ax) := k1.cell 0
        have c1_1 : U13.cell? ⟨w.heap.size, 1, none⟩ = some (.int .i64 ay) := k1.cell 1
        have c1_2 : U13.cell? ⟨w.heap.size, 2, none⟩ = some (.int .i64 bx) := k1.cell 2
        have c1_3 : U13.cell? ⟨w.heap.size, 3, none⟩ = some (.int .i64 b_y) := k1.cell 3
        have l1 := k1.lt
        have c2_0 : U13.cell? ⟨(w.heap.size + 1), 0, none⟩ = some (.int .i64 cx) := k2.cell 0
        have c2_1 : U13.cell? ⟨(w.heap.size + 1), 1, none⟩ = some (.int .i64 cy) := k2.cell 1
        have l2 := k2.lt
        have l2_0 : w.heap.size < U13.heap.size := by have := k2.lt; omega
        have c3_0 : U13.cell? ⟨U2.heap.size, 0, none⟩ = some (.int .i64 ((min kx lx))) := k3.cell 0
        have c3_1 : U13.cell? ⟨U2.heap.size, 1, none⟩ = some (.int .i64 ((min ky ly))) := k3.cell 1
        have l3 := k3.lt
        have c4_0 : U13.cell? ⟨(U2.heap.size + 1), 0, none⟩ = some (.int .i64 ((max kx lx))) := k4.cell 0
        have c4_1 : U13.cell? ⟨(U2.heap.size + 1), 1, none⟩ = some (.int .i64 ((max ky ly))) := k4.cell 1
        have l4 := k4.lt
        have l4_0 : U2.heap.size < U13.heap.size := by have := k4.lt; omega
        have c5_0 : U13.cell? ⟨U10.heap.size, 0, none⟩ = some (.int .i64 kx) := k5.cell 0
        have c5_1 : U13.cell? ⟨U10.heap.size, 1, none⟩ = some (.int .i64 ky) := k5.cell 1
        have l5 := k5.lt
        go_wp2_with fail
        clear c1_0 c1_1 c1_2 c1_3 l1 c2_0 c2_1 l2 l2_0 c3_0 c3_1 l3 c4_0 c4_1 l4 l4_0 c5_0 c5_1 l5
        first | refine calls_w ?_ | refine name_world ?_ | refine list_world ?_ | refine post_world ?_
        intro V24 hV24
        clear k2 k3 k4
        have D15 := Lib.hid k1.lt
        have D16 := Lib.hid k5.lt
        have D17 := Lib.hid hb0.size
        have hn : Below U13.heap.size U13 V24 := by rw [hV24]; exact below_a1 _ _
        have nk1 := k1.of hn
        have nk5 := k5.of hn
        have nhb0 := hb0.trans (hn.mono hb0.size)
        clear hn
        have k11 : Blk V24 U13.heap.size #[.int .i64 lx, .int .i64 ly] 24 := by rw [hV24]; exact (Blk.new _ _ _)
        clear k1 k5
        clear hb0
        clear hV24
        have k1 := nk1
        clear nk1
        have k5 := nk5
        clear nk5
        have hb0 := nhb0
        clear nhb0
        refine (pxMt_is ax ay bx b_y cx cy n false HP26.out _iax _iay _ibx _ib_y _icx _icy _in  _).mono ?_
        rintro e U25 ⟨rfl, hn⟩
        replace k1 := k1.of hn
        replace k5 := k5.of hn
        replace k11 := k11.of hn
        replace hb0 := hb0.trans (hn.mono hb0.size)
        clear hn
        have c1_0 : U25.cell? ⟨w.heap.size, 0, none⟩ = some (.int .i64 ax) := k1.cell 0
        have c1_1 : U25.cell? ⟨w.heap.size, 1, none⟩ = some (.int .i64 ay) := k1.cell 1
        have c1_2 : U25.cell? ⟨w.heap.size, 2, none⟩ = some (.int .i64 bx) := k1.cell 2
        have c1_3 : U25.cell? ⟨w.heap.size, 3, none⟩ = some (.int .i64 b_y) := k1.cell 3
        have l1 := k1.lt
        have c5_0 : U25.cell? ⟨U10.heap.size, 0, none⟩ = some (.int .i64 kx) := k5.cell 0
        have c5_1 : U25.cell? ⟨U10.heap.size, 1, none⟩ = some (.int .i64 ky) := k5.cell 1
        have l5 := k5.lt
        go_wp2_with fail
        clear c1_0 c1_1 c1_2 c1_3 l1 c5_0 c5_1 l5
        refine (pxMt_is ax ay bx b_y kx ky n true HP18.out _iax _iay _ibx _ib_y _ikx _iky _in  _).mono ?_
        rintro e U26 ⟨rfl, hn⟩
        clear k5
        replace k1 := k1.of hn
        replace k11 := k11.of hn
        replace hb0 := hb0.trans (hn.mono hb0.size)
        clear hn
        have c1_0 : U26.cell? ⟨w.heap.size, 0, none⟩ = some (.int .i64 ax) := k1.cell 0
        have c1_1 : U26.cell? ⟨w.heap.size, 1, none⟩ = some (.int .i64 ay) := k1.cell 1
        have c1_2 : U26.cell? ⟨w.heap.size, 2, none⟩ = some (.int .i64 bx) := k1.cell 2
        have c1_3 : U26.cell? ⟨w.heap.size, 3, none⟩ = some (.int .i64 b_y) := k1.cell 3
        have l1 := k1.lt
        have c11_0 : U26.cell? ⟨U13.heap.size, 0, none⟩ = some (.int .i64 lx) := k11.cell 0
        have c11_1 : U26.cell? ⟨U13.heap.size, 1, none⟩ = some (.int .i64 ly) := k11.cell 1
        have l11 := k11.lt
        go_wp2_with fail
        clear c1_0 c1_1 c1_2 c1_3 l1 c11_0 c11_1 l11
        refine (pxMt_is ax ay bx b_y lx ly n true HP25.out _iax _iay _ibx _ib_y _ilx _ily _in  _).mono ?_
        rintro e U27 ⟨rfl, hn⟩
        clear k1 k11
        replace hb0 := hb0.trans (hn.mono hb0.size)
        clear hn
        go_wp2_with fail
        refine (p15awake_any _).mono ?_
        rintro e U28 ⟨rfl, hn⟩
        replace hb0 := hb0.trans (hn.mono hb0.size)
        clear hn
        go_wp2
        first | go_ret | go_ret2
        exact ⟨by first | rfl | (simp; done) | (simp; assumption), hb0⟩
      · obtain ⟨z4, hz4⟩ : ∃ o_o : Bool, decide (cy ≤ (max ky ly)) = o_o := ⟨_, rfl⟩
        cases z4
        · have c1_0 : U13.cell? ⟨w.heap.size, 0, none⟩ = some (.int .i64 ax) := k1.cell 0
          have c1_1 : U13.cell? ⟨w.heap.size, 1, none⟩ = some (.int .i64 ay) := k1.cell 1
          have c1_2 : U13.cell? ⟨w.heap.size, 2, none⟩ = some (.int .i64 bx) := k1.cell 2
          have c1_3 : U13.cell? ⟨w.heap.size, 3, none⟩ = some (.int .i64 b_y) := k1.cell 3
          have l1 := k1.lt
          have c2_0 : U13.cell? ⟨(w.heap.size + 1), 0, none⟩ = some (.int .i64 cx) := k2.cell 0
          have c2_1 : U13.cell? ⟨(w.heap.size + 1), 1, none⟩ = some (.int .i64 cy) := k2.cell 1
          have l2 := k2.lt
          have l2_0 : w.heap.size < U13.heap.size := by have := k2.lt; omega
          have c3_0 : U13.cell? ⟨U2.heap.size, 0, none⟩ = some (.int .i64 ((min kx lx))) := k3.cell 0
          have c3_1 : U13.cell? ⟨U2.heap.size, 1, none⟩ = some (.int .i64 ((min ky ly))) := k3.cell 1
          have l3 := k3.lt
          have c4_0 : U13.cell? ⟨(U2.heap.size + 1), 0, none⟩ = some (.int .i64 ((max kx lx))) := k4.cell 0
          have c4_1 : U13.cell? ⟨(U2.heap.size + 1), 1, none⟩ = some (.int .i64 ((max ky ly))) := k4.cell 1
          have l4 := k4.lt
          have l4_0 : U2.heap.size < U13.heap.size := by have := k4.lt; omega
          have c5_0 : U13.cell? ⟨U10.heap.size, 0, none⟩ = some (.int .i64 kx) := k5.cell 0
          have c5_1 : U13.cell? ⟨U10.heap.size, 1, none⟩ = some (.int .i64 ky) := k5.cell 1
          have l5 := k5.lt
          go_wp2_with fail
          clear c1_0 c1_1 c1_2 c1_3 l1 c2_0 c2_1 l2 l2_0 c3_0 c3_1 l3 c4_0 c4_1 l4 l4_0 c5_0 c5_1 l5
          first | refine calls_w ?_ | refine name_world ?_ | refine list_world ?_ | refine post_world ?_
          intro V29 hV29
          clear k2 k3 k4
          have D18 := Lib.hid k1.lt
          have D19 := Lib.hid k5.lt
          have D20 := Lib.hid hb0.size
          have hn : Below U13.heap.size U13 V29 := by rw [hV29]; exact below_a1 _ _
          have nk1 := k1.of hn
          have nk5 := k5.of hn
          have nhb0 := hb0.trans (hn.mono hb0.size)
          clear hn
          have k13 : Blk V29 U13.heap.size #[.int .i64 lx, .int .i64 ly] 24 := by rw [hV29]; exact (Blk.new _ _ _)
          clear k1 k5
          clear hb0
          clear hV29
          have k1 := nk1
          clear nk1
          have k5 := nk5
          clear nk5
          have hb0 := nhb0
          clear nhb0
          refine (pxMt_is ax ay bx b_y cx cy n false HP26.out _iax _iay _ibx _ib_y _icx _icy _in  _).mono ?_
          rintro e U30 ⟨rfl, hn⟩
          replace k1 := k1.of hn
          replace k5 := k5.of hn
          replace k13 := k13.of hn
          replace hb0 := hb0.trans (hn.mono hb0.size)
          clear hn
          have c1_0 : U30.cell? ⟨w.heap.size, 0, none⟩ = some (.int .i64 ax) := k1.cell 0
          have c1_1 : U30.cell? ⟨w.heap.size, 1, none⟩ = some (.int .i64 ay) := k1.cell 1
          have c1_2 : U30.cell? ⟨w.heap.size, 2, none⟩ = some (.int .i64 bx) := k1.cell 2
          have c1_3 : U30.cell? ⟨w.heap.size, 3, none⟩ = some (.int .i64 b_y) := k1.cell 3
          have l1 := k1.lt
          have c5_0 : U30.cell? ⟨U10.heap.size, 0, none⟩ = some (.int .i64 kx) := k5.cell 0
          have c5_1 : U30.cell? ⟨U10.heap.size, 1, none⟩ = some (.int .i64 ky) := k5.cell 1
          have l5 := k5.lt
          go_wp2_with fail
          clear c1_0 c1_1 c1_2 c1_3 l1 c5_0 c5_1 l5
          refine (pxMt_is ax ay bx b_y kx ky n true HP18.out _iax _iay _ibx _ib_y _ikx _iky _in  _).mono ?_
          rintro e U31 ⟨rfl, hn⟩
          clear k5
          replace k1 := k1.of hn
          replace k13 := k13.of hn
          replace hb0 := hb0.trans (hn.mono hb0.size)
          clear hn
          have c1_0 : U31.cell? ⟨w.heap.size, 0, none⟩ = some (.int .i64 ax) := k1.cell 0
          have c1_1 : U31.cell? ⟨w.heap.size, 1, none⟩ = some (.int .i64 ay) := k1.cell 1
          have c1_2 : U31.cell? ⟨w.heap.size, 2, none⟩ = some (.int .i64 bx) := k1.cell 2
          have c1_3 : U31.cell? ⟨w.heap.size, 3, none⟩ = some (.int .i64 b_y) := k1.cell 3
          have l1 := k1.lt
          have c13_0 : U31.cell? ⟨U13.heap.size, 0, none⟩ = some (.int .i64 lx) := k13.cell 0
          have c13_1 : U31.cell? ⟨U13.heap.size, 1, none⟩ = some (.int .i64 ly) := k13.cell 1
          have l13 := k13.lt
          go_wp2_with fail
          clear c1_0 c1_1 c1_2 c1_3 l1 c13_0 c13_1 l13
          refine (pxMt_is ax ay bx b_y lx ly n true HP25.out _iax _iay _ibx _ib_y _ilx _ily _in  _).mono ?_
          rintro e U32 ⟨rfl, hn⟩
          clear k1 k13
          replace hb0 := hb0.trans (hn.mono hb0.size)
          clear hn
          go_wp2_with fail
          refine (p15awake_any _).mono ?_
          rintro e U33 ⟨rfl, hn⟩
          replace hb0 := hb0.trans (hn.mono hb0.size)
          clear hn
          go_wp2
          first | go_ret | go_ret2
          exact ⟨by first | rfl | (simp; done) | (simp; assumption), hb0⟩
        · have c1_0 : U13.cell? ⟨w.heap.size, 0, none⟩ = some (.int .i64 ax) := k1.cell 0
          have c1_1 : U13.cell? ⟨w.heap.size, 1, none⟩ = some (.int .i64 ay) := k1.cell 1
          have c1_2 : U13.cell? ⟨w.heap.size, 2, none⟩ = some (.int .i64 bx) := k1.cell 2
          have c1_3 : U13.cell? ⟨w.heap.size, 3, none⟩ = some (.int .i64 b_y) := k1.cell 3
          have l1 := k1.lt
          have c2_0 : U13.cell? ⟨(w.heap.size + 1), 0, none⟩ = some (.int .i64 cx) := k2.cell 0
          have c2_1 : U13.cell? ⟨(w.heap.size + 1), 1, none⟩ = some (.int .i64 cy) := k2.cell 1
          have l2 := k2.lt
          have l2_0 : w.heap.size < U13.heap.size := by have := k2.lt; omega
          have c3_0 : U13.cell? ⟨U2.heap.size, 0, none⟩ = some (.int .i64 ((min kx lx))) := k3.cell 0
          have c3_1 : U13.cell? ⟨U2.heap.size, 1, none⟩ = some (.int .i64 ((min ky ly))) := k3.cell 1
          have l3 := k3.lt
          have c4_0 : U13.cell? ⟨(U2.heap.size + 1), 0, none⟩ = some (.int .i64 ((max kx lx))) := k4.cell 0
          have c4_1 : U13.cell? ⟨(U2.heap.size + 1), 1, none⟩ = some (.int .i64 ((max ky ly))) := k4.cell 1
          have l4 := k4.lt
          have l4_0 : U2.heap.size < U13.heap.size := by have := k4.lt; omega
          have c5_0 : U13.cell? ⟨U10.heap.size, 0, none⟩ = some (.int .i64 kx) := k5.cell 0
          have c5_1 : U13.cell? ⟨U10.heap.size, 1, none⟩ = some (.int .i64 ky) := k5.cell 1
          have l5 := k5.lt
          go_wp2_with fail
          clear c1_0 c1_1 c1_2 c1_3 l1 c2_0 c2_1 l2 l2_0 c3_0 c3_1 l3 c4_0 c4_1 l4 l4_0 c5_0 c5_1 l5
          first | refine calls_w ?_ | refine name_world ?_ | refine list_world ?_ | refine post_world ?_
          intro V34 hV34
          clear k2 k3 k4 k5
          have D21 := Lib.hid k1.lt
          have D22 := Lib.hid hb0.size
          have hn : Below U13.heap.size U13 V34 := by rw [hV34]; exact below_a1 _ _
          have nk1 := k1.of hn
          have nhb0 := hb0.trans (hn.mono hb0.size)
          clear hn
          have k14 : Blk V34 U13.heap.size #[.int .i64 lx, .int .i64 ly] 24 := by rw [hV34]; exact (Blk.new _ _ _)
          clear k1
          clear hb0
          clear hV34
          have k1 := nk1
          clear nk1
          have hb0 := nhb0
          clear nhb0
          refine (pxMt_is ax ay bx b_y kx ky n true HP18.out _iax _iay _ibx _ib_y _ikx _iky _in  _).mono ?_
          rintro e U35 ⟨rfl, hn⟩
          replace k1 := k1.of hn
          replace k14 := k14.of hn
          replace hb0 := hb0.trans (hn.mono hb0.size)
          clear hn
          have c1_0 : U35.cell? ⟨w.heap.size, 0, none⟩ = some (.int .i64 ax) := k1.cell 0
          have c1_1 : U35.cell? ⟨w.heap.size, 1, none⟩ = some (.int .i64 ay) := k1.cell 1
          have c1_2 : U35.cell? ⟨w.heap.size, 2, none⟩ = some (.int .i64 bx) := k1.cell 2
          have c1_3 : U35.cell? ⟨w.heap.size, 3, none⟩ = some (.int .i64 b_y) := k1.cell 3
          have l1 := k1.lt
          have c14_0 : U35.cell? ⟨U13.heap.size, 0, none⟩ = some (.int .i64 lx) := k14.cell 0
          have c14_1 : U35.cell? ⟨U13.heap.size, 1, none⟩ = some (.int .i64 ly) := k14.cell 1
          have l14 := k14.lt
          go_wp2_with fail
          clear c1_0 c1_1 c1_2 c1_3 l1 c14_0 c14_1 l14
          refine (pxMt_is ax ay bx b_y lx ly n true HP25.out _iax _iay _ibx _ib_y _ilx _ily _in  _).mono ?_
          rintro e U36 ⟨rfl, hn⟩
          clear k1 k14
          replace hb0 := hb0.trans (hn.mono hb0.size)
          clear hn
          go_wp2_with fail
          refine (p15awake_any _).mono ?_
          rintro e U37 ⟨rfl, hn⟩
          replace hb0 := hb0.trans (hn.mono hb0.size)
          clear hn
          go_wp2
          first | go_ret | go_ret2
          exact ⟨by first | rfl | (simp; done) | (simp; assumption), hb0⟩

set_option maxRecDepth 100000 in
set_option maxHeartbeats 4000000 in

theorem PBx_5 (ax : Int) (ay : Int) (bx : Int) (b_y : Int) (cx : Int) (cy : Int) (n : Int) (kx : Int) (ky : Int) (lx : Int) (ly : Int)   (hP0 : prfx ax ay = ax) (hP1 : prfy ax ay = ay) (hP2 : prfx bx b_y = bx) (hP3 : prfy bx b_y = b_y) (hP4 : boa ax ay bx b_y n = (min kx lx)) (hP5 : bob ax ay bx b_y n = (min ky ly)) (hP6 : boc ax ay bx b_y n = (max kx lx)) (hP7 : bod ax ay bx b_y n = (max ky ly)) (hP8 : boe ax ay bx b_y n = 0) (hP9 : psz n = true) (hP10 : rp ax ay = true) (hP11 : rp bx b_y = true) (hP12 : atx ax ay = ax) (hP13 : aty ax ay = ay) (hP14 : atw ax ay = 1) (hP15 : pxOx ax ay 1 n = kx) (hP16 : pxOy ax ay 1 n = ky) (hP17 : pxOe ax ay 1 n = 0) (hP18 : pxM ax ay bx b_y kx ky n = true) (hP19 : atx bx b_y = bx) (hP20 : aty bx b_y = b_y) (hP21 : atw bx b_y = 1) (hP22 : pxOx bx b_y 1 n = lx) (hP23 : pxOy bx b_y 1 n = ly) (hP24 : pxOe bx b_y 1 n = 0) (hP25 : pxM ax ay bx b_y lx ly n = true) (hP26 : pxM ax ay bx b_y cx cy n = true) (hP27 : decide ((min kx lx) ≤ cx) = true) (hP28 : decide (cx ≤ (max kx lx)) = true) (hP29 : decide ((min ky ly) ≤ cy) = true) (hP30 : decide (cy ≤ (max ky ly)) = true) (_ikx : In64 kx) (_iky : In64 ky) (_ilx : In64 lx) (_ily : In64 ly) (_iax : In64 ax) (_iay : In64 ay) (_ibx : In64 bx) (_ib_y : In64 b_y) (_icx : In64 cx) (_icy : In64 cy) (_in : In64 n)  (w : World)  :
    Calls Try.prog 9 #[.agg #[.int .i64 ax, .int .i64 ay, .int .i64 bx, .int .i64 b_y], .agg #[.int .i64 cx, .int .i64 cy], .int .i64 n] w fun e w' => e = .returned (.bool true) ∧ Below w.heap.size w w' := by

  have HP0 := Lib.hid hP0
  clear hP0
  have HP1 := Lib.hid hP1
  clear hP1
  have HP2 := Lib.hid hP2
  clear hP2
  have HP3 := Lib.hid hP3
  clear hP3
  have HP4 := Lib.hid hP4
  clear hP4
  have HP5 := Lib.hid hP5
  clear hP5
  have HP6 := Lib.hid hP6
  clear hP6
  have HP7 := Lib.hid hP7
  clear hP7
  have HP8 := Lib.hid hP8
  clear hP8
  have HP9 := Lib.hid hP9
  clear hP9
  have HP10 := Lib.hid hP10
  clear hP10
  have HP11 := Lib.hid hP11
  clear hP11
  have HP12 := Lib.hid hP12
  clear hP12
  have HP13 := Lib.hid hP13
  clear hP13
  have HP14 := Lib.hid hP14
  clear hP14
  have HP15 := Lib.hid hP15
  clear hP15
  have HP16 := Lib.hid hP16
  clear hP16
  have HP17 := Lib.hid hP17
  clear hP17
  have HP18 := Lib.hid hP18
  clear hP18
  have HP19 := Lib.hid hP19
  clear hP19
  have HP20 := Lib.hid hP20
  clear hP20
  have HP21 := Lib.hid hP21
  clear hP21
  have HP22 := Lib.hid hP22
  clear hP22
  have HP23 := Lib.hid hP23
  clear hP23
  have HP24 := Lib.hid hP24
  clear hP24
  have HP25 := Lib.hid hP25
  clear hP25
  have HP26 := Lib.hid hP26
  clear hP26
  go_enter Try.func9, Try.ntmps9
  go_wp2_with fail
  first | refine calls_w ?_ | refine name_world ?_ | refine list_world ?_ | refine post_world ?_
  intro V1 hV1
  have hn : Below w.heap.size w V1 := by rw [hV1]; exact below_a2 _ _ _
  have nhb0 := hn
  have k1 : Blk V1 w.heap.size #[.int .i64 ax, .int .i64 ay, .int .i64 bx, .int .i64 b_y] 50 := by rw [hV1]; exact ((Blk.new _ _ _).alloc _)
  have k2 : Blk V1 (w.heap.size + 1) #[.int .i64 cx, .int .i64 cy] 24 := by rw [hV1]; exact (Blk.new1 _ _ _ _)
  clear hV1
  have hb0 := nhb0
  clear nhb0
  refine (pxBo_is ax ay bx b_y n (min kx lx) (min ky ly) (max kx lx) (max ky ly) 0 HP4.out HP5.out HP6.out HP7.out HP8.out _iax _iay _ibx _ib_y _in  _).mono ?_
  rintro e U2 ⟨rfl, hn⟩
  replace k1 := k1.of hn
  replace k2 := k2.of hn
  replace hb0 := hb0.trans (hn.mono hb0.size)
  clear hn
  go_wp2_with fail
  first | refine calls_w ?_ | refine name_world ?_ | refine list_world ?_ | refine post_world ?_
  intro V3 hV3
  have D1 := Lib.hid k1.lt
  have D2 := Lib.hid k2.lt
  have D3 := Lib.hid hb0.size
  have hn : Below U2.heap.size U2 V3 := by rw [hV3]; exact below_a2 _ _ _
  have nk1 := k1.of hn
  have nk2 := k2.of hn
  have nhb0 := hb0.trans (hn.mono hb0.size)
  clear hn
  have k3 : Blk V3 U2.heap.size #[.int .i64 ((min kx lx)), .int .i64 ((min ky ly))] 24 := by rw [hV3]; exact ((Blk.new _ _ _).alloc _)
  have k4 : Blk V3 (U2.heap.size + 1) #[.int .i64 ((max kx lx)), .int .i64 ((max ky ly))] 24 := by rw [hV3]; exact (Blk.new1 _ _ _ _)
  clear k1 k2
  clear hb0
  clear hV3
  have k1 := nk1
  clear nk1
  have k2 := nk2
  clear nk2
  have hb0 := nhb0
  clear nhb0
  refine (p15size_is n true HP9.out _in  _).mono ?_
  rintro e U4 ⟨rfl, hn⟩
  replace k1 := k1.of hn
  replace k2 := k2.of hn
  replace k3 := k3.of hn
  replace k4 := k4.of hn
  replace hb0 := hb0.trans (hn.mono hb0.size)
  clear hn
  have c1_0 : U4.cell? ⟨w.heap.size, 0, none⟩ = some (.int .i64 ax) := k1.cell 0
  have c1_1 : U4.cell? ⟨w.heap.size, 1, none⟩ = some (.int .i64 ay) := k1.cell 1
  have l1 := k1.lt
  go_wp2_with fail
  clear c1_0 c1_1 l1
  refine (p15ref_is ax ay ax ay HP0.out HP1.out _iax _iay  _).mono ?_
  rintro e U5 ⟨rfl, hn⟩
  replace k1 := k1.of hn
  replace k2 := k2.of hn
  replace k3 := k3.of hn
  replace k4 := k4.of hn
  replace hb0 := hb0.trans (hn.mono hb0.size)
  clear hn
  go_wp2_with fail
  refine (rRight_v ax ay true HP10.out _).mono ?_
  rintro e U6 ⟨rfl, hn⟩
  replace k1 := k1.of hn
  replace k2 := k2.of hn
  replace k3 := k3.of hn
  replace k4 := k4.of hn
  replace hb0 := hb0.trans (hn.mono hb0.size)
  clear hn
  have c1_2 : U6.cell? ⟨w.heap.size, 2, none⟩ = some (.int .i64 bx) := k1.cell 2
  have c1_3 : U6.cell? ⟨w.heap.size, 3, none⟩ = some (.int .i64 b_y) := k1.cell 3
  have l1 := k1.lt
  go_wp2_with fail
  clear c1_2 c1_3 l1
  refine (p15ref_is bx b_y bx b_y HP2.out HP3.out _ibx _ib_y  _).mono ?_
  rintro e U7 ⟨rfl, hn⟩
  replace k1 := k1.of hn
  replace k2 := k2.of hn
  replace k3 := k3.of hn
  replace k4 := k4.of hn
  replace hb0 := hb0.trans (hn.mono hb0.size)
  clear hn
  go_wp2_with fail
  refine (rRight_v bx b_y true HP11.out _).mono ?_
  rintro e U8 ⟨rfl, hn⟩
  replace k1 := k1.of hn
  replace k2 := k2.of hn
  replace k3 := k3.of hn
  replace k4 := k4.of hn
  replace hb0 := hb0.trans (hn.mono hb0.size)
  clear hn
  have c1_0 : U8.cell? ⟨w.heap.size, 0, none⟩ = some (.int .i64 ax) := k1.cell 0
  have c1_1 : U8.cell? ⟨w.heap.size, 1, none⟩ = some (.int .i64 ay) := k1.cell 1
  have l1 := k1.lt
  go_wp2_with fail
  clear c1_0 c1_1 l1
  refine (crAt_is ax ay ax ay 1 HP12.out HP13.out HP14.out _iax _iay  _).mono ?_
  rintro e U9 ⟨rfl, hn⟩
  replace k1 := k1.of hn
  replace k2 := k2.of hn
  replace k3 := k3.of hn
  replace k4 := k4.of hn
  replace hb0 := hb0.trans (hn.mono hb0.size)
  clear hn
  go_wp2_with fail
  refine (pxOf_is ax ay 1 n kx ky 0 HP15.out HP16.out HP17.out (in64_I' _iax) (in64_I' _iay) (by unfold InI b255; omega) _in  _).mono ?_
  rintro e U10 ⟨rfl, hn⟩
  replace k1 := k1.of hn
  replace k2 := k2.of hn
  replace k3 := k3.of hn
  replace k4 := k4.of hn
  replace hb0 := hb0.trans (hn.mono hb0.size)
  clear hn
  have c1_2 : U10.cell? ⟨w.heap.size, 2, none⟩ = some (.int .i64 bx) := k1.cell 2
  have c1_3 : U10.cell? ⟨w.heap.size, 3, none⟩ = some (.int .i64 b_y) := k1.cell 3
  have l1 := k1.lt
  go_wp2_with fail
  clear c1_2 c1_3 l1
  first | refine calls_w ?_ | refine name_world ?_ | refine list_world ?_ | refine post_world ?_
  intro V11 hV11
  have D4 := Lib.hid k1.lt
  have D5 := Lib.hid k2.lt
  have D6 := Lib.hid k3.lt
  have D7 := Lib.hid k4.lt
  have D8 := Lib.hid hb0.size
  have hn : Below U10.heap.size U10 V11 := by rw [hV11]; exact below_a1 _ _
  have nk1 := k1.of hn
  have nk2 := k2.of hn
  have nk3 := k3.of hn
  have nk4 := k4.of hn
  have nhb0 := hb0.trans (hn.mono hb0.size)
  clear hn
  have k5 : Blk V11 U10.heap.size #[.int .i64 kx, .int .i64 ky] 24 := by rw [hV11]; exact (Blk.new _ _ _)
  clear k1 k2 k3 k4
  clear hb0
  clear hV11
  have k1 := nk1
  clear nk1
  have k2 := nk2
  clear nk2
  have k3 := nk3
  clear nk3
  have k4 := nk4
  clear nk4
  have hb0 := nhb0
  clear nhb0
  refine (crAt_is bx b_y bx b_y 1 HP19.out HP20.out HP21.out _ibx _ib_y  _).mono ?_
  rintro e U12 ⟨rfl, hn⟩
  replace k1 := k1.of hn
  replace k2 := k2.of hn
  replace k3 := k3.of hn
  replace k4 := k4.of hn
  replace k5 := k5.of hn
  replace hb0 := hb0.trans (hn.mono hb0.size)
  clear hn
  go_wp2_with fail
  refine (pxOf_is bx b_y 1 n lx ly 0 HP22.out HP23.out HP24.out (in64_I' _ibx) (in64_I' _ib_y) (by unfold InI b255; omega) _in  _).mono ?_
  rintro e U13 ⟨rfl, hn⟩
  replace k1 := k1.of hn
  replace k2 := k2.of hn
  replace k3 := k3.of hn
  replace k4 := k4.of hn
  replace k5 := k5.of hn
  replace hb0 := hb0.trans (hn.mono hb0.size)
  clear hn
  have c1_0 : U13.cell? ⟨w.heap.size, 0, none⟩ = some (.int .i64 ax) := k1.cell 0
  have c1_1 : U13.cell? ⟨w.heap.size, 1, none⟩ = some (.int .i64 ay) := k1.cell 1
  have c1_2 : U13.cell? ⟨w.heap.size, 2, none⟩ = some (.int .i64 bx) := k1.cell 2
  have c1_3 : U13.cell? ⟨w.heap.size, 3, none⟩ = some (.int .i64 b_y) := k1.cell 3
  have l1 := k1.lt
  have c2_0 : U13.cell? ⟨(w.heap.size + 1), 0, none⟩ = some (.int .i64 cx) := k2.cell 0
  have c2_1 : U13.cell? ⟨(w.heap.size + 1), 1, none⟩ = some (.int .i64 cy) := k2.cell 1
  have l2 := k2.lt
  have l2_0 : w.heap.size < U13.heap.size := by have := k2.lt; omega
  have c3_0 : U13.cell? ⟨U2.heap.size, 0, none⟩ = some (.int .i64 ((min kx lx))) := k3.cell 0
  have c3_1 : U13.cell? ⟨U2.heap.size, 1, none⟩ = some (.int .i64 ((min ky ly))) := k3.cell 1
  have l3 := k3.lt
  have c4_0 : U13.cell? ⟨(U2.heap.size + 1), 0, none⟩ = some (.int .i64 ((max kx lx))) := k4.cell 0
  have c4_1 : U13.cell? ⟨(U2.heap.size + 1), 1, none⟩ = some (.int .i64 ((max ky ly))) := k4.cell 1
  have l4 := k4.lt
  have l4_0 : U2.heap.size < U13.heap.size := by have := k4.lt; omega
  have c5_0 : U13.cell? ⟨U10.heap.size, 0, none⟩ = some (.int .i64 kx) := k5.cell 0
  have c5_1 : U13.cell? ⟨U10.heap.size, 1, none⟩ = some (.int .i64 ky) := k5.cell 1
  have l5 := k5.lt
  go_wp2_with fail
  clear c1_0 c1_1 c1_2 c1_3 l1 c2_0 c2_1 l2 l2_0 c3_0 c3_1 l3 c4_0 c4_1 l4 l4_0 c5_0 c5_1 l5
  first | refine calls_w ?_ | refine name_world ?_ | refine list_world ?_ | refine post_world ?_
  intro V14 hV14
  clear k2 k3 k4 k5
  have D9 := Lib.hid k1.lt
  have D10 := Lib.hid hb0.size
  have hn : Below U13.heap.size U13 V14 := by rw [hV14]; exact below_a1 _ _
  have nk1 := k1.of hn
  have nhb0 := hb0.trans (hn.mono hb0.size)
  clear hn
  have k6 : Blk V14 U13.heap.size #[.int .i64 lx, .int .i64 ly] 24 := by rw [hV14]; exact (Blk.new _ _ _)
  clear k1
  clear hb0
  clear hV14
  have k1 := nk1
  clear nk1
  have hb0 := nhb0
  clear nhb0
  refine (pxMt_is ax ay bx b_y kx ky n true HP18.out _iax _iay _ibx _ib_y _ikx _iky _in  _).mono ?_
  rintro e U15 ⟨rfl, hn⟩
  replace k1 := k1.of hn
  replace k6 := k6.of hn
  replace hb0 := hb0.trans (hn.mono hb0.size)
  clear hn
  have c1_0 : U15.cell? ⟨w.heap.size, 0, none⟩ = some (.int .i64 ax) := k1.cell 0
  have c1_1 : U15.cell? ⟨w.heap.size, 1, none⟩ = some (.int .i64 ay) := k1.cell 1
  have c1_2 : U15.cell? ⟨w.heap.size, 2, none⟩ = some (.int .i64 bx) := k1.cell 2
  have c1_3 : U15.cell? ⟨w.heap.size, 3, none⟩ = some (.int .i64 b_y) := k1.cell 3
  have l1 := k1.lt
  have c6_0 : U15.cell? ⟨U13.heap.size, 0, none⟩ = some (.int .i64 lx) := k6.cell 0
  have c6_1 : U15.cell? ⟨U13.heap.size, 1, none⟩ = some (.int .i64 ly) := k6.cell 1
  have l6 := k6.lt
  go_wp2_with fail
  clear c1_0 c1_1 c1_2 c1_3 l1 c6_0 c6_1 l6
  refine (pxMt_is ax ay bx b_y lx ly n true HP25.out _iax _iay _ibx _ib_y _ilx _ily _in  _).mono ?_
  rintro e U16 ⟨rfl, hn⟩
  clear k1 k6
  replace hb0 := hb0.trans (hn.mono hb0.size)
  clear hn
  go_wp2_with fail
  refine (p15awake_any _).mono ?_
  rintro e U17 ⟨rfl, hn⟩
  replace hb0 := hb0.trans (hn.mono hb0.size)
  clear hn
  go_wp2
  first | go_ret | go_ret2
  exact ⟨by first | rfl | (simp; done) | (simp; assumption), hb0⟩
end Go.Proofs.Ytlcbomjdbdgbmaa

namespace Go.Proofs.Ytlcbomjdbdgbmaa
open Go.RowKit

theorem bo_no {ax ay bx b_y n : Int} (h : sgR ax ay bx b_y = false ∨ pxS n = false) : boa ax ay bx b_y n = 0 ∧ bob ax ay bx b_y n = 0 ∧ boc ax ay bx b_y n = 0 ∧ bod ax ay bx b_y n = 0 ∧ boe ax ay bx b_y n = 11 := by
  unfold boa bob boc bod boe
  cases h1 : sgR ax ay bx b_y
  · exact ⟨rfl, rfl, rfl, rfl, rfl⟩
  rw [h1] at h
  have hS : pxS n = false := by rcases h with h | h; exact absurd h (by simp); exact h
  obtain ⟨_, _, e⟩ := @pxO_no (atx ax ay) (aty ax ay) (atw ax ay) n (.inl hS)
  rw [e]
  exact ⟨rfl, rfl, rfl, rfl, rfl⟩
theorem bo_of {ax ay bx b_y n : Int} (hs : sgR ax ay bx b_y = true) (hS : pxS n = true) :
    boa ax ay bx b_y n = min (pxc ax 1 n) (pxc bx 1 n) ∧ bob ax ay bx b_y n = min (pxc ay 1 n) (pxc b_y 1 n) ∧ boc ax ay bx b_y n = max (pxc ax 1 n) (pxc bx 1 n) ∧ bod ax ay bx b_y n = max (pxc ay 1 n) (pxc b_y 1 n) ∧ boe ax ay bx b_y n = 0 := by
  obtain ⟨ha, hb⟩ := (sgR_iff _ _ _ _).1 hs
  obtain ⟨a1, a2, a3⟩ := pat_ok ha
  obtain ⟨b1, b2, b3⟩ := pat_ok hb
  have p := pt_cell ha hS
  have q := pt_cell hb hS
  unfold boa bob boc bod boe
  rw [hs, a1, a2, a3, b1, b2, b3, p.e0, p.ex, p.ey, q.ex, q.ey]
  exact ⟨rfl, rfl, rfl, rfl, rfl⟩
theorem inB_0 {a b c n : Int} (h : inCell n 1 c a) : inB a (b - a) (2 * c * n - n) (2 * c * n + n) 0 1 := by
  unfold inCell at h; unfold inB; simp only [Int.mul_one, Int.mul_zero, Int.add_zero] at *; exact h
theorem inB_1 {a b c n : Int} (h : inCell n 1 c b) : inB a (b - a) (2 * c * n - n) (2 * c * n + n) 1 1 := by
  unfold inCell at h; unfold inB; simp only [Int.mul_one] at *; omega
theorem meets_of {ax ay bx b_y cx cy n : Int} (hS : pxS n = true) (hs : sgR ax ay bx b_y = true) (hc : rp cx cy = true) {p q : Int} (hq : 0 < q) (h : inCC ax ay bx b_y cx cy n p q) : pxM ax ay bx b_y cx cy n = true := by
  cases k : cuk ax ay bx b_y cx cy n
  · exact absurd h ((cu_sp hS hs hc).2 k p q hq)
  · exact k
theorem cuk_rp {ax ay bx b_y cx cy n : Int} (k : cuk ax ay bx b_y cx cy n = true) : rp cx cy = true := by
  cases h : rp cx cy
  · unfold cuk at k
    rw [h] at k
    cases h1 : pxS n <;> cases h2 : sgR ax ay bx b_y <;> rw [h1, h2] at k <;> cases k
  · rfl
theorem PBx_any (ax ay bx b_y cx cy n : Int) (iax : In64 ax) (iay : In64 ay) (ibx : In64 bx) (ib_y : In64 b_y) (icx : In64 cx) (icy : In64 cy) (i_n : In64 n) (w : World) :
    Calls Try.prog 9 #[.agg #[.int .i64 ax, .int .i64 ay, .int .i64 bx, .int .i64 b_y], .agg #[.int .i64 cx, .int .i64 cy], .int .i64 n] w fun e w' => e = .returned (.bool true) ∧ Below w.heap.size w w' := by
  cases hs : psz n
  · obtain ⟨e1, e2, e3, e4, e5⟩ := @bo_no ax ay bx b_y n (.inr hs)
    exact PBx_1 ax ay bx b_y cx cy n rfl rfl rfl rfl e1 e2 e3 e4 e5 hs iax iay ibx ib_y icx icy i_n w
  cases ha : rp ax ay
  · obtain ⟨e1, e2, e3, e4, e5⟩ := @bo_no ax ay bx b_y n (.inl (by unfold sgR; rw [ha]; rfl))
    exact PBx_2 ax ay bx b_y cx cy n rfl rfl rfl rfl e1 e2 e3 e4 e5 hs ha iax iay ibx ib_y icx icy i_n w
  cases hb : rp bx b_y
  · obtain ⟨e1, e2, e3, e4, e5⟩ := @bo_no ax ay bx b_y n (.inl (by unfold sgR; rw [ha, hb]; rfl))
    exact PBx_3 ax ay bx b_y cx cy n rfl rfl rfl rfl e1 e2 e3 e4 e5 hs ha hb iax iay ibx ib_y icx icy i_n w
  have hS : pxS n = true := hs
  have hG : sgR ax ay bx b_y = true := (sgR_iff _ _ _ _).2 ⟨ha, hb⟩
  have hn := (pxS_iff n).1 hS
  obtain ⟨e1, e2, e3, e4, e5⟩ := bo_of hG hS
  obtain ⟨a1, a2, a3⟩ := pat_ok ha
  obtain ⟨b1, b2, b3⟩ := pat_ok hb
  have p := pt_cell ha hS
  have q := pt_cell hb hS
  have mA : pxM ax ay bx b_y (pxc ax 1 n) (pxc ay 1 n) n = true := meets_of hS hG p.rr (p := 0) (q := 1) (by omega) ⟨by omega, inB_0 p.cx, inB_0 p.cy⟩
  have mB : pxM ax ay bx b_y (pxc bx 1 n) (pxc b_y 1 n) n = true := meets_of hS hG q.rr (p := 1) (q := 1) (by omega) ⟨by omega, inB_1 q.cx, inB_1 q.cy⟩
  have within : pxM ax ay bx b_y cx cy n = true → (min (pxc ax 1 n) (pxc bx 1 n) ≤ cx ∧ cx ≤ max (pxc ax 1 n) (pxc bx 1 n)) ∧ (min (pxc ay 1 n) (pxc b_y 1 n) ≤ cy ∧ cy ≤ max (pxc ay 1 n) (pxc b_y 1 n)) := fun hm => by
    obtain ⟨_, ⟨u, v, hv, hu⟩, k⟩ := (cu_sp hS hG (cuk_rp hm)).1 hm
    obtain ⟨⟨h0, h1⟩, hx, hy⟩ := (k u v hv).1 hu
    exact ⟨box1 h0 h1 hv (by omega) hx p.cx q.cx, box1 h0 h1 hv (by omega) hy p.cy q.cy⟩
  have r1 := (rp_iff _ _).1 p.rr
  have r2 := (rp_iff _ _).1 q.rr
  have ex := p.ex
  have ey := p.ey
  have fx := q.ex
  have fy := q.ey
  have i1 : In64 (pxc ax 1 n) := by unfold In64; omega
  have i2 : In64 (pxc ay 1 n) := by unfold In64; omega
  have i3 : In64 (pxc bx 1 n) := by unfold In64; omega
  have i4 : In64 (pxc b_y 1 n) := by unfold In64; omega
  cases hm : pxM ax ay bx b_y cx cy n
  · exact PBx_4 ax ay bx b_y cx cy n _ _ _ _ rfl rfl rfl rfl e1 e2 e3 e4 e5 hs ha hb a1 a2 a3 ex ey p.e0 mA b1 b2 b3 fx fy q.e0 mB hm i1 i2 i3 i4 iax iay ibx ib_y icx icy i_n w
  · obtain ⟨⟨g1, g2⟩, g3, g4⟩ := within hm
    exact PBx_5 ax ay bx b_y cx cy n _ _ _ _ rfl rfl rfl rfl e1 e2 e3 e4 e5 hs ha hb a1 a2 a3 ex ey p.e0 mA b1 b2 b3 fx fy q.e0 mB hm (decide_eq_true g1) (decide_eq_true g2) (decide_eq_true g3) (decide_eq_true g4) i1 i2 i3 i4 iax iay ibx ib_y icx icy i_n w
end Go.Proofs.Ytlcbomjdbdgbmaa

namespace Go.Proofs.Ytlcbomjdbdgbmaa
open Go.ChangeShapes Go.WideShapes Go.ChangeAt Go.RowKit Go.Joins
section
variable {H : Type} {enc : TypeId × Value → H} {w : World} {base : Nat} {spare : Nat → Bool} {held : Bool}
set_option maxRecDepth 100000 in
theorem open_seg {r : Reach} {b0 : Nat} {v : Value} {d : DataW H} {p : List MemPlace} (hv : Value.okWide Try.prog w r b0 50 v) (h : DataW.Trod enc Try.prog w base spare held 50 v d p) :
    ∃ a b c d, In64 a ∧ In64 b ∧ In64 c ∧ In64 d ∧ v = .agg #[.int .i64 a, .int .i64 b, .int .i64 c, .int .i64 d] := by
  obtain ⟨cs, rfl, hsz⟩ := okWide_struct Try.underlying50 hv
  have hC : Try.prog.cellsOf 50 = 4 := by kernel_rfl
  obtain ⟨l⟩ := cs
  match l, hsz.trans hC with
  | [c0, c1, c2, c3], _ =>
    obtain ⟨fuel, hf⟩ := h
    obtain ⟨xs, k, _, hx, _, hlen, hg⟩ := DataW.trod_struct Try.underlying50 hf
    have hC2 : Try.prog.cellsOf 24 = 2 := by kernel_rfl
    match xs, hlen with
    | [y0, y1], _ =>
      have g0 := hg 0 _ rfl
      have g1 := hg 1 _ rfl
      simp [Value.cells, hC2] at g0 g1
      obtain ⟨a, b, ia, ib, rfl, rfl⟩ := open_pt2 g0
      obtain ⟨c, d, ic, id, rfl, rfl⟩ := open_pt2 g1
      exact ⟨a, b, c, d, ia, ib, ic, id, rfl⟩
end
end Go.Proofs.Ytlcbomjdbdgbmaa

namespace Go.Proofs.Ytlcbomjdbdgbmaa
open Go.ChangeShapes Go.WideShapes Go.ChangeAt Go.RowKit

set_option maxRecDepth 100000 in
set_option maxHeartbeats 1000000 in
theorem pixelBoxes_lifted (os : Os) (started : os.Started) (H : Type) (enc : TypeId × Value → H) :
    ReturnsInHanded {} Try.checked os 9 .any (Rows.pixelBoxesSpec.pre6 enc Try.prog Try.f9 Rows.pixelBoxesRow.domain false) (Rows.pixelBoxesSpec.post enc Try.prog Try.f9 false true false false) := by
  refine returnsInHanded_of_change (C := Try.checked) own started (by kernel_rfl) Try.func9
    (ChangeSpec.witness6 (enc := enc) (C := Try.checked) false ⟨#[], #[.agg #[.int .i64 0, .int .i64 0, .int .i64 0, .int .i64 0], pI 0 0, .int .i64 0], []⟩ 8 (by kernel_rfl) (by kernel_rfl) (by kernel_rfl) (by kernel_rfl)) ?_
  intro W base args ds gs before hval0 hW hcnd _
  have hval : ∀ (j : Nat) t v, Try.f9.params[j]? = some t → args[j]? = some v → Value.okWide Try.prog W .any base t v := hval0
  have hW' := hW
  obtain ⟨p, q, hA0, hV, rfl, hfz, hnd⟩ := hW
  have hA : DataW.TrodAll enc Try.prog W 0 (fun _ => true) true Try.f9.params.toList args.toList ds p := hA0
  rw [Try.params9] at hA hval
  obtain ⟨v0, vs0, d0, ds0, p0, q0, hargs, rfl, rfl, h0, r0⟩ := trodAll_cons hA
  obtain ⟨v1, vs1, d1, ds1, p1, q1, rfl, rfl, rfl, h1, r1⟩ := trodAll_cons r0
  obtain ⟨v2, vs2, d2, ds2, p2, q2, rfl, rfl, rfl, h2, r2⟩ := trodAll_cons r1
  obtain ⟨rfl, rfl, rfl⟩ := trodAll_nil r2
  obtain rfl : args = #[v0, v1, v2] := by cases args; simp_all
  obtain ⟨rfl, rfl⟩ := trodVars_none hV
  have k0 := h0
  have lt0 : ∀ x ∈ p0, x.block < W.heap.size := by obtain ⟨m, hm⟩ := k0; exact DataW.trod_lt m _ _ _ hm
  obtain ⟨a0, b0, c0, e0, ia0, ib0, ic0, ie0, rfl⟩ := open_seg (hval 0 50 v0 rfl rfl) h0
  have k1 := h1
  have lt1 : ∀ x ∈ p1, x.block < W.heap.size := by obtain ⟨m, hm⟩ := k1; exact DataW.trod_lt m _ _ _ hm
  obtain ⟨x1, y1, ix1, iy1, rfl⟩ := open_point (hval 1 24 v1 rfl rfl) h1
  obtain ⟨x2, rfl, rfl, rfl, wx2⟩ := open_int Try.underlying3 (hval 2 3 v2 rfl rfl) h2
  have ix2 := in64_wf wx2
  clear hA0 hval0
  refine (PBx_any a0 b0 c0 e0 x1 y1 x2 ia0 ib0 ic0 ie0 ix1 iy1 ix2 W).mono fun e W' ⟨he, bel⟩ => ?_
  subst he
  exact ⟨_, rfl, _, _, _, [], _, [], hW', trodAll_mk1 (shut_bool Try.underlying4 _), (trodAll_cons_mk (Below.trod laidOut (by kernel_rfl) (of_decide_eq_true (by kernel_rfl)) k0 bel lt0) (trodAll_cons_mk (Below.trod laidOut (by kernel_rfl) (of_decide_eq_true (by kernel_rfl)) k1 bel lt1) (trodAll_cons_mk (shut_int Try.underlying3 wx2) trodAll_mk0))), rfl, bel.frame _, fun h => by cases h⟩

theorem pixelBoxes_holds : Rows.PixelBoxesSaid :=
  OpenClaim.holds_of_wide 9 Try.f9 rfl rfl rfl rfl rfl rfl rfl ⟨rfl, rfl, rfl, rfl, rfl⟩ rfl rfl rfl rfl rfl (by kernel_rfl) Try.func9 (by kernel_rfl)
    (of_decide_eq_true (by kernel_rfl)) (by unfold Func.isWrapper; rw [if_neg (by decide +kernel)]; exact ⟨rfl, rfl⟩)
    (fun os started H enc _ => pixelBoxes_lifted os started H enc)
#print axioms pixelBoxes_holds
end Go.Proofs.Ytlcbomjdbdgbmaa

