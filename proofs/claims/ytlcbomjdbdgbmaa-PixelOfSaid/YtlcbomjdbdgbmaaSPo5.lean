/- The statement PixelOfSaid: for every input the law returns true, and its arguments read as before. Conditions: none. -/
import Derived.Test.YtlcbomjdbdgbmaaSPo4
import Derived.KernelRfl
import Derived.StillTail
import Derived.OrdersHeld
import Derived.Deep.Quiet
import Derived.Below
import Derived.WalkKit
import Derived.Test.YtlcbomjdbdgbmaaProg
import Derived.WalkSpells
import Derived.StillTactics
import Derived.Laws.Pointers
import Derived.Deep.RegionHeld3
import Derived.RowKit3
import Derived.Deep.QuietTactic
import Derived.BigQuiet
import Derived.BigRegion
import Derived.Lib.Hide
import Derived.WalkSmall
import Derived.Laws.BitsAllLaws
import Derived.IntWalk
import Derived.Deep.OwnRows
import Derived.Deep.LoopGhost
import Derived.Shelf.Bits.Mul64
import Derived.Deep.WholeRow
import Derived.Laws.Rows
import Derived.Test.YtlcbomjdbdgbmaaRows
import Derived.ProofKit
import Derived.OpenShut
import Derived.ShutString
import Derived.ChangeOld
import Derived.Lib.SmallJoins
import Derived.Laws.IdiomArrays
namespace Go.Proofs.Ytlcbomjdbdgbmaa
open Go.RowKit

theorem rins_cell {x v k n : Int} (h : inCell n v k x) (hk : -2199023255552 ≤ k ∧ k ≤ 2199023255552) : rins x v k n = true := by
  obtain ⟨h1, h2⟩ := h
  have e1 : (2 * k * n - n) * v = 2 * k * n * v - n * v := by rw [Int.sub_mul]
  have e2 : (2 * k * n + n) * v = 2 * k * n * v + n * v := by rw [Int.add_mul]
  unfold rins
  rw [w64_id (x := 2 * k) (by omega) (by omega), cmp_ge0, cmp_lt0, decide_eq_true (show 2 * k * n * v - n * v ≤ x + x by omega), decide_eq_true (show x + x < 2 * k * n * v + n * v by omega)]
  rfl
theorem pxO_of {x y v n : Int} (hS : pxS n = true) (hR : spR x y v = true) : pxOx x y v n = pxc x v n ∧ pxOy x y v n = pxc y v n ∧ pxOe x y v n = 0 := by
  unfold pxOx pxOy pxOe
  rw [hS, hR]
  exact ⟨rfl, rfl, rfl⟩
theorem pxO_no {x y v n : Int} (h : pxS n = false ∨ spR x y v = false) : pxOx x y v n = 0 ∧ pxOy x y v n = 0 ∧ pxOe x y v n = 11 := by
  unfold pxOx pxOy pxOe
  rcases h with h | h
  · rw [h]; exact ⟨rfl, rfl, rfl⟩
  · rw [h]; cases pxS n <;> exact ⟨rfl, rfl, rfl⟩
theorem pxI_no {x y v cx cy n : Int} (h : pxOe x y v n = 11) : pxI x y v cx cy n = false := by unfold pxI; rw [h]; rfl
theorem pxI_eq {x y v cx cy n : Int} (h : pxOe x y v n = 0) : pxI x y v cx cy n = (rp cx cy && (pxOx x y v n == cx) && (pxOy x y v n == cy)) := by
  unfold pxI
  rw [h]
  cases rp cx cy <;> cases (pxOx x y v n == cx) <;> cases (pxOy x y v n == cy) <;> rfl
theorem POf_any (x y v n cx cy : Int) (ix : InI x) (iy : InI y) (iv : InI v) (i_n : In64 n) (icx : In64 cx) (icy : In64 cy) (w : World) :
    Calls Try.prog 6 #[.agg #[.int .u64 (wd0 x), .int .u64 (wd1 x), .int .u64 (wd2 x), .int .u64 (wd3 x), .int .u64 (wd0 y), .int .u64 (wd1 y), .int .u64 (wd2 y), .int .u64 (wd3 y), .int .u64 (wd0 v), .int .u64 (wd1 v), .int .u64 (wd2 v), .int .u64 (wd3 v)], .int .i64 n, .agg #[.int .i64 cx, .int .i64 cy]] w fun e w' => e = .returned (.bool true) ∧ Below w.heap.size w w' := by
  cases hs : psz n
  · obtain ⟨e1, e2, e3⟩ := @pxO_no x y v n (.inl hs)
    exact POf_1 x y v n cx cy rfl rfl rfl e1 e2 e3 (pxI_no e3) hs hs ix iy iv i_n icx icy w
  cases hr : rspR x y v
  · obtain ⟨e1, e2, e3⟩ := @pxO_no x y v n (.inr ((spR_eq x y v).trans hr))
    exact POf_2 x y v n cx cy rfl rfl rfl e1 e2 e3 (pxI_no e3) hs hs hr ix iy iv i_n icx icy w
  have hS : pxS n = true := hs
  obtain ⟨e1, e2, e3⟩ := pxO_of hS ((spR_eq x y v).trans hr)
  have s := sp_ok hr
  have hn := (pxS_iff n).1 hS
  obtain ⟨k1, k2, k3⟩ := pxc_sp s.v0 s.v1 s.x0 s.x1 hn
  obtain ⟨m1, m2, m3⟩ := pxc_sp s.v0 s.v1 s.y0 s.y1 hn
  have p : ∀ a b, pxI x y v a b n = (rp a b && (pxOx x y v n == a) && (pxOy x y v n == b)) := fun a b => pxI_eq e3
  rw [e1, e2] at p
  generalize pxc x v n = kx at *
  generalize pxc y v n = ky at *
  have hrp : rp kx ky = true := (rp_iff _ _).2 ⟨⟨k2, k3⟩, m2, m3⟩
  have hin : rin15 x y v kx ky n = true := by unfold rin15; rw [rins_cell k1 ⟨k2, k3⟩, rins_cell m1 ⟨m2, m3⟩]; rfl
  have hI : pxI x y v kx ky n = true := by rw [p, hrp]; simp
  have ikx : In64 kx := by unfold In64; omega
  have iky : In64 ky := by unfold In64; omega
  by_cases hx : cx = kx
  · subst hx
    by_cases hy : cy = ky
    · subst hy
      exact POf_3 x y v n cx cy rfl rfl rfl hs hr e1 e2 e3 hrp rfl rfl hin hI ix iy iv i_n icx icy w
    · exact POf_5 x y v n cx cy ky rfl rfl rfl hs hr e1 e2 e3 hrp rfl rfl hin hI (by rw [p]; simp [Ne.symm hy]) (by simpa using hy) iky ix iy iv i_n icx icy w
  · exact POf_4 x y v n cx cy kx ky rfl rfl rfl hs hr e1 e2 e3 hrp rfl rfl hin hI (by rw [p]; simp [Ne.symm hx]) (by simpa using hx) ikx iky ix iy iv i_n icx icy w
end Go.Proofs.Ytlcbomjdbdgbmaa

namespace Go.Proofs.Ytlcbomjdbdgbmaa
open Go.ChangeShapes Go.WideShapes Go.ChangeAt Go.RowKit Go.Joins
section
variable {H : Type} {enc : TypeId × Value → H} {w : World} {base : Nat} {spare : Nat → Bool} {held : Bool}
set_option maxRecDepth 100000 in
theorem open_spot {r : Reach} {b0 : Nat} {v : Value} {d : DataW H} {p : List MemPlace} (hv : Value.okWide Try.prog w r b0 67 v) (h : DataW.Trod enc Try.prog w base spare held 67 v d p) :
    ∃ x y z, InI x ∧ InI y ∧ InI z ∧ v = .agg #[.int .u64 (wd0 x), .int .u64 (wd1 x), .int .u64 (wd2 x), .int .u64 (wd3 x), .int .u64 (wd0 y), .int .u64 (wd1 y), .int .u64 (wd2 y), .int .u64 (wd3 y), .int .u64 (wd0 z), .int .u64 (wd1 z), .int .u64 (wd2 z), .int .u64 (wd3 z)] := by
  obtain ⟨cs, rfl, hsz⟩ := okWide_struct Try.underlying67 hv
  have hC : Try.prog.cellsOf 67 = 12 := by kernel_rfl
  obtain ⟨l⟩ := cs
  match l, hsz.trans hC with
  | [c0, c1, c2, c3, c4, c5, c6, c7, c8, c9, c10, c11], _ =>
    obtain ⟨fuel, hf⟩ := h
    obtain ⟨xs, k, _, hx, _, hlen, hg⟩ := DataW.trod_struct Try.underlying67 hf
    have hC4 : Try.prog.cellsOf 35 = 4 := by kernel_rfl
    match xs, hlen with
    | [y0, y1, y2], _ =>
      have g0 := hg 0 _ rfl
      have g1 := hg 1 _ rfl
      have g2 := hg 2 _ rfl
      simp [Value.cells, hC4] at g0 g1 g2
      obtain ⟨x, hx, rfl, rfl, rfl, rfl⟩ := open_four g0
      obtain ⟨y, hy, rfl, rfl, rfl, rfl⟩ := open_four g1
      obtain ⟨z, hz, rfl, rfl, rfl, rfl⟩ := open_four g2
      exact ⟨x, y, z, hx, hy, hz, rfl⟩
end
end Go.Proofs.Ytlcbomjdbdgbmaa

namespace Go.Proofs.Ytlcbomjdbdgbmaa
open Go.ChangeShapes Go.WideShapes Go.ChangeAt Go.RowKit

set_option maxRecDepth 100000 in
set_option maxHeartbeats 1000000 in
theorem pixelOf_lifted (os : Os) (started : os.Started) (H : Type) (enc : TypeId × Value → H) :
    ReturnsInHanded {} Try.checked os 6 .any (Rows.pixelOfSpec.pre6 enc Try.prog Try.f6 Rows.pixelOfRow.domain false) (Rows.pixelOfSpec.post enc Try.prog Try.f6 false true false false) := by
  refine returnsInHanded_of_change (C := Try.checked) own started (by kernel_rfl) Try.func6
    (ChangeSpec.witness6 (enc := enc) (C := Try.checked) false ⟨#[], #[.agg #[.int .u64 0, .int .u64 0, .int .u64 0, .int .u64 0, .int .u64 0, .int .u64 0, .int .u64 0, .int .u64 0, .int .u64 0, .int .u64 0, .int .u64 0, .int .u64 0], .int .i64 0, pI 0 0], []⟩ 8 (by kernel_rfl) (by kernel_rfl) (by kernel_rfl) (by kernel_rfl)) ?_
  intro W base args ds gs before hval0 hW hcnd _
  have hval : ∀ (j : Nat) t v, Try.f6.params[j]? = some t → args[j]? = some v → Value.okWide Try.prog W .any base t v := hval0
  have hW' := hW
  obtain ⟨p, q, hA0, hV, rfl, hfz, hnd⟩ := hW
  have hA : DataW.TrodAll enc Try.prog W 0 (fun _ => true) true Try.f6.params.toList args.toList ds p := hA0
  rw [Try.params6] at hA hval
  obtain ⟨v0, vs0, d0, ds0, p0, q0, hargs, rfl, rfl, h0, r0⟩ := trodAll_cons hA
  obtain ⟨v1, vs1, d1, ds1, p1, q1, rfl, rfl, rfl, h1, r1⟩ := trodAll_cons r0
  obtain ⟨v2, vs2, d2, ds2, p2, q2, rfl, rfl, rfl, h2, r2⟩ := trodAll_cons r1
  obtain ⟨rfl, rfl, rfl⟩ := trodAll_nil r2
  obtain rfl : args = #[v0, v1, v2] := by cases args; simp_all
  obtain ⟨rfl, rfl⟩ := trodVars_none hV
  have k0 := h0
  have lt0 : ∀ x ∈ p0, x.block < W.heap.size := by obtain ⟨m, hm⟩ := k0; exact DataW.trod_lt m _ _ _ hm
  obtain ⟨a0, b0, c0, ia0, ib0, ic0, rfl⟩ := open_spot (hval 0 67 v0 rfl rfl) h0
  obtain ⟨x1, rfl, rfl, rfl, wx1⟩ := open_int Try.underlying3 (hval 1 3 v1 rfl rfl) h1
  have ix1 := in64_wf wx1
  have k2 := h2
  have lt2 : ∀ x ∈ p2, x.block < W.heap.size := by obtain ⟨m, hm⟩ := k2; exact DataW.trod_lt m _ _ _ hm
  obtain ⟨x2, y2, ix2, iy2, rfl⟩ := open_point (hval 2 24 v2 rfl rfl) h2
  clear hA0 hval0
  refine (POf_any a0 b0 c0 x1 x2 y2 ia0 ib0 ic0 ix1 ix2 iy2 W).mono fun e W' ⟨he, bel⟩ => ?_
  subst he
  exact ⟨_, rfl, _, _, _, [], _, [], hW', trodAll_mk1 (shut_bool Try.underlying4 _), (trodAll_cons_mk (Below.trod laidOut (by kernel_rfl) (of_decide_eq_true (by kernel_rfl)) k0 bel lt0) (trodAll_cons_mk (shut_int Try.underlying3 wx1) (trodAll_cons_mk (Below.trod laidOut (by kernel_rfl) (of_decide_eq_true (by kernel_rfl)) k2 bel lt2) trodAll_mk0))), rfl, bel.frame _, fun h => by cases h⟩

theorem pixelOf_holds : Rows.PixelOfSaid :=
  OpenClaim.holds_of_wide 6 Try.f6 rfl rfl rfl rfl rfl rfl rfl ⟨rfl, rfl, rfl, rfl, rfl⟩ rfl rfl rfl rfl rfl (by kernel_rfl) Try.func6 (by kernel_rfl)
    (of_decide_eq_true (by kernel_rfl)) (by unfold Func.isWrapper; rw [if_neg (by decide +kernel)]; exact ⟨rfl, rfl⟩)
    (fun os started H enc _ => pixelOf_lifted os started H enc)
#print axioms pixelOf_holds
end Go.Proofs.Ytlcbomjdbdgbmaa

