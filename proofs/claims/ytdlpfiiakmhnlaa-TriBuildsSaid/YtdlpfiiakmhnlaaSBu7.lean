/- The statement TriBuildsSaid: for every input the law returns true, and its arguments read as before. Conditions: none. -/
import Derived.Test.YtdlpfiiakmhnlaaSBu6
import Derived.KernelRfl
import Derived.StillTail
import Derived.OrdersHeld
import Derived.Deep.Quiet
import Derived.Below
import Derived.WalkKit
import Derived.Test.YtdlpfiiakmhnlaaProg
import Derived.WalkSpells
import Derived.StillTactics
import Derived.Laws.Pointers
import Derived.Deep.RegionHeld3
import Derived.RowKit3
import Derived.Deep.QuietTactic
import Derived.BigQuiet
import Derived.BigRegion
import Derived.Lib.Hide
import Derived.WalkSmall
import Derived.Laws.BitsAllLaws
import Derived.IntWalk
import Derived.Deep.OwnRows
import Derived.Deep.LoopGhost
import Derived.Shelf.Bits.Mul64
import Derived.Test.YtdlpfiiakmhnlaaRows
import Derived.ProofKit
import Derived.OpenShut
import Derived.ShutString
import Derived.ChangeOld
import Derived.Lib.SmallJoins
import Derived.Laws.IdiomArrays
import Derived.Laws.CopyOwn
import Derived.Laws.AppendOwn
import Derived.Deep.DeepAppendRoom
import Derived.Lib.AppendZerosOnto
import Derived.Lib.Overlaps
import Derived.Deep.RegionLaw
import Derived.Shelf.RegionOpenPlain
import Derived.Deep.RegionWith
import Derived.Sort.LoopGhostIn
import Derived.RangeFuncNested
import Derived.RangeFuncBound
import Derived.RangeFuncCalls
import Derived.RangeFuncLeaves
import Derived.OwnWalk
import Derived.OwnWalkIn
import Derived.TacticsInMore
import Derived.LoopNIn
import Derived.LoopIn
import Derived.Deep.DeepFit
import Derived.Deep.DeepCutAuto
import Derived.Shelf.Abstract
import Derived.Shelf.RegionOpen
import Derived.Maps.OwnIn
import Derived.WalkMore
import Derived.Deep.SlicePairs
namespace Go.Proofs.Ytdlpfiiakmhnlaa
open Go.RowKit

/-- a store is a triangulation of its points, with the hull H -/
structure GO (N : Nat) (X Y : Nat → Int) (O : Nat → List (Nat × Nat)) (H : List Nat) : Prop where
  pos : ∀ a b c : Nat, lookH (O a) b = some c → 0 < gT X Y a b c
  emp : ∀ a b c : Nat, lookH (O a) b = some c → ∀ k, k < N → k ≠ a → k ≠ b → k ≠ c → ¬ (0 ≤ gT X Y a b k ∧ 0 ≤ gT X Y b c k ∧ 0 ≤ gT X Y c a k)
  nox : ∀ a b c d e f : Nat, lookH (O a) b = some c → lookH (O d) e = some f → ¬ fcg X Y a b d e
  use : ∀ k, k < N → ∃ b c : Nat, lookH (O k) b = some c
  area : arT X Y (preO O N) = fanS X Y H (H.length - 2)
section
variable {N : Nat} {X Y : Nat → Int}
theorem sgn_pos {x : Int} : 0 < x.sign ↔ 0 < x := by
  rcases Int.lt_trichotomy x 0 with h | h | h
  · rw [Int.sign_eq_neg_one_of_neg h]; omega
  · rw [h]; simp
  · rw [Int.sign_eq_one_of_pos h]; omega
theorem sgn_neg {x : Int} : x.sign < 0 ↔ x < 0 := by
  rcases Int.lt_trichotomy x 0 with h | h | h
  · rw [Int.sign_eq_neg_one_of_neg h]; omega
  · rw [h]; simp
  · rw [Int.sign_eq_one_of_pos h]; omega
theorem sgn_mul_neg {x y : Int} : x.sign * y.sign < 0 ↔ x * y < 0 := by rw [← Int.sign_mul, sgn_neg]
theorem inT_gT (hg : allC N X Y = true) {x : Tri3} (h1 : x.1 < N) (h2 : x.2.1 < N) (h3 : x.2.2 < N) {k : Nat} (hk : k < N) (hp : 0 < gT X Y x.1 x.2.1 x.2.2) (hn : ¬ (0 ≤ gT X Y x.1 x.2.1 k ∧ 0 ≤ gT X Y x.2.1 x.2.2 k ∧ 0 ≤ gT X Y x.2.2 x.1 k)) : inT X Y (X k) (Y k) x < 0 := by
  have hw : 0 < wy X Y x.1 x.2.1 x.2.2 := by rw [wy_sgn hg h1 h2 h3]; exact sgn_pos.2 hp
  rcases Int.lt_or_le (inT X Y (X k) (Y k) x) 0 with h | h
  · exact h
  · exfalso
    obtain ⟨_, h5⟩ := (inT_bey hw).1 h
    rw [bey_none] at h5
    obtain ⟨q1, q2, q3⟩ := h5
    have a1 : ¬ (gT X Y x.1 x.2.1 k).sign < 0 := by rw [← wy_sgn hg h1 h2 hk]; exact Int.not_lt.2 q1
    have a2 : ¬ (gT X Y x.2.1 x.2.2 k).sign < 0 := by rw [← wy_sgn hg h2 h3 hk]; exact Int.not_lt.2 q2
    have a3 : ¬ (gT X Y x.2.2 x.1 k).sign < 0 := by rw [← wy_sgn hg h3 h1 hk]; exact Int.not_lt.2 q3
    rw [sgn_neg] at a1 a2 a3
    exact hn ⟨by omega, by omega, by omega⟩
theorem mq9 (x y : Tri3) (hx : x.1 ≠ x.2.1 ∧ x.2.1 ≠ x.2.2 ∧ x.1 ≠ x.2.2) (hy : y.1 ≠ y.2.1 ∧ y.2.1 ≠ y.2.2 ∧ y.1 ≠ y.2.2) (h : mq x y 9 = 3) :
    (x.1 = y.1 ∨ x.1 = y.2.1 ∨ x.1 = y.2.2) ∧ (x.2.1 = y.1 ∨ x.2.1 = y.2.1 ∨ x.2.1 = y.2.2) ∧ (x.2.2 = y.1 ∨ x.2.2 = y.2.1 ∨ x.2.2 = y.2.2) := by
  obtain ⟨x0, x1, x2⟩ := x
  obtain ⟨y0, y1, y2⟩ := y
  simp only [] at hx hy ⊢
  have e : mq (x0, x1, x2) (y0, y1, y2) 9 = ((if x0 = y0 then 1 else 0) + (if x0 = y1 then 1 else 0) + (if x0 = y2 then 1 else 0)) + ((if x1 = y0 then 1 else 0) + (if x1 = y1 then 1 else 0) + (if x1 = y2 then 1 else 0)) + ((if x2 = y0 then 1 else 0) + (if x2 = y1 then 1 else 0) + (if x2 = y2 then 1 else 0)) := by
    show ((((((((0 + (if x0 = y0 then 1 else 0)) + (if x0 = y1 then 1 else 0)) + (if x0 = y2 then 1 else 0)) + (if x1 = y0 then 1 else 0)) + (if x1 = y1 then 1 else 0)) + (if x1 = y2 then 1 else 0)) + (if x2 = y0 then 1 else 0)) + (if x2 = y1 then 1 else 0)) + (if x2 = y2 then 1 else 0) = _
    omega
  rw [e] at h
  have row : ∀ z : Nat, (if z = y0 then 1 else 0) + (if z = y1 then 1 else 0) + (if z = y2 then 1 else 0) ≤ 1 ∧ ((if z = y0 then 1 else 0) + (if z = y1 then 1 else 0) + (if z = y2 then 1 else 0) = 1 → z = y0 ∨ z = y1 ∨ z = y2) := by
    intro z
    by_cases h0 : z = y0
    · rw [if_pos h0, if_neg (by omega), if_neg (by omega)]; exact ⟨Nat.le_refl _, fun _ => .inl h0⟩
    · rw [if_neg h0]
      by_cases h1 : z = y1
      · rw [if_pos h1, if_neg (by omega)]; exact ⟨Nat.le_refl _, fun _ => .inr (.inl h1)⟩
      · rw [if_neg h1]
        by_cases h2 : z = y2
        · rw [if_pos h2]; exact ⟨Nat.le_refl _, fun _ => .inr (.inr h2)⟩
        · rw [if_neg h2]; exact ⟨by omega, fun h => by omega⟩
  have r0 := row x0
  have r1 := row x1
  have r2 := row x2
  exact ⟨r0.2 (by omega), r1.2 (by omega), r2.2 (by omega)⟩
theorem GO.rt {O : Nat → List (Nat × Nat)} {H : List Nat} {n : Nat} (G : GO N X Y O H) (hg : allC N X Y = true) (hw : WS N O n) : RT N X Y (preO O N) H := by
  have look : ∀ x, x ∈ preO O N → lookH (O x.1) x.2.1 = some x.2.2 ∧ x.1 < x.2.1 ∧ x.1 < x.2.2 := fun x hx => by
    obtain ⟨h1, h2, h3, h4⟩ := mem_preO.1 hx
    exact ⟨(look_mem (hw.cyc.srt _)).1 h2, h3, h4⟩
  have side : ∀ x, x ∈ preO O N → ∀ i, i < 3 → lookH (O (cr x i)) (cr x ((i + 1) % 3) : Nat) = some (cr x ((i + 2) % 3)) := fun x hx i hi => by
    obtain ⟨h1, _, _⟩ := look x hx
    have h2 := hw.cyc.rot _ _ _ h1
    have h3 := hw.cyc.rot _ _ _ h2
    rcases (show i = 0 ∨ i = 1 ∨ i = 2 by omega) with rfl | rfl | rfl
    · exact h1
    · exact h2
    · exact h3
  refine ⟨fun x hx => hw.dom _ _ _ (look x hx).1, fun x hx => ?_, fun x hx k hk n1 n2 n3 => ?_, fun i k x y hki hx hy => ?_, fun k hk => ?_, G.area⟩
  · obtain ⟨d1, d2, d3⟩ := hw.dom _ _ _ (look x hx).1
    rw [wy_sgn hg d1 d2 d3]
    exact sgn_pos.2 (G.pos _ _ _ (look x hx).1)
  · obtain ⟨d1, d2, d3⟩ := hw.dom _ _ _ (look x hx).1
    exact inT_gT hg d1 d2 d3 hk (G.pos _ _ _ (look x hx).1) (G.emp _ _ _ (look x hx).1 k hk n1 n2 n3)
  · have mx := List.mem_iff_getElem?.2 ⟨i, hx⟩
    have my := List.mem_iff_getElem?.2 ⟨k, hy⟩
    have sx := side x mx
    have sy := side y my
    have hne : y ≠ x := preO_ne hw.cyc.srt hy hx hki
    have key : ∀ i k, i < 3 → k < 3 → ¬ (cr x i = cr y k ∧ cr x ((i + 1) % 3) = cr y ((k + 1) % 3)) := by
      rintro i k hi hk ⟨e1, e2⟩
      have a := sx i hi
      have b := sy k hk
      rw [e1, e2, b] at a
      injection a with a
      obtain ⟨_, lx1, lx2⟩ := look x mx
      obtain ⟨_, ly1, ly2⟩ := look y my
      apply hne
      obtain ⟨x0, x1, x2⟩ := x
      obtain ⟨y0, y1, y2⟩ := y
      simp only [] at lx1 lx2 ly1 ly2
      rcases (show i = 0 ∨ i = 1 ∨ i = 2 by omega) with rfl | rfl | rfl <;> rcases (show k = 0 ∨ k = 1 ∨ k = 2 by omega) with rfl | rfl | rfl
      all_goals
        simp [cr] at e1 e2 a
        first | (exfalso; omega) | (rw [Prod.mk.injEq, Prod.mk.injEq]; omega)
    refine ⟨fun i k hi hk => ?_, key, fun h9 => ?_⟩
    · have a := sx i hi
      have b := sy k hk
      obtain ⟨d1, d2, _⟩ := hw.dom _ _ _ a
      obtain ⟨e1, e2, _⟩ := hw.dom _ _ _ b
      rw [wy_sgn hg d1 d2 e1, wy_sgn hg d1 d2 e2, wy_sgn hg e1 e2 d1, wy_sgn hg e1 e2 d2, sgn_mul_neg, sgn_mul_neg]
      exact G.nox _ _ _ _ _ _ a b
    · obtain ⟨hx1, lx1, lx2⟩ := look x mx
      obtain ⟨hy1, ly1, ly2⟩ := look y my
      have px := G.pos _ _ _ hx1
      have py := G.pos _ _ _ hy1
      have nx := hw.cyc.ne _ _ _ (hw.cyc.rot _ _ _ hx1)
      have ny := hw.cyc.ne _ _ _ (hw.cyc.rot _ _ _ hy1)
      obtain ⟨c0, c1, c2⟩ := mq9 x y ⟨by omega, nx, by omega⟩ ⟨by omega, ny, by omega⟩ h9
      have k01 := key 0 0 (by omega) (by omega)
      obtain ⟨x0, x1, x2⟩ := x
      obtain ⟨y0, y1, y2⟩ := y
      simp only [] at lx1 lx2 ly1 ly2 px py nx ny c0 c1 c2
      have hxy : x0 = y0 := by omega
      have k00 : ¬ (x0 = y0 ∧ x1 = y1) := k01
      have e1 : x1 = y2 := by omega
      have e2 : x2 = y1 := by omega
      subst hxy e1 e2
      have : gT X Y x0 x2 x1 = -gT X Y x0 x1 x2 := by unfold gT; grind
      omega
  · obtain ⟨b, c, h1⟩ := G.use k hk
    obtain ⟨x, hx, hr⟩ := (rot_left hw.cyc hw.dom (t0 := k) (t1 := b) (t2 := c)).2 ⟨c, by rw [leftO_of hk]; exact h1, rfl⟩
    refine ⟨x, hx, ?_⟩
    rcases isRot_iff.1 hr with h | h | h <;> omega
theorem told_arI {a b c : Nat} : ∀ (L : List (Nat × Nat)), arT X Y (told a (insH b c L)) = arT X Y (told a L) + if a < b ∧ a < c then gT X Y a b c else 0 := by
  have h1 : ∀ (x : Nat × Nat) L, arT X Y (told a (x :: L)) = (if a < x.1 ∧ a < x.2 then gT X Y a x.1 x.2 else 0) + arT X Y (told a L) := by
    intro x L
    unfold told
    rw [List.filter_cons]
    by_cases e : a < x.1 ∧ a < x.2
    · rw [if_pos e, if_pos (by simpa using e)]; unfold arT; simp
    · rw [if_neg e, if_neg (by simpa using e)]; omega
  intro L
  induction L with
  | nil => show arT X Y (told a [(b, c)]) = _; rw [h1]; show (if a < b ∧ a < c then gT X Y a b c else 0) + arT X Y (told a []) = arT X Y (told a []) + _; omega
  | cons x l ih =>
    show arT X Y (told a (if x.1 < b then x :: insH b c l else (b, c) :: x :: l)) = _
    split
    · rw [h1, h1, ih]; omega
    · rw [h1]; show (if a < b ∧ a < c then gT X Y a b c else 0) + _ = _; omega
theorem pre_arI {O : Nat → List (Nat × Nat)} {a b c : Nat} : ∀ N, arT X Y (preO (put1 O a b c) N) = arT X Y (preO O N) + if a < N ∧ a < b ∧ a < c then gT X Y a b c else 0
  | 0 => by rw [if_neg (by omega)]; show arT X Y [] = arT X Y [] + 0; omega
  | N + 1 => by
    show arT X Y (preO (put1 O a b c) N ++ told N (put1 O a b c N)) = arT X Y (preO O N ++ told N (O N)) + _
    rw [arT_app, arT_app, pre_arI N]
    unfold put1
    by_cases e : N = a
    · subst e
      rw [if_pos rfl, told_arI, if_neg (by omega)]
      by_cases h : N < b ∧ N < c
      · rw [if_pos h, if_pos (by omega)]; omega
      · rw [if_neg h, if_neg (by omega)]; omega
    · rw [if_neg e]
      by_cases h : a < N ∧ a < b ∧ a < c
      · rw [if_pos h, if_pos (by omega)]; omega
      · rw [if_neg h, if_neg (by omega)]; omega
theorem pre_arT {O : Nat → List (Nat × Nat)} {a b c : Nat} (ha : a < N) (hb : b < N) (hc : c < N) (n1 : a ≠ b) (n2 : b ≠ c) (n3 : a ≠ c) : arT X Y (preO (putT O a b c) N) = arT X Y (preO O N) + gT X Y a b c := by
  unfold putT
  rw [pre_arI, pre_arI, pre_arI]
  have e1 : gT X Y b c a = gT X Y a b c := gT_rot a b c
  have e2 : gT X Y c a b = gT X Y a b c := by rw [gT_rot b c a, gT_rot]
  rcases (show (a < b ∧ a < c) ∨ (b < a ∧ b < c) ∨ (c < a ∧ c < b) by omega) with h | h | h
  · rw [if_pos (by omega), if_neg (by omega), if_neg (by omega)]; omega
  · rw [if_neg (by omega), if_pos (by omega), if_neg (by omega)]; omega
  · rw [if_neg (by omega), if_neg (by omega), if_pos (by omega)]; omega
theorem pre_arA : ∀ (l : List Tri3) {O : Nat → List (Nat × Nat)}, PutOk N O l → arT X Y (preO (putAll O l) N) = arT X Y (preO O N) + arT X Y l := by
  intro l
  induction l with
  | nil => intro O _; show _ = _ + arT X Y []; have : arT X Y [] = 0 := by unfold arT; rfl
           rw [this]; show arT X Y (preO O N) = _; omega
  | cons t l ih =>
    intro O hp
    obtain ⟨⟨a1, a2, a3, n1, n2, n3, h1, h2, h3⟩, hp⟩ := hp
    show arT X Y (preO (putAll (putT O t.1 t.2.1 t.2.2) l) N) = _
    rw [ih hp, pre_arT a1 a2 a3 n1 n2 n3]
    have : arT X Y (t :: l) = gT X Y t.1 t.2.1 t.2.2 + arT X Y l := by unfold arT; simp
    omega
end
/-- scaled abscissae change no sign -/
theorem sX_cO (X Y : Nat → Int) (a b : Nat) : cO (sX X Y) Y a b = 4398046511105 * cO X Y a b := by unfold cO sX; grind
theorem sX_fcg {X Y : Nat → Int} {a b c d : Nat} (h : fcg X Y a b c d) : fcg (sX X Y) Y a b c d := by
  have key : ∀ x y : Int, x * y < 0 → (4398046511105 * x) * (4398046511105 * y) < 0 := fun x y h => by
    have e : (4398046511105 * x) * (4398046511105 * y) = 19342813113842862888321025 * (x * y) := by grind
    rw [e]; omega
  refine ⟨?_, ?_⟩
  · rw [sX_T, sX_T]; exact key _ _ h.1
  · rw [sX_T, sX_T]; exact key _ _ h.2
theorem sumN_mul (c : Int) (f : Nat → Int) : ∀ k, sumN (fun i => c * f i) k = c * sumN f k
  | 0 => by show 0 = c * 0; omega
  | k + 1 => by
    show sumN (fun i => c * f i) k + c * f k = c * (sumN f k + f k)
    rw [sumN_mul c f k, Int.mul_add]
theorem sX_shoe (X Y : Nat → Int) (h : List Nat) : shoe (sX X Y) Y h = 4398046511105 * shoe X Y h := by
  unfold shoe
  rw [← sumN_mul]
  exact sumN_congr _ fun i _ => sX_cO _ _ _ _
theorem sX_arT (X Y : Nat → Int) : ∀ T, arT (sX X Y) Y T = 4398046511105 * arT X Y T
  | [] => by unfold arT; simp
  | t :: l => by
    have e1 : arT (sX X Y) Y (t :: l) = gT (sX X Y) Y t.1 t.2.1 t.2.2 + arT (sX X Y) Y l := by unfold arT; simp
    have e2 : arT X Y (t :: l) = gT X Y t.1 t.2.1 t.2.2 + arT X Y l := by unfold arT; simp
    rw [e1, e2, sX_T, sX_arT X Y l, Int.mul_add]
/-- what Build makes is one -/
theorem Tri.go {N q : Nat} {X Y : Nat → Int} {T : List Tri3} {O : Nat → List (Nat × Nat)} (h : Tri N X Y q T O) (hg : allC N X Y = true) (hr : risC N X Y) (hq : q < N) : ∃ H r, GO N X Y O H ∧ RC N X Y H ∧ H.length = r + 2 := by
  obtain ⟨hh, z, eT, eh, HH, HB, _, hz, hz0, _, hrc⟩ := h.some hq
  have hk : q + (N - 1 - q) = N - 1 := by omega
  obtain ⟨G, ha⟩ := bld_geo hg hr h.ln hq (N - 1 - q) (by omega)
  rw [← eT, hk] at G
  rw [← eT, ← eh] at ha
  have h3 := HH.len
  have hl : (rotH hh z).length = hh.length := rotH_len hh z
  have hp : PutOk N (fun _ => []) T := putok_fresh _ rep_none h.fresh
  have har : arT X Y T = shoe X Y hh := by
    rw [sX_arT, sX_shoe] at ha
    exact mul_eq_pos (by decide) ha
  have look : ∀ a b c : Nat, lookH (O a) b = Option.some c → ∃ t, t ∈ T ∧ ((a = t.1 ∧ b = t.2.1 ∧ c = t.2.2) ∨ (a = t.2.1 ∧ b = t.2.2 ∧ c = t.1) ∨ (a = t.2.2 ∧ b = t.1 ∧ c = t.2.1)) := fun a b c hl => by
    rw [h.all] at hl
    rcases look_all T Cyc.nil hp a b c hl with h4 | h4
    · cases h4
    · exact h4
  have sgn : ∀ a b c, 0 ≤ gT X Y a b c → 0 ≤ gT (sX X Y) Y a b c := fun a b c h => by rw [sX_T]; omega
  have sd : ∀ a b c : Nat, lookH (O a) b = Option.some c → gSd T a b := fun a b c hl => by
    obtain ⟨t, ht, h4⟩ := look a b c hl
    refine ⟨t, ht, ?_⟩
    rcases h4 with ⟨h1, h2, _⟩ | ⟨h1, h2, _⟩ | ⟨h1, h2, _⟩
    · exact .inl ⟨h1, h2⟩
    · exact .inr (.inl ⟨h1, h2⟩)
    · exact .inr (.inr ⟨h1, h2⟩)
  refine ⟨rotH hh z, hh.length - 2, ⟨fun a b c hl => ?_, fun a b c hl k hk n1 n2 n3 hin => ?_, fun a b c d e f h1 h2 hf => ?_, fun k hk => ?_, ?_⟩, hrc, by rw [hl]; omega⟩
  · obtain ⟨t, ht, h4⟩ := look a b c hl
    have hp := G.pos t ht
    rw [sX_T] at hp
    have hp2 : 0 < gT X Y t.1 t.2.1 t.2.2 := by omega
    rcases h4 with ⟨rfl, rfl, rfl⟩ | ⟨rfl, rfl, rfl⟩ | ⟨rfl, rfl, rfl⟩
    · exact hp2
    · rw [gT_rot]; exact hp2
    · rw [← gT_rot]; exact hp2
  · obtain ⟨t, ht, h4⟩ := look a b c hl
    rcases h4 with ⟨rfl, rfl, rfl⟩ | ⟨rfl, rfl, rfl⟩ | ⟨rfl, rfl, rfl⟩
    · exact G.emp t ht k (by omega) n1 n2 n3 ⟨sgn _ _ _ hin.1, sgn _ _ _ hin.2.1, sgn _ _ _ hin.2.2⟩
    · exact G.emp t ht k (by omega) n3 n1 n2 ⟨sgn _ _ _ hin.2.2, sgn _ _ _ hin.1, sgn _ _ _ hin.2.1⟩
    · exact G.emp t ht k (by omega) n2 n3 n1 ⟨sgn _ _ _ hin.2.1, sgn _ _ _ hin.2.2, sgn _ _ _ hin.1⟩
  · exact G.nox _ _ _ _ (sd _ _ _ h1) (sd _ _ _ h2) (sX_fcg hf)
  · obtain ⟨t, ht, h4⟩ := G.use k (by omega)
    obtain ⟨c1, c2, c3⟩ := gSd_corner ht
    have key : ∀ a b, gSd T a b → ∃ b c : Nat, lookH (O a) b = Option.some c := fun a b hs => by
      cases e : lookH (O a) (b : Nat) with
      | some c => exact ⟨b, c, e⟩
      | none => exact absurd hs ((h.rep.2 a b).1 e)
    rcases h4 with rfl | rfl | rfl
    · exact key _ _ c1
    · exact key _ _ c2
    · exact key _ _ c3
  · rw [h.all, pre_arA T hp, pre_nil, har, hl]
    have : arT X Y [] = 0 := by unfold arT; rfl
    rw [this, ← shoe_rot hh z (by omega), shoe_fan (rotH hh z) (hh.length - 2) (by rw [hl]; omega)]
    unfold fanS
    omega
end Go.Proofs.Ytdlpfiiakmhnlaa

namespace Go.Proofs.Ytdlpfiiakmhnlaa
open Go.RowKit
attribute [local go_sem] undef

set_option maxRecDepth 100000 in
set_option maxHeartbeats 2000000 in
theorem awake_is (w : World) : Calls Try.prog 11 #[] w fun e w' => e = .returned (.bool true) ∧ Below w.heap.size w w' := by
  go_enter Try.func11, Try.ntmps11
  go_wp2_with fail
  refine calls_w ?_
  intro V hV
  have bV : Below w.heap.size w V := by rw [hV]; exact below_a1 _ _
  have P1 : Pts V (some ⟨w.heap.size, 0, none⟩) 4 4 (lX [0, 0, 2, 2]) (lX [0, 2, 0, 2]) := by
    rw [hV]
    refine Pts.ofBlk (Blk.new w _ _) (by omega) fun i hi => ?_
    rcases (show i = 0 ∨ i = 1 ∨ i = 2 ∨ i = 3 by omega) with rfl | rfl | rfl | rfl <;> exact ⟨rfl, rfl⟩
  clear hV
  refine (Build_tri _ 4 4 _ _ V P1 (by omega) aw_1.1 aw_1.2).mono ?_
  rintro e V2 ⟨t, D, q, T, O, rfl, hT, hS, _, hb⟩
  obtain rfl := aw_q hT.ln
  obtain ⟨h, z, e1, e2, _, _, _, _, _, hH, _⟩ := hT.some (by omega)
  have hl : T.length = 2 := by
    rw [e1]; exact aw_len.1
  have hl2 : (rotH h z).length = 4 := by rw [rotH_len, e2]; exact aw_len.2
  rw [hl] at hS
  have HS := Lib.hid hS
  have HH := Lib.hid hH
  have HL := Lib.hid hl2
  have B2 := Lib.hid (bV.trans (hb.mono bV.size))
  clear P1 hT hS hH hl hl2 e1 e2 hb bV
  go_wp2_with fail
  refine (Len_is t D 4 _ _ O _ V2 HS.out).mono ?_
  rintro e V3 ⟨rfl, hb⟩
  have HS3 := Lib.hid (HS.out.of hb)
  have B3 := Lib.hid (B2.out.trans (hb.mono B2.out.size))
  clear hb HS B2
  go_wp2_with fail
  refine calls_w ?_
  intro V hV
  have bV : Below V3.heap.size V3 V := by rw [hV]; exact below_a1 _ _
  have P1 : Pts V (some ⟨V3.heap.size, 0, none⟩) 3 3 (lX [0, 1, 2]) (lX [0, 0, 0]) := by
    rw [hV]
    refine Pts.ofBlk (Blk.new V3 _ _) (by omega) fun i hi => ?_
    rcases (show i = 0 ∨ i = 1 ∨ i = 2 by omega) with rfl | rfl | rfl <;> exact ⟨rfl, rfl⟩
  clear hV
  refine (Build_tri _ 3 3 _ _ V P1 (by omega) aw_2.1 aw_2.2).mono ?_
  rintro e V4 ⟨t2, D2, q2, T2, O2, rfl, hT, hS, _, hb⟩
  obtain rfl := hT.none (aw_q2 hT.ln)
  have HA := Lib.hid hS
  have BB := bV.trans (hb.mono bV.size)
  have HS4 := Lib.hid (HS3.out.of BB)
  have B4 := Lib.hid (B3.out.trans (BB.mono B3.out.size))
  clear P1 hT hS hb BB bV HS3 B3
  go_wp2_with fail
  refine calls_w ?_
  intro V hV
  have bV : Below V4.heap.size V4 V := by rw [hV]; exact below_a1 _ _
  have P1 : Pts V (some ⟨V4.heap.size, 0, none⟩) 2 2 (lX [1, 0]) (lX [0, 0]) := by
    rw [hV]
    refine Pts.ofBlk (Blk.new V4 _ _) (by omega) fun i hi => ?_
    rcases (show i = 0 ∨ i = 1 by omega) with rfl | rfl <;> exact ⟨rfl, rfl⟩
  clear hV
  refine (Build_fall _ 2 2 _ _ V P1 (by omega) aw_3.1 aw_3.2).mono ?_
  rintro e V5 ⟨rfl, hb⟩
  have BB := bV.trans (hb.mono bV.size)
  have HS5 := Lib.hid (HS4.out.of BB)
  have HA5 := Lib.hid (HA.out.of BB)
  have B5 := Lib.hid (B4.out.trans (BB.mono B4.out.size))
  clear P1 hb BB bV HS4 B4 HA
  go_wp2_with fail
  refine (Len_is t2 D2 3 _ _ O2 _ V5 HA5.out).mono ?_
  rintro e V6 ⟨rfl, hb⟩
  have HS6 := Lib.hid (HS5.out.of hb)
  have B6 := Lib.hid (B5.out.trans (hb.mono B5.out.size))
  clear hb HS5 B5 HA5
  go_wp2_with fail
  refine (Hull_is t D 4 _ _ O _ _ HH.out (by decide) V6 HS6.out).mono ?_
  rintro e V7 ⟨v, rfl, hv, hb⟩
  obtain ⟨ao, cap, rfl, _⟩ := hv.val
  rw [HL.out]
  have B7 := Lib.hid (B6.out.trans (hb.mono B6.out.size))
  clear hb hv HS6 B6
  go_wp2
  go_ret
  exact ⟨rfl, B7.out⟩
end Go.Proofs.Ytdlpfiiakmhnlaa

namespace Go.Proofs.Ytdlpfiiakmhnlaa
open Go.RowKit
attribute [local go_sem] undef

theorem Trs.one {w : World} {b p0 p1 p2 : Nat} {ty : TypeId} (h : Blk w b #[.int .i64 (p0 : Nat), .int .i64 (p1 : Nat), .int .i64 (p2 : Nat)] ty) : Trs w (some ⟨b, 0, none⟩) 1 [(p0, p1, p2)] := by
  refine ⟨fun _ => ⟨b, rfl, h.lt, fun j x hx => ?_⟩, Nat.le_refl _, by omega⟩
  match j, hx with
  | 0, hx => simp at hx; subst hx; exact ⟨h.cell 0, h.cell 1, h.cell 2⟩
  | j + 1, hx => simp at hx
theorem pre_len (O : Nat → List (Nat × Nat)) {N M : Nat} (h : ∀ a, a < N → (O a).length ≤ M) : (preO O N).length ≤ N * M := by
  induction N with
  | zero => show 0 ≤ _; omega
  | succ N ih =>
    show (preO O N ++ told N (O N)).length ≤ _
    have h1 := ih fun a ha => h a (by omega)
    have h2 := h N (by omega)
    have h3 : (told N (O N)).length ≤ (O N).length := by unfold told; rw [List.length_map]; exact List.length_filter_le _ _
    rw [List.length_append, Nat.succ_mul]; omega
theorem SM.preL {w : World} {t : Nat} {D : SD} {N : Nat} {X Y : Nat → Int} {O : Nat → List (Nat × Nat)} {n : Int} (h : SM w t D N X Y O n) : (preO O N).length < 100000000 := by
  have h1 := pre_len O (N := N) (M := N) fun a ha => sort_len (h.sort a ha) fun x hx => (h.dom a ha x hx).1
  have h2 := h.small
  have : N * N ≤ 4096 * 4096 := Nat.mul_le_mul h2 h2
  omega
end Go.Proofs.Ytdlpfiiakmhnlaa

namespace Go.Proofs.Ytdlpfiiakmhnlaa
open Go.RowKit Go.Shelf

/-- two points alike? -/
def eqB (ax ay bx b_y : Int) : Bool := ax == bx && ay == b_y
theorem run_eqB0 (a b c d : Int) (w : World) :
    (Op.equalIn 10000 41 (.agg #[.int .i64 a, .int .i64 b]) (.agg #[.int .i64 c, .int .i64 d])).run Try.prog w = .ok (eqB a b c d) w := by
  unfold eqB
  by_cases h0 : a = c <;> by_cases h1 : b = d
  all_goals go_simp
theorem run_neqB (a b c d : Int) (w : World) :
    (binOp .neq 41 (.agg #[.int .i64 a, .int .i64 b]) (.agg #[.int .i64 c, .int .i64 d])).run Try.prog w = .ok (.bool (!eqB a b c d)) w := by
  rw [run_neq_struct, run_eqB0]; rfl
@[go_sem] theorem run_neqB1 (a b : Int) (w : World) :
    (binOp .neq 41 (.agg #[.int .i64 a, .int .i64 b]) (.agg #[.int .i64 a, .int .i64 b])).run Try.prog w = .ok (.bool false) w := by
  rw [run_neqB]; unfold eqB; simp
set_option maxRecDepth 100000 in
set_option maxHeartbeats 4000000 in
theorem Right_flat (po : Option Addr) (N pc : Nat) (X Y : Nat → Int) (ao : Option Addr) (cap : Nat) (w : World) (hP : Pts w po N pc X Y) (hN : N ≤ 24) (hf : ∀ i, 2 ≤ i → i < N → wy X Y 0 1 i = 0) :
    Calls Try.prog 25 #[.slice po N pc, .slice ao 0 cap] w fun e w' => e = .returned (.bool true) ∧ Below w.heap.size w w' := by
  have HP := Lib.hid hP
  have HFL := Lib.hid hf
  have hpcl := hP.capl
  have hpcb := hP.capb
  clear hP hf
  go_enter Try.func25, Try.ntmps25
  go_wp2_with fail
  refine (Flat_is po N pc X Y w HP.out (by omega)).mono ?_
  rintro e W1 ⟨b, rfl, hfb, hb1⟩
  obtain rfl : b = true := hfb.2 HFL.out
  have B1 := Lib.hid hb1
  clear hfb hb1
  go_wp2
  go_ret
  exact ⟨rfl, B1.out⟩
theorem Tri.few {N q : Nat} {X Y : Nat → Int} {T : List Tri3} {O : Nat → List (Nat × Nat)} (h : Tri N X Y q T O) : T.length ≤ 2 * N := by
  rcases Nat.lt_or_ge q N with hq | hq
  · obtain ⟨hh, z, eT, eh, HH, HB, _⟩ := h.some hq
    have := HB.cnt
    omega
  · rw [h.none (by have := h.ln.2.1; omega)]; exact Nat.zero_le _
/-- gromaref20's Right of what Build makes -/
theorem Right_tri (po : Option Addr) (N pc : Nat) (X Y : Nat → Int) (ao : Option Addr) (cap n q : Nat) (T : List Tri3) (O : Nat → List (Nat × Nat)) (w : World) (hP : Pts w po N pc X Y) (hN : N ≤ 24) (hg : allC N X Y = true) (hr : risC N X Y) (h : Tri N X Y q T O) (hT : Trs w ao cap (preO O N)) (hn : (preO O N).length = n) :
    Calls Try.prog 25 #[.slice po N pc, .slice ao n cap] w fun e w' => e = .returned (.bool true) ∧ Below w.heap.size w w' := by
  have hw := h.ws
  rcases Nat.lt_or_ge q N with hq | hq
  · obtain ⟨H, r, G, hC, hH⟩ := h.go hg hr hq
    have hl := h.ln
    exact Right_is po N pc X Y ao cap _ n H r w hP hN hg hT hn (by rw [← hn, hw.cnt]; have := h.few; omega) (G.rt hg hw) hC hH ⟨q, by have := hl.1; omega, hq, hl.2.2.2 hq⟩
  · have hqN : q = N := by have := h.ln.2.1; omega
    have h0 : n = 0 := by rw [← hn, hw.cnt, h.none hqN]; rfl
    subst h0
    exact Right_flat po N pc X Y ao cap w hP hN fun i h1 h2 => h.ln.2.2.1 i h1 (by omega)
set_option maxRecDepth 100000 in
set_option maxHeartbeats 8000000 in
theorem TriBuilds_any (ao : Option Addr) (N cap : Nat) (X Y : Nat → Int) (w : World) (h : Pts w ao N cap X Y) :
    Calls Try.prog 6 #[.slice ao N cap] w fun e w' => e = .returned (.bool true) ∧ Below w.heap.size w w' := by
  have HP := Lib.hid h
  have hcl := h.capl
  have hcb := h.capb
  clear h
  go_enter Try.func6, Try.ntmps6
  by_cases h24 : 24 < N
  · have h24' : (24 : Int) < (N : Int) := by omega
    go_wp2_with fail
    refine (awake_is _).mono ?_
    rintro e V ⟨rfl, hb⟩
    go_wp2
    go_ret
    exact ⟨rfl, hb⟩
  · have h24' : ¬ (24 : Int) < (N : Int) := by omega
    by_cases hg : allC N X Y = true
    · by_cases hr : risC N X Y
      · have HG := Lib.hid hg
        have HRI := Lib.hid hr
        clear hg hr
        go_wp2_with fail
        refine (Build_tri ao N cap X Y w HP.out (by omega) HG.out HRI.out).mono ?_
        rintro e V1 ⟨t, D, q, T, O, rfl, hT, hS, hDl, hb⟩
        have HT1 := Lib.hid hT
        have HS1 := Lib.hid hS
        have B1 := Lib.hid hb
        clear hT hS hDl hb
        go_wp2_with fail
        refine (rising_is ao N cap X Y V1 (HP.out.of B1.out) (by omega)).mono ?_
        rintro e V2 ⟨b, rfl, hr, hb⟩
        obtain rfl : b = true := hr.2 (rsP_ris.2 ⟨HG.out, HRI.out⟩)
        have HS2 := Lib.hid (HS1.out.of hb)
        have B2 := Lib.hid (B1.out.trans (hb.mono B1.out.size))
        clear hr hb HS1 B1
        go_wp2_with fail
        refine (Points_is t D N X Y O _ V2 HS2.out).mono ?_
        rintro e V3 ⟨ao3, rfl, hP3, hb⟩
        have HS3 := Lib.hid (HS2.out.of hb)
        have B3 := Lib.hid (B2.out.trans (hb.mono B2.out.size))
        have hc3 := hP3.capb
        clear hP3 hb HS2 B2
        go_wp2_with fail
        refine (Points_is t D N X Y O _ V3 HS3.out).mono ?_
        rintro e V4 ⟨ao4, rfl, hP4, hb⟩
        have HS4 := Lib.hid (HS3.out.of hb)
        have HP4 := Lib.hid hP4
        have B4 := Lib.hid (B3.out.trans (hb.mono B3.out.size))
        clear hP4 hb HS3 B3
        go_wp2_with fail
        go_loopg [49] N (fun gk s49 wr => ∃ k : Nat, s49 = .int .i64 k ∧ k ≤ N ∧ N - k ≤ gk ∧ Hid (Below V4.heap.size V4 wr))
        case atStart => exact ⟨0, rfl, Nat.zero_le _, by omega, Lib.hid (Below.refl _ _)⟩
        case round =>
          obtain ⟨k, rfl, hk, hgk, HW⟩ := hrel
          have HWB := Lib.hid (B4.out.trans (HW.out.mono B4.out.size))
          by_cases hlt : k < N
          · obtain ⟨pa, rfl, p0, p1⟩ := HP4.out.at HW.out hlt
            obtain ⟨bx, hbx⟩ : ∃ x, X k = x := ⟨_, rfl⟩
            obtain ⟨b_y, hby⟩ : ∃ x, Y k = x := ⟨_, rfl⟩
            rw [hbx] at p0
            rw [hby] at p1
            have HB := Lib.hid (And.intro hbx hby)
            clear hbx hby
            go_wp2_with fail
            refine name_world ?_
            intro W hW
            have hbW : Below wr.heap.size wr W := by rw [hW]; exact below_a1 _ _
            have HV : Hid (Blk W wr.heap.size #[.int .i64 bx, .int .i64 b_y] 41) := by rw [hW]; exact Lib.hid (Blk.new wr _ _)
            have c0 := HV.out.cell 0
            have c1 := HV.out.cell 1
            have l0 := HV.out.lt
            have hbk := Lib.hid (HW.out.trans (hbW.mono HW.out.size))
            obtain ⟨pa2, he2, hpt⟩ := (HP.out.of (B4.out.trans (hbk.out.mono B4.out.size))).atP (by omega)
            have qa := hpt k hlt
            rw [HB.out.1, HB.out.2] at qa
            subst he2
            have qa0 := fun u => (qa u).1
            have qa1 := fun u => (qa u).2
            clear hW hbW p0 p1 hpt qa
            refine wp_region_up W.heap.size 5 [(true, 0), (true, 1), (true, 2), (true, 3), (true, 4)] (by kernel_rfl) (by kernel_rfl) (fun _ _ d _ _ h => by cases d <;> exact h) ?_
            have hb : Below W.heap.size W W.drew := (Below.refl _ _).drew
            iterate 5
              refine wpS_takeL rfl rfl ?_
              go_big_quiet_step (rfl)
              refine wpQuiet_nil ?_
            refine wpS_nil ?_
            simp only [List.drop_succ_cons, List.drop_zero]
            have HW2 := Lib.hid (hbk.out.trans (hb.mono hbk.out.size))
            go_wp2_with fail
            go_roundg (N - (k + 1))
            case measure => omega
            case rel => exact ⟨k + 1, by norm_cast, by omega, Nat.le_refl _, HW2⟩
          · have HSw := Lib.hid (HS4.out.of HW.out)
            go_wp2_with fail
            refine (refs_is ao N cap X Y _ (HP.out.of HWB.out) (by omega)).mono ?_
            rintro e V5 ⟨v, rfl, hrow, hb⟩
            obtain ⟨po, pc, rfl, hpp⟩ := Pts.ofRow hrow
            have HPP := Lib.hid hpp
            have hpcl := hpp.capl
            have hpcb := hpp.capb
            have HS5 := Lib.hid (HSw.out.of hb)
            have B5 := Lib.hid (HWB.out.trans (hb.mono HWB.out.size))
            clear hrow hb hpp HSw
            obtain ⟨L, hL⟩ : ∃ L, preO O N = L := ⟨_, rfl⟩
            have hlen : L.length < 100000000 := by rw [← hL]; exact HS5.out.preL
            have HLL := Lib.hid hL
            clear hL
            go_wp2_with fail
            refine (all_is t D N X Y O _ L HLL.out hlen V5 HS5.out).mono ?_
            rintro e V6 ⟨v, rfl, hTL, hb⟩
            obtain ⟨ao6, cap6, rfl, hTr⟩ := Trs.ofRow hTL
            have HTr := Lib.hid hTr
            have hcl6 := hTr.capl
            have hcb6 := hTr.capb
            have HS6 := Lib.hid (HS5.out.of hb)
            have HPP6 := Lib.hid (HPP.out.of hb)
            have B6 := Lib.hid (B5.out.trans (hb.mono B5.out.size))
            clear hTL hb hTr HS5 B5 HPP
            obtain ⟨n6, hn6⟩ : ∃ n, L.length = n := ⟨_, rfl⟩
            have HN6 := Lib.hid hn6
            rw [hn6] at hcl6 hlen ⊢
            clear hn6
            go_wp2_with fail
            refine (Right_tri po N pc X Y ao6 cap6 n6 q T O V6 HPP6.out (by omega) HG.out HRI.out HT1.out (by rw [HLL.out]; exact HTr.out) (by rw [HLL.out]; exact HN6.out)).mono ?_
            rintro e V7 ⟨rfl, hb⟩
            have HS7 := Lib.hid (HS6.out.of hb)
            have B7 := Lib.hid (B6.out.trans (hb.mono B6.out.size))
            clear hb HS6 B6
            have hW8 := HT1.out.ws
            have hT8 : T.length < 100000000 := by have := HT1.out.few; omega
            have HW8 := Lib.hid hW8
            clear hW8
            go_wp2_with fail
            refine (whole_is t D N X Y O T.length hT8 HW8.out V7 HS7.out).mono ?_
            rintro e V8 ⟨rfl, hb⟩
            have B8 := Lib.hid (B7.out.trans (hb.mono B7.out.size))
            clear hb
            go_wp2_with fail
            refine (awake_is _).mono ?_
            rintro e V9 ⟨rfl, hb⟩
            have B9 := Lib.hid (B8.out.trans (hb.mono B8.out.size))
            clear hb
            go_wp2
            go_ret
            exact ⟨rfl, B9.out⟩
      · have HG := Lib.hid hg
        have HRI := Lib.hid hr
        clear hg hr
        go_wp2_with fail
        refine (Build_fall ao N cap X Y w HP.out (by omega) HG.out HRI.out).mono ?_
        rintro e V1 ⟨rfl, hb⟩
        have B1 := Lib.hid hb
        clear hb
        go_wp2_with fail
        refine (rising_is ao N cap X Y V1 (HP.out.of B1.out) (by omega)).mono ?_
        rintro e V2 ⟨b, rfl, hr, hb⟩
        obtain rfl : b = false := by
          cases b with
          | false => rfl
          | true => exact absurd (rsP_ris.1 (hr.1 rfl)).2 HRI.out
        have B2 := Lib.hid (B1.out.trans (hb.mono B1.out.size))
        clear hr hb
        go_wp2_with fail
        refine (awake_is _).mono ?_
        rintro e V3 ⟨rfl, hb⟩
        have B3 := Lib.hid (B2.out.trans (hb.mono B2.out.size))
        clear hb
        go_wp2
        go_ret
        exact ⟨rfl, B3.out⟩
    · have HG := Lib.hid hg
      have hgf : allC N X Y = false := by
        cases e : allC N X Y with
        | false => rfl
        | true => exact absurd e HG.out
      have HGF := Lib.hid hgf
      clear hg hgf
      go_wp2_with fail
      refine (Build_bad ao N cap X Y w HP.out (by omega) HGF.out).mono ?_
      rintro e V1 ⟨rfl, hb⟩
      have B1 := Lib.hid hb
      clear hb
      go_wp2_with fail
      refine (rising_is ao N cap X Y V1 (HP.out.of B1.out) (by omega)).mono ?_
      rintro e V2 ⟨b, rfl, hr, hb⟩
      obtain rfl : b = false := by
        cases b with
        | false => rfl
        | true => exact absurd (rsP_ris.1 (hr.1 rfl)).1 HG.out
      have B2 := Lib.hid (B1.out.trans (hb.mono B1.out.size))
      clear hr hb
      go_wp2_with fail
      refine (awake_is _).mono ?_
      rintro e V3 ⟨rfl, hb⟩
      have B3 := Lib.hid (B2.out.trans (hb.mono B2.out.size))
      clear hb
      go_wp2
      go_ret
      exact ⟨rfl, B3.out⟩
end Go.Proofs.Ytdlpfiiakmhnlaa

namespace Go.Proofs.Ytdlpfiiakmhnlaa
open Go.ChangeShapes Go.WideShapes Go.ChangeAt Go.RowKit

theorem blk_add (a : Addr) (n : Nat) : (a.add n).block = a.block := by unfold Addr.add; split <;> rfl
section
variable {H : Type} {enc : TypeId × Value → H} {w : World} {base : Nat} {held : Bool}
set_option maxRecDepth 100000 in
theorem open_pts {r : Reach} {b0 : Nat} {v : Value} {d : DataW H} {p : List MemPlace} (hv : Value.okWide Try.prog w r b0 22 v) (h : DataW.Trod enc Try.prog w base (fun _ => true) held 22 v d p) :
    ∃ ao n cap X Y, v = .slice ao n cap ∧ Pts w ao n cap X Y := by
  obtain ⟨ao, n, cap, rfl⟩ := okWide_slice Try.underlying22 hv
  obtain ⟨fuel, hf⟩ := h
  have hC : Try.prog.cellsOf 41 = 2 := by kernel_rfl
  have hC1 : Try.prog.cellsOf 3 = 1 := by kernel_rfl
  rcases Go.Deep.open_slice_pairs Try.underlying22 Try.underlying41 hC rfl rfl hC1 hC1 hf with ⟨hc, hx⟩ | ⟨a, len, c2, m, k, V0, V1, D0, D1, P0, P1, hc, _, hl, hm, hmm, hx, hall⟩
  · obtain ⟨rfl, rfl, rfl⟩ : ao = none ∧ n = 0 ∧ cap = 0 := by simpa [Value.cells] using hc
    exact ⟨none, 0, 0, fun _ => 0, fun _ => 0, rfl, fun h => absurd h (by omega), Nat.le_refl _, by omega⟩
  · obtain ⟨rfl, rfl, rfl⟩ : ao = some a ∧ n = len ∧ cap = c2 := by simpa [Value.cells] using hc
    have hmc : m = cap := by rw [hmm]; rfl
    have key : ∀ i, i < n → ∃ y : Int × Int, V0 i = .int .i64 y.1 ∧ V1 i = .int .i64 y.2 := by
      intro i hi
      obtain ⟨_, _, t0, t1⟩ := hall i (by omega)
      obtain ⟨a0, e0, _, g0⟩ := DataW.trod_int Try.underlying3 t0
      obtain ⟨a1, e1, _, g1⟩ := DataW.trod_int Try.underlying3 t1
      exact ⟨(a0, a1), by simpa using e0, by simpa using e1⟩
    refine ⟨some a, n, cap, fun i => if h : i < n then (key i h).choose.1 else 0, fun i => if h : i < n then (key i h).choose.2 else 0, rfl, fun h0 => ⟨a, rfl, ?_, fun i hi => ?_⟩, hl, hm⟩
    · have := (hall 0 (by omega)).1
      have := World.block_lt_of_cell? _ _ this
      rwa [blk_add] at this
    · have e0 := (hall i (by omega)).1
      have e1 := (hall i (by omega)).2.1
      rw [(key i hi).choose_spec.1] at e0
      rw [(key i hi).choose_spec.2] at e1
      simp only [dif_pos hi]
      exact ⟨e0, by rw [Go.Deep.add_add]; exact e1⟩
end
end Go.Proofs.Ytdlpfiiakmhnlaa

namespace Go.Proofs.Ytdlpfiiakmhnlaa
open Go.ChangeShapes Go.WideShapes Go.ChangeAt Go.RowKit

set_option maxRecDepth 100000 in
set_option maxHeartbeats 1000000 in
theorem triBuilds_lifted (os : Os) (started : os.Started) (H : Type) (enc : TypeId × Value → H) :
    ReturnsInHanded {} Try.checked os 6 .any (Rows.triBuildsSpec.pre6 enc Try.prog Try.f6 Rows.triBuildsRow.domain false) (Rows.triBuildsSpec.post enc Try.prog Try.f6 false true false false) := by
  refine returnsInHanded_of_change (C := Try.checked) own started (by kernel_rfl) Try.func6
    (ChangeSpec.witness6 (enc := enc) (C := Try.checked) false ⟨#[], #[.slice none 0 0], []⟩ 8 (by kernel_rfl) (by kernel_rfl) (by kernel_rfl) (by kernel_rfl)) ?_
  intro W base args ds gs before hval0 hW hcnd _
  have hval : ∀ (j : Nat) t v, Try.f6.params[j]? = some t → args[j]? = some v → Value.okWide Try.prog W .any base t v := hval0
  have hW' := hW
  obtain ⟨p, q, hA0, hV, rfl, hfz, hnd⟩ := hW
  have hA : DataW.TrodAll enc Try.prog W 0 (fun _ => true) true Try.f6.params.toList args.toList ds p := hA0
  rw [Try.params6] at hA hval
  obtain ⟨v0, vs0, d0, ds0, p0, q0, hargs, rfl, rfl, h0, r0⟩ := trodAll_cons hA
  obtain ⟨rfl, rfl, rfl⟩ := trodAll_nil r0
  obtain rfl : args = #[v0] := by cases args; simp_all
  obtain ⟨rfl, rfl⟩ := trodVars_none hV
  have k0 := h0
  have lt0 : ∀ x ∈ p0, x.block < W.heap.size := by obtain ⟨m, hm⟩ := k0; exact DataW.trod_lt m _ _ _ hm
  obtain ⟨ao0, n0, cap0, X0, Y0, rfl, io0⟩ := open_pts (hval 0 22 v0 rfl rfl) h0
  clear hA0 hval0
  refine (TriBuilds_any ao0 n0 cap0 X0 Y0 W io0).mono fun e W' ⟨he, bel⟩ => ?_
  subst he
  exact ⟨_, rfl, _, _, _, [], _, [], hW', trodAll_mk1 (shut_bool Try.underlying4 _), (trodAll_cons_mk (Below.trod laidOut (by kernel_rfl) (of_decide_eq_true (by kernel_rfl)) k0 bel lt0) trodAll_mk0), rfl, bel.frame _, fun h => by cases h⟩

theorem triBuilds_holds : Rows.TriBuildsSaid :=
  OpenClaim.holds_of_wide 6 Try.f6 rfl rfl rfl rfl rfl rfl rfl ⟨rfl, rfl, rfl, rfl, rfl⟩ rfl rfl rfl rfl rfl (by kernel_rfl) Try.func6 (by kernel_rfl)
    (of_decide_eq_true (by kernel_rfl)) (by unfold Func.isWrapper; rw [if_neg (by decide +kernel)]; exact ⟨rfl, rfl⟩)
    (fun os started H enc _ => triBuilds_lifted os started H enc)
#print axioms triBuilds_holds
end Go.Proofs.Ytdlpfiiakmhnlaa

