/- AwBD: several of my texts in one: AwB. Conditions: as each of them says. -/
import Derived.Test.YtcfiemeknocgjaaDoorMul2
import Derived.Test.YtcfiemeknocgjaaDoorBig11
import Derived.Test.YtcfiemeknocgjaaDoorRegH
/- What the printed walks share: rows of stores, total sums and products, contracts that name their results. Conditions: none. -/
namespace Go.Proofs.YtcfiemeknocgjaaDoor
open Go.RowKit

/-- a row of stores -/
@[reducible] def setL : World → Nat → Nat → List Value → World
  | w, _, _, [] => w
  | w, b, o, v :: l => setL (w.setCell ⟨b, o, none⟩ v) b (o + 1) l
def putA : Array Value → Nat → List Value → Array Value
  | c, _, [] => c
  | c, o, v :: l => putA (c.setIfInBounds o v) (o + 1) l
theorem size_setL (w : World) (b o : Nat) (l : List Value) : (setL w b o l).heap.size = w.heap.size := by
  induction l generalizing w o with
  | nil => rfl
  | cons v l ih => unfold setL; rw [ih, size_set]
theorem blk_setL {w : World} {b b' : Nat} {c : Array Value} {t : TypeId} (h : Blk w b c t) (hne : b ≠ b') (o : Nat) (l : List Value) : Blk (setL w b' o l) b c t := by
  induction l generalizing w o with
  | nil => exact h
  | cons v l ih => unfold setL; exact ih (h.set hne _ _ _) _
theorem blk_putL {w : World} {b : Nat} {c : Array Value} {t : TypeId} (h : Blk w b c t) (o : Nat) (l : List Value) : Blk (setL w b o l) b (putA c o l) t := by
  induction l generalizing w o c with
  | nil => exact h
  | cons v l ih => unfold setL putA; exact ih (h.put _ _) _
theorem putA_full (p q l : List Value) (h : q.length = l.length) : putA (p ++ q).toArray p.length l = (p ++ l).toArray := by
  induction l generalizing p q with
  | nil => cases q with
    | nil => rfl
    | cons x q => cases h
  | cons v l ih => cases q with
    | nil => cases h
    | cons x q =>
      unfold putA
      have e : ((p ++ x :: q).toArray.setIfInBounds p.length v) = ((p ++ [v]) ++ q).toArray := by simp
      rw [e, show p.length + 1 = (p ++ [v]).length by simp, ih (p ++ [v]) q (by simpa using h)]
      simp
theorem blk_full {w : World} {b : Nat} {t : TypeId} (q l : List Value) (h : Blk w b q.toArray t) (hl : q.length = l.length) : Blk (setL w b 0 l) b l.toArray t := by
  have := blk_putL h 0 l
  rw [show putA q.toArray 0 l = l.toArray from putA_full [] q l hl] at this
  exact this
theorem blw_setL {B : Nat} {W w : World} {b : Nat} (h : Below B W w) (hB : B ≤ b) (o : Nat) (l : List Value) : Below B W (setL w b o l) := by
  induction l generalizing w o with
  | nil => exact h
  | cons v l ih => unfold setL; exact ih (h.setCell hB _) _
theorem blw_al {W w : World} (h : Below W.heap.size W w) (o : Obj) : Below W.heap.size W (w.alloc o) := h.alloc h.size o
theorem below_a4 (w : World) (o1 o2 o3 o4 : Obj) : Below w.heap.size w ((((w.alloc o1).alloc o2).alloc o3).alloc o4) := blw_al (below_a3 w o1 o2 o3) _
theorem below_a5 (w : World) (o1 o2 o3 o4 o5 : Obj) : Below w.heap.size w (((((w.alloc o1).alloc o2).alloc o3).alloc o4).alloc o5) := blw_al (below_a4 w o1 o2 o3 o4) _
theorem below_a6 (w : World) (o1 o2 o3 o4 o5 o6 : Obj) : Below w.heap.size w ((((((w.alloc o1).alloc o2).alloc o3).alloc o4).alloc o5).alloc o6) := blw_al (below_a5 w o1 o2 o3 o4 o5) _
theorem Blk.new4 (w : World) (o1 o2 o3 o4 : Obj) (c : Array Value) (t : TypeId) : Blk (((((w.alloc o1).alloc o2).alloc o3).alloc o4).alloc (.cells c t)) (w.heap.size + 1 + 1 + 1 + 1) c t := Blk.newAt _ _ (by simp) c t
theorem Blk.new5 (w : World) (o1 o2 o3 o4 o5 : Obj) (c : Array Value) (t : TypeId) : Blk ((((((w.alloc o1).alloc o2).alloc o3).alloc o4).alloc o5).alloc (.cells c t)) (w.heap.size + 1 + 1 + 1 + 1 + 1) c t := Blk.newAt _ _ (by simp) c t

theorem args_eq {f : FuncId} {a a' : Array Value} {w : World} {R : Ending → World → Prop} (h : Calls Tryd.prog f a w R) (ha : a = a') : Calls Tryd.prog f a' w R := ha ▸ h
theorem wrap64_in (x : Int) : In64 (wrap64 x) := by unfold wrap64 In64; omega
theorem wrap64_id {x : Int} (h : In64 x) : wrap64 x = x := by unfold wrap64; unfold In64 at h; omega
theorem cond_in {e : Bool} {a b : Int} (ha : InI a) (hb : InI b) : InI (bif e then a else b) := by cases e; exact hb; exact ha
theorem cond_64 {e : Bool} {a b : Int} (ha : In64 a) (hb : In64 b) : In64 (bif e then a else b) := by cases e; exact hb; exact ha
theorem in_0 : InI 0 := by unfold InI b255; omega
theorem i64_0 : In64 0 := by unfold In64; omega
theorem in64_I' {x : Int} (h : In64 x) : InI x := by unfold In64 at h; unfold InI b255; omega
/-- the product, if it fits; else 0 -/
def mulv (x y : Int) : Int := bif okI (x * y) then x * y else 0
def addv (x y : Int) : Int := bif okI (x + y) then x + y else 0
def subv (x y : Int) : Int := bif okI (x - y) then x - y else 0
theorem ok_in {z : Int} : InI (bif okI z then z else 0) := by
  cases h : okI z
  · exact in_0
  · exact of_decide_eq_true h
theorem mulv_in (x y : Int) : InI (mulv x y) := ok_in
theorem addv_in (x y : Int) : InI (addv x y) := ok_in
theorem subv_in (x y : Int) : InI (subv x y) := ok_in
theorem mulv_id {x y : Int} (h : InI (x * y)) : mulv x y = x * y := by unfold mulv; rw [show okI (x * y) = true from decide_eq_true h]; rfl
theorem addv_id {x y : Int} (h : InI (x + y)) : addv x y = x + y := by unfold addv; rw [show okI (x + y) = true from decide_eq_true h]; rfl
theorem subv_id {x y : Int} (h : InI (x - y)) : subv x y = x - y := by unfold subv; rw [show okI (x - y) = true from decide_eq_true h]; rfl
theorem Mul_v (x y p : Int) (o : Bool) (hp : mulv x y = p) (ho : okI (x * y) = o) (ix : InI x) (iy : InI y) (w : World) :
    Calls Tryd.prog 32 #[wI x, wI y] w fun e w' => e = .returned (.tuple #[wI p, .bool o]) ∧ Below w.heap.size w w' := by
  refine Mul_is x y o ho p ?_ w ix iy
  rw [← ho]; exact hp
theorem Add_v (x y p : Int) (o : Bool) (hp : addv x y = p) (ho : okI (x + y) = o) (ix : InI x) (iy : InI y) (w : World) :
    Calls Tryd.prog 53 #[wI x, wI y] w fun e w' => e = .returned (.tuple #[wI p, .bool o]) ∧ Below w.heap.size w w' := by
  refine Add_is x y o ho p ?_ w ix iy
  rw [← ho]; exact hp
theorem Sub_v (x y p : Int) (o : Bool) (hp : subv x y = p) (ho : okI (x - y) = o) (ix : InI x) (iy : InI y) (w : World) :
    Calls Tryd.prog 52 #[wI x, wI y] w fun e w' => e = .returned (.tuple #[wI p, .bool o]) ∧ Below w.heap.size w w' := by
  refine Sub_is x y o ho p ?_ w ix iy
  rw [← ho]; exact hp
def dvq (x y : Int) : Int := bif dvOk x y then fq x y else 0
def dvr (x y : Int) : Int := bif dvOk x y then fr x y else 0
theorem Div_v (x y q r : Int) (o : Bool) (hq : dvq x y = q) (hr : dvr x y = r) (ho : dvOk x y = o) (ix : InI x) (iy : InI y) (w : World) :
    Calls Tryd.prog 9 #[wI x, wI y] w fun e w' => e = .returned (.tuple #[wI q, wI r, .bool o]) ∧ Below w.heap.size w w' := by
  have T := Div_any x y w ix iy
  unfold dvq at hq; unfold dvr at hr
  rw [ho] at T hq hr
  subst hq; subst hr
  cases o <;> exact T
theorem dv_in {x y : Int} (ix : InI x) (iy : InI y) (h : dvOk x y = true) : InI (fq x y) ∧ InI (fr x y) := by
  unfold dvOk at h
  simp only [Bool.and_eq_true, decide_eq_true_eq] at h
  obtain ⟨s1, _, n0, n1, _, _⟩ := dv_spec ix iy h.1
  refine ⟨⟨?_, h.2⟩, ?_⟩
  · rw [← s1]
    clear s1
    generalize (ng x != ng y) = u at n0 n1 ⊢
    cases u
    · rw [cond_false]; unfold b255 at *; omega
    · rw [cond_true]; unfold b255 at *; omega
  · obtain ⟨j1, j2⟩ := iy
    rcases Int.lt_or_gt_of_ne h.1 with hn | hp
    · have := fr_neg (x := x) hn; unfold b255 at *; exact ⟨by unfold b255; omega, by unfold b255; omega⟩
    · have := fr_pos (x := x) hp; unfold b255 at *; exact ⟨by unfold b255; omega, by unfold b255; omega⟩
theorem dvq_in {x y : Int} (ix : InI x) (iy : InI y) : InI (dvq x y) := by
  unfold dvq
  cases h : dvOk x y
  · exact in_0
  · exact (dv_in ix iy h).1
theorem dvr_in {x y : Int} (ix : InI x) (iy : InI y) : InI (dvr x y) := by
  unfold dvr
  cases h : dvOk x y
  · exact in_0
  · exact (dv_in ix iy h).2
theorem Cmp_v (x y c : Int) (h : cmpI x y = c) (ix : InI x) (iy : InI y) (w : World) :
    Calls Tryd.prog 44 #[wI x, wI y] w fun e w' => e = .returned (.int .i64 c) ∧ Below w.heap.size w w' := h ▸ Cmp_any x y w ix iy
theorem Sign_v (x c : Int) (h : x.sign = c) (ix : InI x) (w : World) :
    Calls Tryd.prog 10 #[wI x] w fun e w' => e = .returned (.int .i64 c) ∧ Below w.heap.size w w' := h ▸ Sign_any x w ix
theorem Of_v (n d : Int) (h : n = d) (g : In64 n) (w : World) :
    Calls Tryd.prog 31 #[.int .i64 n] w fun e w' => e = .returned (wI d) ∧ Below w.heap.size w w' := h ▸ Of_any n w g
theorem cmpI_64 (x y : Int) : In64 (cmpI x y) := by unfold cmpI In64; split <;> (try split) <;> omega
theorem sign_64 (x : Int) : In64 x.sign := by unfold In64; rcases Int.lt_trichotomy x 0 with h | h | h
                                              · rw [Int.sign_eq_neg_one_of_neg h]; omega
                                              · rw [h]; decide
                                              · rw [Int.sign_eq_one_of_pos h]; omega
@[go_sem] theorem eq4_self (a b c d : Int) : eq4 a b c d a b c d = true := by unfold eq4; simp
@[go_sem] theorem eq4_00 : eq4 (wd0 0) (wd1 0) (wd2 0) (wd3 0) 0 0 0 0 = true := by decide
/-- two points alike? -/
def eqP (ax ay bx b_y : Int) : Bool := ax == bx && ay == b_y
end Go.Proofs.YtcfiemeknocgjaaDoor
