/- Contracts of the references' numbers that name their results. Conditions: the numbers have so many digits. -/
import Derived.Test.YtcfiemeknocgjaaDoorAwBD
import Derived.Test.YtcfiemeknocgjaaDoorWdC
import Derived.Test.YtcfiemeknocgjaaDoorBig11
import Derived.Test.YtcfiemeknocgjaaDoorMul2
namespace Go.Proofs.YtcfiemeknocgjaaDoor
open Go.RowKit

theorem heap_setL (w : World) (b o : Nat) (l : List Value) (k : Nat) (hk : k ≠ b) : (setL w b o l).heap[k]? = w.heap[k]? := by
  induction l generalizing w o with
  | nil => rfl
  | cons v l ih => unfold setL; rw [ih, Below.heap_setCell _ _ _ _ hk]
theorem big_setL {w : World} {v : Value} {n : Int} {L b : Nat} (h : Big w v n L) {x : Value} (hd : w.cell? ⟨b, 0, none⟩ = some x) (hx : ∀ i, x ≠ .int .i64 i) (o : Nat) (l : List Value) : Big (setL w b o l) v n L := by
  obtain ⟨neg, ao, b3, cap, ds, h1, h2, h3⟩ := h
  have hne : 0 < ds.length → b3 ≠ b := by
    intro h0 e
    have := h2.cell 0 h0
    rw [e, hd] at this
    exact hx _ (Option.some.inj this)
  refine ⟨neg, ao, b3, cap, ds, h1, ⟨h2.ptr, h2.nil, h2.capl, h2.len, h2.capb, fun i hi => ?_, fun hl => ?_⟩, h3⟩
  · have e := h2.cell i hi
    unfold World.cell? at e ⊢
    rw [heap_setL _ _ _ _ _ (hne (by omega))]; exact e
  · rw [size_setL]; exact h2.blk hl
theorem big_al {w : World} {v : Value} {n : Int} {L : Nat} (h : Big w v n L) (o : Obj) : Big (w.alloc o) v n L := h.of ((Below.refl _ _).alloc (Nat.le_refl _) _)
theorem bigOf_v (n d : Int) (h : n = d) (g : In64 n) (w : World) : Calls Tryd.prog 24 #[.int .i64 n] w (GivesBig w d 5) := h ▸ bigOf_any n w g
theorem bigMul_v (v v' : Value) (n m p : Int) (L L' : Nat) (hp : n * m = p) (w : World) (h : Big w v n L) (h' : Big w v' m L') (hL : L + L' < 268435456) :
    Calls Tryd.prog 25 #[v, v'] w (GivesBig w p (L + L')) := hp ▸ bigMul_any v v' n m L L' w h h' hL
theorem bigAdd_v (v v' : Value) (n m p : Int) (L : Nat) (hp : n + m = p) (w : World) (h : Big w v n L) (h' : Big w v' m L) (hL : L < 268435456) :
    Calls Tryd.prog 23 #[v, v'] w (GivesBig w p (L + 1)) := hp ▸ bigAdd_any v v' n m L w h h' hL
theorem bigSub_v (v v' : Value) (n m p : Int) (L : Nat) (hp : n - m = p) (w : World) (h : Big w v n L) (h' : Big w v' m L) (hL : L < 268435456) :
    Calls Tryd.prog 40 #[v, v'] w (GivesBig w p (L + 1)) := hp ▸ bigSub_any v v' n m L w h h' hL
theorem bigMinus_v (v : Value) (n p : Int) (L : Nat) (hp : -n = p) (w : World) (h : Big w v n L) : Calls Tryd.prog 18 #[v] w (GivesBig w p L) := hp ▸ Minus_any v n L w h
theorem bigCmp_v (v v' : Value) (n m : Int) (L L' : Nat) (c : Int) (hc : cmpI n m = c) (w : World) (h : Big w v n L) (h' : Big w v' m L') :
    Calls Tryd.prog 20 #[v, v'] w fun e w' => e = .returned (.int .i64 c) ∧ Below w.heap.size w w' := hc ▸ bigCmp_any v v' n m L L' w h h'
theorem bigSign_v (v : Value) (n : Int) (L : Nat) (s : Int) (hs : n.sign = s) (w : World) (h : Big w v n L) :
    Calls Tryd.prog 17 #[v] w fun e w' => e = .returned (.int .i64 s) ∧ Below w.heap.size w w' := hs ▸ bigSign_any v n L w h
theorem Read_v (x d : Int) (h : x = d) (ix : InI x) (w : World) : Calls Tryd.prog 16 #[wI x] w (GivesBig w d 18) := by
  have := Read_any x w
  have e : sg x = d := (sg_id ix).trans h
  rw [e] at this
  exact this
end Go.Proofs.YtcfiemeknocgjaaDoor
