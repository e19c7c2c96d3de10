/- Blocks of memory that are known whole; what keeps them. Conditions: none. -/
import Derived.Test.YtcfiemeknocgjaaDoorNum
import Derived.Test.YtcfiemeknocgjaaDoorReg
import Derived.WalkKit
namespace Go.Proofs.YtcfiemeknocgjaaDoor
open Go.RowKit

/-- a block of cells that is known whole, and may be written -/
def Blk (w : World) (b : Nat) (c : Array Value) (t : TypeId) : Prop := w.heap[b]? = some (.cells c t (0, 0))

section
variable {w w' W : World} {b b' o : Nat} {c : Array Value} {t : TypeId} {B : Nat}

theorem Blk.lt (h : Blk w b c t) : b < w.heap.size := (Array.getElem?_eq_some_iff.1 h).1
theorem Blk.cell (h : Blk w b c t) (o : Nat) : w.cell? ⟨b, o, none⟩ = c[o]? := by
  unfold World.cell?; rw [show w.heap[b]? = _ from h]; rfl
theorem Blk.free (h : Blk w b c t) (o : Nat) : w.frozen? ⟨b, o, none⟩ = false := by
  unfold World.frozen?; rw [show w.heap[b]? = _ from h]; simp
theorem Blk.below (h : Blk W b c t) (hb : Below B W w') (hB : b < B) : Blk w' b c t := (hb.block b hB).trans h
theorem Blk.of (h : Blk W b c t) (hb : Below W.heap.size W w') : Blk w' b c t := h.below hb h.lt
theorem Blk.alloc (h : Blk w b c t) (o : Obj) : Blk (w.alloc o) b c t := h.of ((Below.refl _ _).alloc (Nat.le_refl _) o)
theorem Blk.drew (h : Blk w b c t) : Blk w.drew b c t := h
theorem Blk.new (w : World) (c : Array Value) (t : TypeId) : Blk (w.alloc (.cells c t)) w.heap.size c t := by
  show (w.heap.push _)[w.heap.size]? = _
  rw [Array.getElem?_push, if_pos rfl]
theorem Blk.set (h : Blk w b c t) (hne : b ≠ b') (o : Nat) (s : Option Nat) (v : Value) : Blk (w.setCell ⟨b', o, s⟩ v) b c t := by
  show (w.setCell ⟨b', o, s⟩ v).heap[b]? = _
  rw [Below.heap_setCell _ _ _ _ (by simpa using hne)]; exact h
theorem Blk.put (h : Blk w b c t) (o : Nat) (v : Value) : Blk (w.setCell ⟨b, o, none⟩ v) b (c.setIfInBounds o v) t := by
  show (w.heap.modify b _)[b]? = _
  rw [Array.getElem?_modify, if_pos rfl, show w.heap[b]? = _ from h]; rfl
theorem size_set (w : World) (a : Addr) (v : Value) : (w.setCell a v).heap.size = w.heap.size := by simp [World.setCell]

theorem Blk.newAt (w : World) (n : Nat) (hn : n = w.heap.size) (c : Array Value) (t : TypeId) : Blk (w.alloc (.cells c t)) n c t := hn ▸ Blk.new w c t
theorem Blk.new1 (w : World) (o1 : Obj) (c : Array Value) (t : TypeId) : Blk ((w.alloc o1).alloc (.cells c t)) (w.heap.size + 1) c t := Blk.newAt _ _ (by simp) c t
theorem Blk.new2 (w : World) (o1 o2 : Obj) (c : Array Value) (t : TypeId) : Blk (((w.alloc o1).alloc o2).alloc (.cells c t)) (w.heap.size + 1 + 1) c t := Blk.newAt _ _ (by simp) c t
theorem Blk.new3 (w : World) (o1 o2 o3 : Obj) (c : Array Value) (t : TypeId) : Blk ((((w.alloc o1).alloc o2).alloc o3).alloc (.cells c t)) (w.heap.size + 1 + 1 + 1) c t := Blk.newAt _ _ (by simp) c t
theorem below_set4 (h : Below B W w) (hB : B ≤ b) (x y z u : Value) : Below B W ((((w.setCell ⟨b, 0, none⟩ x).setCell ⟨b, 1, none⟩ y).setCell ⟨b, 2, none⟩ z).setCell ⟨b, 3, none⟩ u) :=
  (((h.setCell hB x).setCell hB y).setCell hB z).setCell hB u

/-- the walk goes on under a name of the world -/
theorem name_world {P : Program} {c : Code} {Q : Exit → Act → World → Prop} {a : Act} {w : World} (h : ∀ W, W = w → c.wp P Q a W) : c.wp P Q a w := h w rfl

theorem calls_w {P : Program} {f : FuncId} {args : Array Value} {w : World} {R : Ending → World → Prop} (h : ∀ W, W = w → Calls P f args W R) : Calls P f args w R := h w rfl

theorem post_world {P : Program} {fn : Func} {R : Ending → World → Prop} {e : Exit} {a : Act} {w : World} (h : ∀ W, W = w → bodyPost P fn R e a W) : bodyPost P fn R e a w := h w rfl

theorem list_world {P : Program} {ops : Array Oper} {l : List Oper} {Q : Exit → Act → World → Prop} {a : Act} {w : World} (h : ∀ W, W = w → wpList P ops Q l a W) : wpList P ops Q l a w := h w rfl
end

/-- the Go value of a number: its four words -/
abbrev wC (x : Int) : Array Value := #[.int .u64 (wd0 x), .int .u64 (wd1 x), .int .u64 (wd2 x), .int .u64 (wd3 x)]
abbrev wI (x : Int) : Value := .agg (wC x)
theorem wC_0 : wC 0 = #[.int .u64 0, .int .u64 0, .int .u64 0, .int .u64 0] := rfl

/-- a variable that holds a number -/
abbrev Var (w : World) (b : Nat) (x : Int) : Prop := Blk w b (wC x) 24
theorem Var.c {w : World} {b : Nat} {x : Int} (h : Var w b x) : w.cell? ⟨b, 0, none⟩ = some (.int .u64 (wd0 x)) ∧ w.cell? ⟨b, 1, none⟩ = some (.int .u64 (wd1 x)) ∧ w.cell? ⟨b, 2, none⟩ = some (.int .u64 (wd2 x)) ∧ w.cell? ⟨b, 3, none⟩ = some (.int .u64 (wd3 x)) :=
  ⟨h.cell 0, h.cell 1, h.cell 2, h.cell 3⟩
theorem Var.f {w : World} {b : Nat} {x : Int} (h : Var w b x) : w.frozen? ⟨b, 0, none⟩ = false ∧ w.frozen? ⟨b, 1, none⟩ = false ∧ w.frozen? ⟨b, 2, none⟩ = false ∧ w.frozen? ⟨b, 3, none⟩ = false :=
  ⟨h.free 0, h.free 1, h.free 2, h.free 3⟩
theorem Var.put4 {w : World} {b : Nat} {x : Int} (h : Var w b x) (y : Int) :
    Var ((((w.setCell ⟨b, 0, none⟩ (.int .u64 (wd0 y))).setCell ⟨b, 1, none⟩ (.int .u64 (wd1 y))).setCell ⟨b, 2, none⟩ (.int .u64 (wd2 y))).setCell ⟨b, 3, none⟩ (.int .u64 (wd3 y))) b y :=
  (((Blk.put h 0 _).put 1 _).put 2 _).put 3 _
theorem Blk.set4 {w : World} {b b' : Nat} {c : Array Value} {t : TypeId} (h : Blk w b c t) (hne : b ≠ b') (x y z u : Value) :
    Blk ((((w.setCell ⟨b', 0, none⟩ x).setCell ⟨b', 1, none⟩ y).setCell ⟨b', 2, none⟩ z).setCell ⟨b', 3, none⟩ u) b c t :=
  (((h.set hne 0 none x).set hne 1 none y).set hne 2 none z).set hne 3 none u
end Go.Proofs.YtcfiemeknocgjaaDoor
