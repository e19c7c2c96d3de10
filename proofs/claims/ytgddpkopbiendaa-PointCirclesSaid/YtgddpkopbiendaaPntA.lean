/- The walk of gromalaw03's awake. Conditions: none. -/
import Derived.Test.YtgddpkopbiendaaPnt9
namespace Go.Proofs.Ytgddpkopbiendaa
open Go.RowKit

theorem Turn_is (ax ay bx b_y cx cy r : Int) (h : way ax ay bx b_y cx cy = r) (w : World) :
    Calls Try.prog 37 #[pI ax ay, pI bx b_y, pI cx cy] w fun e w' => e = .returned (.int .i64 r) ∧ Below w.heap.size w w' := h ▸ Turn_any ax ay bx b_y cx cy w
theorem Circle_is (ax ay bx b_y cx cy px py r : Int) (h : crc ax ay bx b_y cx cy px py = r) (w : World) :
    Calls Try.prog 47 #[pI ax ay, pI bx b_y, pI cx cy, pI px py] w fun e w' => e = .returned (.int .i64 r) ∧ Below w.heap.size w w' := h ▸ Circle_any ax ay bx b_y cx cy px py w
theorem On_is (ax ay bx b_y cx cy : Int) (r : Bool) (h : onB ax ay bx b_y cx cy = r) (w : World) :
    Calls Try.prog 45 #[pI ax ay, pI bx b_y, pI cx cy] w fun e w' => e = .returned (.bool r) ∧ Below w.heap.size w w' := h ▸ On_any ax ay bx b_y cx cy w
theorem PtCmp_is (ax ay bx b_y r : Int) (h : cmpP ax ay bx b_y = r) (w : World) :
    Calls Try.prog 42 #[pI ax ay, pI bx b_y] w fun e w' => e = .returned (.int .i64 r) ∧ Below w.heap.size w w' := h ▸ PtCmp_any ax ay bx b_y w

set_option maxRecDepth 100000 in
set_option maxHeartbeats 2000000 in
theorem pawake_any (w : World) : Calls Try.prog 40 #[] w fun e w' => e = .returned (.bool true) ∧ Below w.heap.size w w' := by
  have q1 : way 0 0 2 0 0 2 = 1 := by decide
  have q2 : crc 0 0 2 0 0 2 1 1 = 1 := by decide
  have q3 : crc 2 0 0 0 0 2 1 1 = 1 := by decide
  have q4 : crc 0 0 2 0 0 2 3 2 = -1 := by decide
  have q5 : crc 0 0 2 0 0 2 2 2 = 0 := by decide
  have q6 : onB 2 0 0 2 1 1 = true := by decide
  have q7 : cmpP 0 0 2 0 = -1 := by decide
  have Q1 := Lib.hid q1
  have Q2 := Lib.hid q2
  have Q3 := Lib.hid q3
  have Q4 := Lib.hid q4
  have Q5 := Lib.hid q5
  have Q6 := Lib.hid q6
  have Q7 := Lib.hid q7
  clear q1 q2 q3 q4 q5 q6 q7
  go_enter Try.func40, Try.ntmps40
  go_wp2_with fail
  refine calls_w ?_
  intro W hW
  have k1 : PVar W w.heap.size 0 0 := by rw [hW]; exact (Blk.new w _ _).alloc _ |>.alloc _
  have k2 : PVar W (w.heap.size + 1) 2 0 := by rw [hW]; exact (Blk.new1 w _ _ _).alloc _
  have k3 : PVar W (w.heap.size + 1 + 1) 0 2 := by rw [hW]; exact (Blk.new2 w _ _ _ _)
  have hb0 : Below w.heap.size w W := by rw [hW]; exact below_a3 _ _ _ _
  clear hW
  refine (Turn_is 0 0 2 0 0 2 1 Q1.out _).mono ?_
  rintro e u1 ⟨rfl, hn⟩
  replace k1 : PVar u1 _ _ _ := k1.of hn
  replace k2 : PVar u1 _ _ _ := k2.of hn
  replace k3 : PVar u1 _ _ _ := k3.of hn
  replace hb0 := hb0.trans (hn.mono hb0.size)
  clear hn
  have c1 := PVar.c k1
  have c2 := PVar.c k2
  have c3 := PVar.c k3
  go_wp2_with fail
  refine (Circle_is 0 0 2 0 0 2 1 1 1 Q2.out _).mono ?_
  rintro e u2 ⟨rfl, hn⟩
  replace k1 : PVar u2 _ _ _ := k1.of hn
  replace k2 : PVar u2 _ _ _ := k2.of hn
  replace k3 : PVar u2 _ _ _ := k3.of hn
  replace hb0 := hb0.trans (hn.mono hb0.size)
  clear hn c1 c2 c3
  have c1 := PVar.c k1
  have c2 := PVar.c k2
  have c3 := PVar.c k3
  go_wp2_with fail
  refine (Circle_is 2 0 0 0 0 2 1 1 1 Q3.out _).mono ?_
  rintro e u3 ⟨rfl, hn⟩
  replace k1 : PVar u3 _ _ _ := k1.of hn
  replace k2 : PVar u3 _ _ _ := k2.of hn
  replace k3 : PVar u3 _ _ _ := k3.of hn
  replace hb0 := hb0.trans (hn.mono hb0.size)
  clear hn c1 c2 c3
  have c1 := PVar.c k1
  have c2 := PVar.c k2
  have c3 := PVar.c k3
  go_wp2_with fail
  refine (Circle_is 0 0 2 0 0 2 3 2 (-1) Q4.out _).mono ?_
  rintro e u4 ⟨rfl, hn⟩
  replace k1 : PVar u4 _ _ _ := k1.of hn
  replace k2 : PVar u4 _ _ _ := k2.of hn
  replace k3 : PVar u4 _ _ _ := k3.of hn
  replace hb0 := hb0.trans (hn.mono hb0.size)
  clear hn c1 c2 c3
  have c1 := PVar.c k1
  have c2 := PVar.c k2
  have c3 := PVar.c k3
  go_wp2_with fail
  refine (Circle_is 0 0 2 0 0 2 2 2 0 Q5.out _).mono ?_
  rintro e u5 ⟨rfl, hn⟩
  replace k1 : PVar u5 _ _ _ := k1.of hn
  replace k2 : PVar u5 _ _ _ := k2.of hn
  replace k3 : PVar u5 _ _ _ := k3.of hn
  replace hb0 := hb0.trans (hn.mono hb0.size)
  clear hn c1 c2 c3
  have c1 := PVar.c k1
  have c2 := PVar.c k2
  have c3 := PVar.c k3
  go_wp2_with fail
  refine (On_is 2 0 0 2 1 1 true Q6.out _).mono ?_
  rintro e u6 ⟨rfl, hn⟩
  replace k1 : PVar u6 _ _ _ := k1.of hn
  replace k2 : PVar u6 _ _ _ := k2.of hn
  replace k3 : PVar u6 _ _ _ := k3.of hn
  replace hb0 := hb0.trans (hn.mono hb0.size)
  clear hn c1 c2 c3
  have c1 := PVar.c k1
  have c2 := PVar.c k2
  have c3 := PVar.c k3
  go_wp2_with fail
  refine (PtCmp_is 0 0 2 0 (-1) Q7.out _).mono ?_
  rintro e u7 ⟨rfl, hn⟩
  replace k1 : PVar u7 _ _ _ := k1.of hn
  replace k2 : PVar u7 _ _ _ := k2.of hn
  replace k3 : PVar u7 _ _ _ := k3.of hn
  replace hb0 := hb0.trans (hn.mono hb0.size)
  clear hn c1 c2 c3
  have c1 := PVar.c k1
  have c2 := PVar.c k2
  have c3 := PVar.c k3
  go_wp2
  go_ret
  exact ⟨rfl, hb0⟩
end Go.Proofs.Ytgddpkopbiendaa
