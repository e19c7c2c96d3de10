/- The walks of package point: within, Right, times, less, plus. Conditions: the numbers are numbers of 256 bits. -/
import Derived.Test.YtgddpkopbiendaaMul2
import Derived.Test.YtgddpkopbiendaaRatio3
namespace Go.Proofs.Ytgddpkopbiendaa
open Go.RowKit

/-- the Go value of a point -/
abbrev pC (x y : Int) : Array Value := #[.int .i64 x, .int .i64 y]
abbrev pI (x y : Int) : Value := .agg (pC x y)
/-- may a number be a coordinate? -/
def inC (x : Int) : Bool := decide (-2199023255552 ≤ x) && decide (x ≤ 2199023255552)

theorem within_any (x : Int) (w : World) : Calls Try.prog 82 #[.int .i64 x] w fun e w' => e = .returned (.bool (inC x)) ∧ Below w.heap.size w w' := by
  unfold inC
  by_cases h : -2199023255552 ≤ x <;> by_cases h2 : x ≤ 2199023255552
  all_goals
    go_enter Try.func82, Try.ntmps82
    go_wp2
    go_ret
    exact ⟨by simp [h, h2], Below.refl _ _⟩

set_option maxRecDepth 100000 in
set_option maxHeartbeats 1000000 in
theorem pttimes_any (x y : Int) (o : Bool) (ho : okI (x * y) = o) (p : Int) (hp : (bif o then x * y else 0) = p) (w : World) (ix : InI x) (iy : InI y) :
    Calls Try.prog 85 #[wI x, wI y] w fun e w' => e = .returned (wI p) ∧ Below w.heap.size w w' := by
  go_enter Try.func85, Try.ntmps85
  go_wp2_with fail
  refine calls_w ?_
  intro W hW
  have kz : Var W (w.heap.size + 1 + 1) 0 := by rw [hW]; exact Blk.new2 _ _ _ _ _
  have hb0 : Below w.heap.size w W := by rw [hW]; exact below_a3 _ _ _ _
  clear hW
  refine (Mul_is x y o ho p hp _ ix iy).mono ?_
  rintro e u1 ⟨rfl, hn⟩
  replace kz : Var u1 _ _ := kz.of hn
  replace hb0 := hb0.trans (hn.mono hb0.size)
  clear hn
  have cz := Var.c kz
  have fz := Var.f kz
  have lz := kz.lt
  have KZ := Lib.hid kz
  clear kz
  go_wp2
  refine post_world ?_
  intro Wf hWf
  have kf : Var Wf (w.heap.size + 1 + 1) p := by rw [hWf]; exact (Var.put4 KZ.out p).alloc _
  have hbf : Below w.heap.size w Wf := by rw [hWf]; exact (below_set4 hb0 (by omega) (.int .u64 (wd0 p)) (.int .u64 (wd1 p)) (.int .u64 (wd2 p)) (.int .u64 (wd3 p))).alloc (by simp only [size_set]; exact hb0.size) _
  have c := Var.c kf
  clear hWf cz
  simp [bodyPost, results, Try.results85, go_sem, c]
  exact hbf
set_option maxRecDepth 100000 in
set_option maxHeartbeats 1000000 in
theorem ptless_any (x y : Int) (o : Bool) (ho : okI (x - y) = o) (p : Int) (hp : (bif o then x - y else 0) = p) (w : World) (ix : InI x) (iy : InI y) :
    Calls Try.prog 89 #[wI x, wI y] w fun e w' => e = .returned (wI p) ∧ Below w.heap.size w w' := by
  go_enter Try.func89, Try.ntmps89
  go_wp2_with fail
  refine calls_w ?_
  intro W hW
  have kz : Var W (w.heap.size + 1 + 1) 0 := by rw [hW]; exact Blk.new2 _ _ _ _ _
  have hb0 : Below w.heap.size w W := by rw [hW]; exact below_a3 _ _ _ _
  clear hW
  refine (Sub_is x y o ho p hp _ ix iy).mono ?_
  rintro e u1 ⟨rfl, hn⟩
  replace kz : Var u1 _ _ := kz.of hn
  replace hb0 := hb0.trans (hn.mono hb0.size)
  clear hn
  have cz := Var.c kz
  have fz := Var.f kz
  have lz := kz.lt
  have KZ := Lib.hid kz
  clear kz
  go_wp2
  refine post_world ?_
  intro Wf hWf
  have kf : Var Wf (w.heap.size + 1 + 1) p := by rw [hWf]; exact (Var.put4 KZ.out p).alloc _
  have hbf : Below w.heap.size w Wf := by rw [hWf]; exact (below_set4 hb0 (by omega) (.int .u64 (wd0 p)) (.int .u64 (wd1 p)) (.int .u64 (wd2 p)) (.int .u64 (wd3 p))).alloc (by simp only [size_set]; exact hb0.size) _
  have c := Var.c kf
  clear hWf cz
  simp [bodyPost, results, Try.results89, go_sem, c]
  exact hbf
set_option maxRecDepth 100000 in
set_option maxHeartbeats 1000000 in
theorem ptplus_any (x y : Int) (o : Bool) (ho : okI (x + y) = o) (p : Int) (hp : (bif o then x + y else 0) = p) (w : World) (ix : InI x) (iy : InI y) :
    Calls Try.prog 84 #[wI x, wI y] w fun e w' => e = .returned (wI p) ∧ Below w.heap.size w w' := by
  go_enter Try.func84, Try.ntmps84
  go_wp2_with fail
  refine calls_w ?_
  intro W hW
  have kz : Var W (w.heap.size + 1 + 1) 0 := by rw [hW]; exact Blk.new2 _ _ _ _ _
  have hb0 : Below w.heap.size w W := by rw [hW]; exact below_a3 _ _ _ _
  clear hW
  refine (Add_is x y o ho p hp _ ix iy).mono ?_
  rintro e u1 ⟨rfl, hn⟩
  replace kz : Var u1 _ _ := kz.of hn
  replace hb0 := hb0.trans (hn.mono hb0.size)
  clear hn
  have cz := Var.c kz
  have fz := Var.f kz
  have lz := kz.lt
  have KZ := Lib.hid kz
  clear kz
  go_wp2
  refine post_world ?_
  intro Wf hWf
  have kf : Var Wf (w.heap.size + 1 + 1) p := by rw [hWf]; exact (Var.put4 KZ.out p).alloc _
  have hbf : Below w.heap.size w Wf := by rw [hWf]; exact (below_set4 hb0 (by omega) (.int .u64 (wd0 p)) (.int .u64 (wd1 p)) (.int .u64 (wd2 p)) (.int .u64 (wd3 p))).alloc (by simp only [size_set]; exact hb0.size) _
  have c := Var.c kf
  clear hWf cz
  simp [bodyPost, results, Try.results84, go_sem, c]
  exact hbf

set_option maxRecDepth 100000 in
set_option maxHeartbeats 1000000 in
theorem PtRight_any (x y : Int) (w : World) : Calls Try.prog 43 #[pI x y] w fun e w' => e = .returned (.bool (inC x && inC y)) ∧ Below w.heap.size w w' := by
  obtain ⟨bx, hbx⟩ : ∃ b, inC x = b := ⟨_, rfl⟩
  obtain ⟨by', hby⟩ : ∃ b, inC y = b := ⟨_, rfl⟩
  rw [hbx, hby]
  have HX := Lib.hid hbx
  have HY := Lib.hid hby
  clear hbx hby
  go_enter Try.func43, Try.ntmps43
  go_wp2_with fail
  refine (within_any x _).mono ?_
  rintro e w2 ⟨rfl, hn⟩
  rw [HX.out]
  have kp : Blk w2 w.heap.size (pC x y) 57 := (Blk.new w _ _).of hn
  have hb0 := (below_a1 w _).trans (hn.mono (by simp))
  have c0 := kp.cell 0
  have c1 := kp.cell 1
  have l0 := kp.lt
  clear kp
  cases bx
  · go_wp2
    go_ret
    exact ⟨rfl, hb0⟩
  · go_wp2_with fail
    refine (within_any y _).mono ?_
    rintro e w3 ⟨rfl, hn3⟩
    rw [HY.out]
    go_wp2
    go_ret
    exact ⟨by simp, hb0.trans (hn3.mono hb0.size)⟩
end Go.Proofs.Ytgddpkopbiendaa
