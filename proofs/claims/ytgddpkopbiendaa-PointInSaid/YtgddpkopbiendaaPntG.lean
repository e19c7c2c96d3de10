/- The walks of In and Facing, of package point and of gromaref03. Conditions: none. -/
import Derived.Test.YtgddpkopbiendaaPntD
import Derived.Test.YtgddpkopbiendaaPntE
namespace Go.Proofs.Ytgddpkopbiendaa
open Go.RowKit

theorem gWay_is (ax ay bx b_y cx cy r : Int) (h : way ax ay bx b_y cx cy = r) (w : World) :
    Calls Try.prog 38 #[pI ax ay, pI bx b_y, pI cx cy] w fun e w' => e = .returned (.int .i64 r) ∧ Below w.heap.size w w' := h ▸ Way_any ax ay bx b_y cx cy w
/-- where one lies to a triangle: w: the triangle's turn; g: is the point right; x, y, z: its turns with the sides -/
def in3 (x y z : Int) : Int := min (min (min 1 x) y) z
def inV (w : Int) (g : Bool) (x y z : Int) : Int := bif w == 0 || !g then -1 else in3 (x * w) (y * w) (z * w)
def inW (ax ay bx b_y cx cy px py : Int) : Int := inV (way ax ay bx b_y cx cy) (rp px py) (way ax ay bx b_y px py) (way bx b_y cx cy px py) (way cx cy ax ay px py)
/-- do two segments cross within both? -/
def fac (ax ay bx b_y cx cy dx dy : Int) : Bool := decide (way ax ay bx b_y cx cy * way ax ay bx b_y dx dy < 0) && decide (way cx cy dx dy ax ay * way cx cy dx dy bx b_y < 0)
def S3 (x : Int) : Prop := x = -1 ∨ x = 0 ∨ x = 1
theorem S3.mul {x y : Int} (hx : S3 x) (hy : S3 y) : S3 (x * y) := by
  unfold S3 at *
  rcases hx with rfl | rfl | rfl <;> rcases hy with rfl | rfl | rfl <;> decide
theorem S3.wrap {x : Int} (hx : S3 x) : wrap64 x = x := by
  unfold S3 at *
  rcases hx with rfl | rfl | rfl <;> unfold wrap64 <;> omega
theorem pRight_is (x y : Int) (r : Bool) (h : rp x y = r) (w : World) : Calls Try.prog 43 #[pI x y] w fun e w' => e = .returned (.bool r) ∧ Below w.heap.size w w' := h ▸ PtRight_any x y w
set_option maxRecDepth 100000 in
set_option maxHeartbeats 2000000 in
theorem rIn_go (ax ay bx b_y cx cy px py w x y z X Y Z : Int) (g t : Bool) (hw : way ax ay bx b_y cx cy = w) (hg : rp px py = g) (hx : way ax ay bx b_y px py = x) (hy : way bx b_y cx cy px py = y) (hz : way cx cy ax ay px py = z)
    (ht : (w == 0) = t) (hX : wrap64 (x * w) = X) (hY : wrap64 (y * w) = Y) (hZ : wrap64 (z * w) = Z) (sX : S3 X) (sY : S3 Y) (sZ : S3 Z) (v : World) :
    Calls Try.prog 53 #[pI ax ay, pI bx b_y, pI cx cy, pI px py] v fun e w' => e = .returned (.int .i64 (bif t || !g then -1 else in3 X Y Z)) ∧ Below v.heap.size v w' := by
  have HW := Lib.hid hw
  have HG := Lib.hid hg
  have H1 := Lib.hid hx
  have H2 := Lib.hid hy
  have H3 := Lib.hid hz
  have HX := Lib.hid hX
  have HY := Lib.hid hY
  have HZ := Lib.hid hZ
  have SX := Lib.hid sX
  have SY := Lib.hid sY
  have SZ := Lib.hid sZ
  clear hw hg hx hy hz sX sY sZ hX hY hZ
  go_enter Try.func53, Try.ntmps53
  go_wp2_with fail
  first | refine calls_w ?_ | refine name_world ?_
  intro W hW
  have ka : QVar W (v.heap.size) ax ay := by rw [hW]; exact (Blk.new v _ _) |>.alloc _ |>.alloc _ |>.alloc _
  have kb : QVar W (v.heap.size + 1) bx b_y := by rw [hW]; exact (Blk.new1 v _ _ _) |>.alloc _ |>.alloc _
  have kc : QVar W (v.heap.size + 1 + 1) cx cy := by rw [hW]; exact (Blk.new2 v _ _ _ _) |>.alloc _
  have kd : QVar W (v.heap.size + 1 + 1 + 1) px py := by rw [hW]; exact (Blk.new3 v _ _ _ _ _)
  have hb0 : Below v.heap.size v W := by rw [hW]; exact (below_a3 _ _ _ _).alloc (by simp; omega) _
  clear hW
  refine (gWay_is ax ay bx b_y cx cy w HW.out _).mono ?_
  rintro e u1 ⟨rfl, hn⟩
  replace ka : QVar u1 _ _ _ := ka.of hn
  replace kb : QVar u1 _ _ _ := kb.of hn
  replace kc : QVar u1 _ _ _ := kc.of hn
  replace kd : QVar u1 _ _ _ := kd.of hn
  replace hb0 := hb0.trans (hn.mono hb0.size)
  clear hn 
  cases t
  · have ca := QVar.c ka
    have la := ka.lt
    have cb := QVar.c kb
    have lb := kb.lt
    have cc := QVar.c kc
    have lc := kc.lt
    have cd := QVar.c kd
    have ld := kd.lt
    go_wp2_with fail
    clear ca la cb lb cc lc cd ld
    refine (rR_is px py g HG.out _).mono ?_
    rintro e u2 ⟨rfl, hn⟩
    replace ka : QVar u2 _ _ _ := ka.of hn
    replace kb : QVar u2 _ _ _ := kb.of hn
    replace kc : QVar u2 _ _ _ := kc.of hn
    replace kd : QVar u2 _ _ _ := kd.of hn
    replace hb0 := hb0.trans (hn.mono hb0.size)
    clear hn 
    cases g
    · have ca := QVar.c ka
      have la := ka.lt
      have cb := QVar.c kb
      have lb := kb.lt
      have cc := QVar.c kc
      have lc := kc.lt
      have cd := QVar.c kd
      have ld := kd.lt
      go_wp2
      go_ret
      exact ⟨rfl, hb0⟩
    · have ca := QVar.c ka
      have la := ka.lt
      have cb := QVar.c kb
      have lb := kb.lt
      have cc := QVar.c kc
      have lc := kc.lt
      have cd := QVar.c kd
      have ld := kd.lt
      go_wp2_with fail
      clear ca la cb lb cc lc cd ld
      refine (gWay_is ax ay bx b_y px py x H1.out _).mono ?_
      rintro e u3 ⟨rfl, hn⟩
      replace ka : QVar u3 _ _ _ := ka.of hn
      replace kb : QVar u3 _ _ _ := kb.of hn
      replace kc : QVar u3 _ _ _ := kc.of hn
      replace kd : QVar u3 _ _ _ := kd.of hn
      replace hb0 := hb0.trans (hn.mono hb0.size)
      clear hn 
      have ca := QVar.c ka
      have la := ka.lt
      have cb := QVar.c kb
      have lb := kb.lt
      have cc := QVar.c kc
      have lc := kc.lt
      have cd := QVar.c kd
      have ld := kd.lt
      have hX := HX.out
      go_wp2_with fail
      clear ca la cb lb cc lc cd ld
      refine (gWay_is bx b_y cx cy px py y H2.out _).mono ?_
      rintro e u4 ⟨rfl, hn⟩
      replace ka : QVar u4 _ _ _ := ka.of hn
      replace kb : QVar u4 _ _ _ := kb.of hn
      replace kc : QVar u4 _ _ _ := kc.of hn
      replace kd : QVar u4 _ _ _ := kd.of hn
      replace hb0 := hb0.trans (hn.mono hb0.size)
      clear hn 
      have ca := QVar.c ka
      have la := ka.lt
      have cb := QVar.c kb
      have lb := kb.lt
      have cc := QVar.c kc
      have lc := kc.lt
      have cd := QVar.c kd
      have ld := kd.lt
      have hY := HY.out
      go_wp2_with fail
      clear ca la cb lb cc lc cd ld
      refine (gWay_is cx cy ax ay px py z H3.out _).mono ?_
      rintro e u5 ⟨rfl, hn⟩
      replace ka : QVar u5 _ _ _ := ka.of hn
      replace kb : QVar u5 _ _ _ := kb.of hn
      replace kc : QVar u5 _ _ _ := kc.of hn
      replace kd : QVar u5 _ _ _ := kd.of hn
      replace hb0 := hb0.trans (hn.mono hb0.size)
      clear hn 
      have hZ := HZ.out
      clear HX HY HZ H1 H2 H3 HW HG ht
      rcases SX.out with rfl | rfl | rfl <;> rcases SY.out with rfl | rfl | rfl <;> rcases SZ.out with rfl | rfl | rfl
      all_goals
        go_wp2
        go_ret
        exact ⟨rfl, hb0⟩
  · have ca := QVar.c ka
    have la := ka.lt
    have cb := QVar.c kb
    have lb := kb.lt
    have cc := QVar.c kc
    have lc := kc.lt
    have cd := QVar.c kd
    have ld := kd.lt
    go_wp2
    go_ret
    exact ⟨rfl, hb0⟩
theorem rIn_any (ax ay bx b_y cx cy px py : Int) (v : World) :
    Calls Try.prog 53 #[pI ax ay, pI bx b_y, pI cx cy, pI px py] v fun e w' => e = .returned (.int .i64 (inW ax ay bx b_y cx cy px py)) ∧ Below v.heap.size v w' := by
  have s0 : S3 (way ax ay bx b_y cx cy) := way_cases _ _ _ _ _ _
  have s1 : S3 (way ax ay bx b_y px py) := way_cases _ _ _ _ _ _
  have s2 : S3 (way bx b_y cx cy px py) := way_cases _ _ _ _ _ _
  have s3 : S3 (way cx cy ax ay px py) := way_cases _ _ _ _ _ _
  exact rIn_go ax ay bx b_y cx cy px py _ _ _ _ _ _ _ _ _ rfl rfl rfl rfl rfl rfl (s1.mul s0).wrap (s2.mul s0).wrap (s3.mul s0).wrap (s1.mul s0) (s2.mul s0) (s3.mul s0) v

set_option maxRecDepth 100000 in
set_option maxHeartbeats 2000000 in
theorem pIn_go (ax ay bx b_y cx cy px py w x y z X Y Z : Int) (g t : Bool) (hw : way ax ay bx b_y cx cy = w) (hg : rp px py = g) (hx : way ax ay bx b_y px py = x) (hy : way bx b_y cx cy px py = y) (hz : way cx cy ax ay px py = z)
    (ht : (w == 0) = t) (hX : wrap64 (x * w) = X) (hY : wrap64 (y * w) = Y) (hZ : wrap64 (z * w) = Z) (sX : S3 X) (sY : S3 Y) (sZ : S3 Z) (v : World) :
    Calls Try.prog 52 #[pI ax ay, pI bx b_y, pI cx cy, pI px py] v fun e w' => e = .returned (.int .i64 (bif t || !g then -1 else in3 X Y Z)) ∧ Below v.heap.size v w' := by
  have HW := Lib.hid hw
  have HG := Lib.hid hg
  have H1 := Lib.hid hx
  have H2 := Lib.hid hy
  have H3 := Lib.hid hz
  have HX := Lib.hid hX
  have HY := Lib.hid hY
  have HZ := Lib.hid hZ
  have SX := Lib.hid sX
  have SY := Lib.hid sY
  have SZ := Lib.hid sZ
  clear hw hg hx hy hz sX sY sZ hX hY hZ
  go_enter Try.func52, Try.ntmps52
  go_wp2_with fail
  first | refine calls_w ?_ | refine name_world ?_
  intro W hW
  have ka : PVar W (v.heap.size) ax ay := by rw [hW]; exact (Blk.new v _ _) |>.alloc _ |>.alloc _ |>.alloc _
  have kb : PVar W (v.heap.size + 1) bx b_y := by rw [hW]; exact (Blk.new1 v _ _ _) |>.alloc _ |>.alloc _
  have kc : PVar W (v.heap.size + 1 + 1) cx cy := by rw [hW]; exact (Blk.new2 v _ _ _ _) |>.alloc _
  have kd : PVar W (v.heap.size + 1 + 1 + 1) px py := by rw [hW]; exact (Blk.new3 v _ _ _ _ _)
  have hb0 : Below v.heap.size v W := by rw [hW]; exact (below_a3 _ _ _ _).alloc (by simp; omega) _
  clear hW
  refine (Turn_is ax ay bx b_y cx cy w HW.out _).mono ?_
  rintro e u1 ⟨rfl, hn⟩
  replace ka : PVar u1 _ _ _ := ka.of hn
  replace kb : PVar u1 _ _ _ := kb.of hn
  replace kc : PVar u1 _ _ _ := kc.of hn
  replace kd : PVar u1 _ _ _ := kd.of hn
  replace hb0 := hb0.trans (hn.mono hb0.size)
  clear hn 
  cases t
  · have ca := PVar.c ka
    have la := ka.lt
    have cb := PVar.c kb
    have lb := kb.lt
    have cc := PVar.c kc
    have lc := kc.lt
    have cd := PVar.c kd
    have ld := kd.lt
    go_wp2_with fail
    clear ca la cb lb cc lc cd ld
    refine (pRight_is px py g HG.out _).mono ?_
    rintro e u2 ⟨rfl, hn⟩
    replace ka : PVar u2 _ _ _ := ka.of hn
    replace kb : PVar u2 _ _ _ := kb.of hn
    replace kc : PVar u2 _ _ _ := kc.of hn
    replace kd : PVar u2 _ _ _ := kd.of hn
    replace hb0 := hb0.trans (hn.mono hb0.size)
    clear hn 
    cases g
    · have ca := PVar.c ka
      have la := ka.lt
      have cb := PVar.c kb
      have lb := kb.lt
      have cc := PVar.c kc
      have lc := kc.lt
      have cd := PVar.c kd
      have ld := kd.lt
      go_wp2
      go_ret
      exact ⟨rfl, hb0⟩
    · have ca := PVar.c ka
      have la := ka.lt
      have cb := PVar.c kb
      have lb := kb.lt
      have cc := PVar.c kc
      have lc := kc.lt
      have cd := PVar.c kd
      have ld := kd.lt
      go_wp2_with fail
      clear ka kb kc kd
      refine wp_region_up u2.heap.size 14 [(true, 0), (true, 1), (true, 2), (true, 4), (true, 5), (true, 6), (true, 8), (true, 9), (true, 10), (true, 13), (false, 3), (false, 7), (false, 11), (true, 12)] (by kernel_rfl) (by kernel_rfl) (fun _ _ d _ _ h => by cases d <;> exact h) ?_
      have hb : Below u2.heap.size u2 u2.drew := (Below.refl _ _).drew
      iterate 10
        refine wpS_takeL rfl rfl ?_
        go_big_quiet_step (rfl)
        refine wpQuiet_nil ?_
      refine wpS_doL rfl ?_
      intro K hK
      go_wp2_with ((first | (go_at_call 37; (with_reducible refine (Turn_is ax ay bx b_y px py x H1.out _).mono ?_); rintro e w2 ⟨rfl, hn⟩) | (go_at_call 37; (with_reducible refine (Turn_is bx b_y cx cy px py y H2.out _).mono ?_); rintro e w2 ⟨rfl, hn⟩) | (go_at_call 37; (with_reducible refine (Turn_is cx cy ax ay px py z H3.out _).mono ?_); rintro e w2 ⟨rfl, hn⟩)))
      replace hb := hb.trans (hn.mono hb.size)
      refine hK.out _ _ (up_iff.2 hb) ?_
      clear hK K
      clear hn
      refine wpS_doL rfl ?_
      intro K hK
      go_wp2_with ((first | (go_at_call 37; (with_reducible refine (Turn_is ax ay bx b_y px py x H1.out _).mono ?_); rintro e w2 ⟨rfl, hn⟩) | (go_at_call 37; (with_reducible refine (Turn_is bx b_y cx cy px py y H2.out _).mono ?_); rintro e w2 ⟨rfl, hn⟩) | (go_at_call 37; (with_reducible refine (Turn_is cx cy ax ay px py z H3.out _).mono ?_); rintro e w2 ⟨rfl, hn⟩)))
      replace hb := hb.trans (hn.mono hb.size)
      refine hK.out _ _ (up_iff.2 hb) ?_
      clear hK K
      clear hn
      refine wpS_doL rfl ?_
      intro K hK
      go_wp2_with ((first | (go_at_call 37; (with_reducible refine (Turn_is ax ay bx b_y px py x H1.out _).mono ?_); rintro e w2 ⟨rfl, hn⟩) | (go_at_call 37; (with_reducible refine (Turn_is bx b_y cx cy px py y H2.out _).mono ?_); rintro e w2 ⟨rfl, hn⟩) | (go_at_call 37; (with_reducible refine (Turn_is cx cy ax ay px py z H3.out _).mono ?_); rintro e w2 ⟨rfl, hn⟩)))
      replace hb := hb.trans (hn.mono hb.size)
      refine hK.out _ _ (up_iff.2 hb) ?_
      clear hK K
      clear hn
      refine wpS_takeL rfl rfl ?_
      go_big_quiet_step (rfl)
      refine wpQuiet_nil ?_
      refine wpS_nil ?_
      simp only [List.drop_succ_cons, List.drop_zero]
      replace hb0 := hb0.trans (hb.mono hb0.size)
      clear hb
      clear ca la cb lb cc lc cd ld
      have hX := HX.out
      have hY := HY.out
      have hZ := HZ.out
      clear HX HY HZ H1 H2 H3 HW HG ht
      rcases SX.out with rfl | rfl | rfl <;> rcases SY.out with rfl | rfl | rfl <;> rcases SZ.out with rfl | rfl | rfl
      all_goals
        have i0 : ∀ w, (Instr.index 110 (.agg #[.int .i64 x, .int .i64 y, .int .i64 z]) (.int .i64 0)).run Try.prog w = .ok (.int .i64 x) w := fun _ => by kernel_rfl
        have i1 : ∀ w, (Instr.index 110 (.agg #[.int .i64 x, .int .i64 y, .int .i64 z]) (.int .i64 1)).run Try.prog w = .ok (.int .i64 y) w := fun _ => by kernel_rfl
        have i2 : ∀ w, (Instr.index 110 (.agg #[.int .i64 x, .int .i64 y, .int .i64 z]) (.int .i64 2)).run Try.prog w = .ok (.int .i64 z) w := fun _ => by kernel_rfl
        go_wp2
        refine wp_loop_rounds 4 ?_
        iterate 4
          rw [rounds_succ]
          go_wp2
        go_ret
        exact ⟨rfl, hb0⟩
  · have ca := PVar.c ka
    have la := ka.lt
    have cb := PVar.c kb
    have lb := kb.lt
    have cc := PVar.c kc
    have lc := kc.lt
    have cd := PVar.c kd
    have ld := kd.lt
    go_wp2
    go_ret
    exact ⟨rfl, hb0⟩
theorem pIn_any (ax ay bx b_y cx cy px py : Int) (v : World) :
    Calls Try.prog 52 #[pI ax ay, pI bx b_y, pI cx cy, pI px py] v fun e w' => e = .returned (.int .i64 (inW ax ay bx b_y cx cy px py)) ∧ Below v.heap.size v w' := by
  have s0 : S3 (way ax ay bx b_y cx cy) := way_cases _ _ _ _ _ _
  have s1 : S3 (way ax ay bx b_y px py) := way_cases _ _ _ _ _ _
  have s2 : S3 (way bx b_y cx cy px py) := way_cases _ _ _ _ _ _
  have s3 : S3 (way cx cy ax ay px py) := way_cases _ _ _ _ _ _
  exact pIn_go ax ay bx b_y cx cy px py _ _ _ _ _ _ _ _ _ rfl rfl rfl rfl rfl rfl (s1.mul s0).wrap (s2.mul s0).wrap (s3.mul s0).wrap (s1.mul s0) (s2.mul s0) (s3.mul s0) v

set_option maxRecDepth 100000 in
set_option maxHeartbeats 2000000 in
theorem rFac_go (ax ay bx b_y cx cy dx dy x y z u X Y : Int) (g t : Bool) (hx : way ax ay bx b_y cx cy = x) (hy : way ax ay bx b_y dx dy = y) (hz : way cx cy dx dy ax ay = z) (hu : way cx cy dx dy bx b_y = u)
    (hX : wrap64 (x * y) = X) (hY : wrap64 (z * u) = Y) (hg : decide (X < 0) = g) (ht : decide (Y < 0) = t) (v : World) :
    Calls Try.prog 55 #[pI ax ay, pI bx b_y, pI cx cy, pI dx dy] v fun e w' => e = .returned (.bool (g && t)) ∧ Below v.heap.size v w' := by
  have H1 := Lib.hid hx
  have H2 := Lib.hid hy
  have H3 := Lib.hid hz
  have H4 := Lib.hid hu
  have HX := Lib.hid hX
  have HY := Lib.hid hY
  clear hx hy hz hu hX hY
  cases g
  · have hx0 : ¬X < 0 := by simpa using hg
    go_enter Try.func55, Try.ntmps55
    go_wp2_with fail
    first | refine calls_w ?_ | refine name_world ?_
    intro W hW
    have ka : QVar W (v.heap.size) ax ay := by rw [hW]; exact (Blk.new v _ _) |>.alloc _ |>.alloc _ |>.alloc _
    have kb : QVar W (v.heap.size + 1) bx b_y := by rw [hW]; exact (Blk.new1 v _ _ _) |>.alloc _ |>.alloc _
    have kc : QVar W (v.heap.size + 1 + 1) cx cy := by rw [hW]; exact (Blk.new2 v _ _ _ _) |>.alloc _
    have kd : QVar W (v.heap.size + 1 + 1 + 1) dx dy := by rw [hW]; exact (Blk.new3 v _ _ _ _ _)
    have hb0 : Below v.heap.size v W := by rw [hW]; exact (below_a3 _ _ _ _).alloc (by simp; omega) _
    clear hW
    have ca := QVar.c ka
    have la := ka.lt
    have cb := QVar.c kb
    have lb := kb.lt
    have cc := QVar.c kc
    have lc := kc.lt
    have cd := QVar.c kd
    have ld := kd.lt
    have hX := HX.out
    have KA := Lib.hid ka
    have KB := Lib.hid kb
    have KC := Lib.hid kc
    have KD := Lib.hid kd
    clear ka kb kc kd
    refine wp_region_up W.heap.size 18 [(true, 0), (true, 1), (true, 2), (true, 4), (true, 5), (true, 6), (false, 3), (false, 7), (true, 8), (true, 9), (true, 10), (true, 11), (true, 12), (true, 13), (true, 15), (true, 16), (true, 17), (false, 14)] (by kernel_rfl) (by kernel_rfl) (fun _ _ d _ _ h => by cases d <;> exact h) ?_
    have hb : Below W.heap.size W W.drew := (Below.refl _ _).drew
    iterate 6
      refine wpS_takeL rfl rfl ?_
      go_big_quiet_step (rfl)
      refine wpQuiet_nil ?_
    refine wpS_doL rfl ?_
    intro K hK
    go_wp2_with ((first | (go_at_call 38; (with_reducible refine (gWay_is ax ay bx b_y cx cy x H1.out _).mono ?_); rintro e w2 ⟨rfl, hn⟩) | (go_at_call 38; (with_reducible refine (gWay_is ax ay bx b_y dx dy y H2.out _).mono ?_); rintro e w2 ⟨rfl, hn⟩) | (go_at_call 38; (with_reducible refine (gWay_is cx cy dx dy ax ay z H3.out _).mono ?_); rintro e w2 ⟨rfl, hn⟩)))
    replace hb := hb.trans (hn.mono hb.size)
    refine hK.out _ _ (up_iff.2 hb) ?_
    clear hK K
    clear hn
    refine wpS_doL rfl ?_
    intro K hK
    go_wp2_with ((first | (go_at_call 38; (with_reducible refine (gWay_is ax ay bx b_y cx cy x H1.out _).mono ?_); rintro e w2 ⟨rfl, hn⟩) | (go_at_call 38; (with_reducible refine (gWay_is ax ay bx b_y dx dy y H2.out _).mono ?_); rintro e w2 ⟨rfl, hn⟩) | (go_at_call 38; (with_reducible refine (gWay_is cx cy dx dy ax ay z H3.out _).mono ?_); rintro e w2 ⟨rfl, hn⟩)))
    replace hb := hb.trans (hn.mono hb.size)
    refine hK.out _ _ (up_iff.2 hb) ?_
    clear hK K
    clear hn
    iterate 9
      refine wpS_takeL rfl rfl ?_
      go_big_quiet_step (rfl)
      refine wpQuiet_nil ?_
    refine wpS_doL rfl ?_
    intro K hK
    go_wp2_with ((first | (go_at_call 38; (with_reducible refine (gWay_is ax ay bx b_y cx cy x H1.out _).mono ?_); rintro e w2 ⟨rfl, hn⟩) | (go_at_call 38; (with_reducible refine (gWay_is ax ay bx b_y dx dy y H2.out _).mono ?_); rintro e w2 ⟨rfl, hn⟩) | (go_at_call 38; (with_reducible refine (gWay_is cx cy dx dy ax ay z H3.out _).mono ?_); rintro e w2 ⟨rfl, hn⟩)))
    try replace hb := hb.trans (hn.mono hb.size)
    refine hK.out _ _ (up_iff.2 hb) ?_
    clear hK K
    try clear hn
    refine wpS_nil ?_
    simp only [List.drop_succ_cons, List.drop_zero]
    replace hb0 := hb0.trans (hb.mono hb0.size)
    clear hb KA KB KC KD ca cb cc cd la lb lc ld
    go_wp2
    go_ret
    exact ⟨rfl, hb0⟩
  · have hx0 : X < 0 := by simpa using hg
    go_enter Try.func55, Try.ntmps55
    go_wp2_with fail
    first | refine calls_w ?_ | refine name_world ?_
    intro W hW
    have ka : QVar W (v.heap.size) ax ay := by rw [hW]; exact (Blk.new v _ _) |>.alloc _ |>.alloc _ |>.alloc _
    have kb : QVar W (v.heap.size + 1) bx b_y := by rw [hW]; exact (Blk.new1 v _ _ _) |>.alloc _ |>.alloc _
    have kc : QVar W (v.heap.size + 1 + 1) cx cy := by rw [hW]; exact (Blk.new2 v _ _ _ _) |>.alloc _
    have kd : QVar W (v.heap.size + 1 + 1 + 1) dx dy := by rw [hW]; exact (Blk.new3 v _ _ _ _ _)
    have hb0 : Below v.heap.size v W := by rw [hW]; exact (below_a3 _ _ _ _).alloc (by simp; omega) _
    clear hW
    have ca := QVar.c ka
    have la := ka.lt
    have cb := QVar.c kb
    have lb := kb.lt
    have cc := QVar.c kc
    have lc := kc.lt
    have cd := QVar.c kd
    have ld := kd.lt
    have hX := HX.out
    have KA := Lib.hid ka
    have KB := Lib.hid kb
    have KC := Lib.hid kc
    have KD := Lib.hid kd
    clear ka kb kc kd
    refine wp_region_up W.heap.size 18 [(true, 0), (true, 1), (true, 2), (true, 4), (true, 5), (true, 6), (false, 3), (false, 7), (true, 8), (true, 9), (true, 10), (true, 11), (true, 12), (true, 13), (true, 15), (true, 16), (true, 17), (false, 14)] (by kernel_rfl) (by kernel_rfl) (fun _ _ d _ _ h => by cases d <;> exact h) ?_
    have hb : Below W.heap.size W W.drew := (Below.refl _ _).drew
    iterate 6
      refine wpS_takeL rfl rfl ?_
      go_big_quiet_step (rfl)
      refine wpQuiet_nil ?_
    refine wpS_doL rfl ?_
    intro K hK
    go_wp2_with ((first | (go_at_call 38; (with_reducible refine (gWay_is ax ay bx b_y cx cy x H1.out _).mono ?_); rintro e w2 ⟨rfl, hn⟩) | (go_at_call 38; (with_reducible refine (gWay_is ax ay bx b_y dx dy y H2.out _).mono ?_); rintro e w2 ⟨rfl, hn⟩) | (go_at_call 38; (with_reducible refine (gWay_is cx cy dx dy ax ay z H3.out _).mono ?_); rintro e w2 ⟨rfl, hn⟩)))
    replace hb := hb.trans (hn.mono hb.size)
    refine hK.out _ _ (up_iff.2 hb) ?_
    clear hK K
    clear hn
    refine wpS_doL rfl ?_
    intro K hK
    go_wp2_with ((first | (go_at_call 38; (with_reducible refine (gWay_is ax ay bx b_y cx cy x H1.out _).mono ?_); rintro e w2 ⟨rfl, hn⟩) | (go_at_call 38; (with_reducible refine (gWay_is ax ay bx b_y dx dy y H2.out _).mono ?_); rintro e w2 ⟨rfl, hn⟩) | (go_at_call 38; (with_reducible refine (gWay_is cx cy dx dy ax ay z H3.out _).mono ?_); rintro e w2 ⟨rfl, hn⟩)))
    replace hb := hb.trans (hn.mono hb.size)
    refine hK.out _ _ (up_iff.2 hb) ?_
    clear hK K
    clear hn
    iterate 9
      refine wpS_takeL rfl rfl ?_
      go_big_quiet_step (rfl)
      refine wpQuiet_nil ?_
    refine wpS_doL rfl ?_
    intro K hK
    go_wp2_with ((first | (go_at_call 38; (with_reducible refine (gWay_is ax ay bx b_y cx cy x H1.out _).mono ?_); rintro e w2 ⟨rfl, hn⟩) | (go_at_call 38; (with_reducible refine (gWay_is ax ay bx b_y dx dy y H2.out _).mono ?_); rintro e w2 ⟨rfl, hn⟩) | (go_at_call 38; (with_reducible refine (gWay_is cx cy dx dy ax ay z H3.out _).mono ?_); rintro e w2 ⟨rfl, hn⟩)))
    try replace hb := hb.trans (hn.mono hb.size)
    refine hK.out _ _ (up_iff.2 hb) ?_
    clear hK K
    try clear hn
    refine wpS_nil ?_
    simp only [List.drop_succ_cons, List.drop_zero]
    replace hb0 := hb0.trans (hb.mono hb0.size)
    clear hb KA KB KC KD ca cb cc cd la lb lc ld
    go_wp2_with fail
    refine (gWay_is cx cy dx dy bx b_y u H4.out _).mono ?_
    rintro e u1 ⟨rfl, hn⟩
    replace hb0 := hb0.trans (hn.mono hb0.size)
    clear hn 
    have hY := HY.out
    clear HX HY H1 H2 H3 H4
    cases t
    · have hy0 : ¬Y < 0 := by simpa using ht
      go_wp2
      go_ret
      exact ⟨rfl, hb0⟩
    · have hy0 : Y < 0 := by simpa using ht
      go_wp2
      go_ret
      exact ⟨rfl, hb0⟩
theorem rFac_any (ax ay bx b_y cx cy dx dy : Int) (v : World) :
    Calls Try.prog 55 #[pI ax ay, pI bx b_y, pI cx cy, pI dx dy] v fun e w' => e = .returned (.bool (fac ax ay bx b_y cx cy dx dy)) ∧ Below v.heap.size v w' :=
  rFac_go ax ay bx b_y cx cy dx dy _ _ _ _ _ _ _ _ rfl rfl rfl rfl (wrap_ways _ _ _ _ _ _ _ _ _ _ _ _) (wrap_ways _ _ _ _ _ _ _ _ _ _ _ _) rfl rfl v

set_option maxRecDepth 100000 in
set_option maxHeartbeats 2000000 in
theorem pFac_go (ax ay bx b_y cx cy dx dy x y z u X Y : Int) (g t : Bool) (hx : way ax ay bx b_y cx cy = x) (hy : way ax ay bx b_y dx dy = y) (hz : way cx cy dx dy ax ay = z) (hu : way cx cy dx dy bx b_y = u)
    (hX : wrap64 (x * y) = X) (hY : wrap64 (z * u) = Y) (hg : decide (X < 0) = g) (ht : decide (Y < 0) = t) (v : World) :
    Calls Try.prog 54 #[pI ax ay, pI bx b_y, pI cx cy, pI dx dy] v fun e w' => e = .returned (.bool (g && t)) ∧ Below v.heap.size v w' := by
  have H1 := Lib.hid hx
  have H2 := Lib.hid hy
  have H3 := Lib.hid hz
  have H4 := Lib.hid hu
  have HX := Lib.hid hX
  have HY := Lib.hid hY
  clear hx hy hz hu hX hY
  cases g
  · have hx0 : ¬X < 0 := by simpa using hg
    go_enter Try.func54, Try.ntmps54
    go_wp2_with fail
    first | refine calls_w ?_ | refine name_world ?_
    intro W hW
    have ka : PVar W (v.heap.size) ax ay := by rw [hW]; exact (Blk.new v _ _) |>.alloc _ |>.alloc _ |>.alloc _
    have kb : PVar W (v.heap.size + 1) bx b_y := by rw [hW]; exact (Blk.new1 v _ _ _) |>.alloc _ |>.alloc _
    have kc : PVar W (v.heap.size + 1 + 1) cx cy := by rw [hW]; exact (Blk.new2 v _ _ _ _) |>.alloc _
    have kd : PVar W (v.heap.size + 1 + 1 + 1) dx dy := by rw [hW]; exact (Blk.new3 v _ _ _ _ _)
    have hb0 : Below v.heap.size v W := by rw [hW]; exact (below_a3 _ _ _ _).alloc (by simp; omega) _
    clear hW
    have ca := PVar.c ka
    have la := ka.lt
    have cb := PVar.c kb
    have lb := kb.lt
    have cc := PVar.c kc
    have lc := kc.lt
    have cd := PVar.c kd
    have ld := kd.lt
    have hX := HX.out
    have KA := Lib.hid ka
    have KB := Lib.hid kb
    have KC := Lib.hid kc
    have KD := Lib.hid kd
    clear ka kb kc kd
    refine wp_region_up W.heap.size 18 [(true, 0), (true, 1), (true, 2), (true, 4), (true, 5), (true, 6), (false, 3), (false, 7), (true, 8), (true, 9), (true, 10), (true, 11), (true, 12), (true, 13), (true, 15), (true, 16), (true, 17), (false, 14)] (by kernel_rfl) (by kernel_rfl) (fun _ _ d _ _ h => by cases d <;> exact h) ?_
    have hb : Below W.heap.size W W.drew := (Below.refl _ _).drew
    iterate 6
      refine wpS_takeL rfl rfl ?_
      go_big_quiet_step (rfl)
      refine wpQuiet_nil ?_
    refine wpS_doL rfl ?_
    intro K hK
    go_wp2_with ((first | (go_at_call 37; (with_reducible refine (Turn_is ax ay bx b_y cx cy x H1.out _).mono ?_); rintro e w2 ⟨rfl, hn⟩) | (go_at_call 37; (with_reducible refine (Turn_is ax ay bx b_y dx dy y H2.out _).mono ?_); rintro e w2 ⟨rfl, hn⟩) | (go_at_call 37; (with_reducible refine (Turn_is cx cy dx dy ax ay z H3.out _).mono ?_); rintro e w2 ⟨rfl, hn⟩)))
    replace hb := hb.trans (hn.mono hb.size)
    refine hK.out _ _ (up_iff.2 hb) ?_
    clear hK K
    clear hn
    refine wpS_doL rfl ?_
    intro K hK
    go_wp2_with ((first | (go_at_call 37; (with_reducible refine (Turn_is ax ay bx b_y cx cy x H1.out _).mono ?_); rintro e w2 ⟨rfl, hn⟩) | (go_at_call 37; (with_reducible refine (Turn_is ax ay bx b_y dx dy y H2.out _).mono ?_); rintro e w2 ⟨rfl, hn⟩) | (go_at_call 37; (with_reducible refine (Turn_is cx cy dx dy ax ay z H3.out _).mono ?_); rintro e w2 ⟨rfl, hn⟩)))
    replace hb := hb.trans (hn.mono hb.size)
    refine hK.out _ _ (up_iff.2 hb) ?_
    clear hK K
    clear hn
    iterate 9
      refine wpS_takeL rfl rfl ?_
      go_big_quiet_step (rfl)
      refine wpQuiet_nil ?_
    refine wpS_doL rfl ?_
    intro K hK
    go_wp2_with ((first | (go_at_call 37; (with_reducible refine (Turn_is ax ay bx b_y cx cy x H1.out _).mono ?_); rintro e w2 ⟨rfl, hn⟩) | (go_at_call 37; (with_reducible refine (Turn_is ax ay bx b_y dx dy y H2.out _).mono ?_); rintro e w2 ⟨rfl, hn⟩) | (go_at_call 37; (with_reducible refine (Turn_is cx cy dx dy ax ay z H3.out _).mono ?_); rintro e w2 ⟨rfl, hn⟩)))
    try replace hb := hb.trans (hn.mono hb.size)
    refine hK.out _ _ (up_iff.2 hb) ?_
    clear hK K
    try clear hn
    refine wpS_nil ?_
    simp only [List.drop_succ_cons, List.drop_zero]
    replace hb0 := hb0.trans (hb.mono hb0.size)
    clear hb KA KB KC KD ca cb cc cd la lb lc ld
    go_wp2
    go_ret
    exact ⟨rfl, hb0⟩
  · have hx0 : X < 0 := by simpa using hg
    go_enter Try.func54, Try.ntmps54
    go_wp2_with fail
    first | refine calls_w ?_ | refine name_world ?_
    intro W hW
    have ka : PVar W (v.heap.size) ax ay := by rw [hW]; exact (Blk.new v _ _) |>.alloc _ |>.alloc _ |>.alloc _
    have kb : PVar W (v.heap.size + 1) bx b_y := by rw [hW]; exact (Blk.new1 v _ _ _) |>.alloc _ |>.alloc _
    have kc : PVar W (v.heap.size + 1 + 1) cx cy := by rw [hW]; exact (Blk.new2 v _ _ _ _) |>.alloc _
    have kd : PVar W (v.heap.size + 1 + 1 + 1) dx dy := by rw [hW]; exact (Blk.new3 v _ _ _ _ _)
    have hb0 : Below v.heap.size v W := by rw [hW]; exact (below_a3 _ _ _ _).alloc (by simp; omega) _
    clear hW
    have ca := PVar.c ka
    have la := ka.lt
    have cb := PVar.c kb
    have lb := kb.lt
    have cc := PVar.c kc
    have lc := kc.lt
    have cd := PVar.c kd
    have ld := kd.lt
    have hX := HX.out
    have KA := Lib.hid ka
    have KB := Lib.hid kb
    have KC := Lib.hid kc
    have KD := Lib.hid kd
    clear ka kb kc kd
    refine wp_region_up W.heap.size 18 [(true, 0), (true, 1), (true, 2), (true, 4), (true, 5), (true, 6), (false, 3), (false, 7), (true, 8), (true, 9), (true, 10), (true, 11), (true, 12), (true, 13), (true, 15), (true, 16), (true, 17), (false, 14)] (by kernel_rfl) (by kernel_rfl) (fun _ _ d _ _ h => by cases d <;> exact h) ?_
    have hb : Below W.heap.size W W.drew := (Below.refl _ _).drew
    iterate 6
      refine wpS_takeL rfl rfl ?_
      go_big_quiet_step (rfl)
      refine wpQuiet_nil ?_
    refine wpS_doL rfl ?_
    intro K hK
    go_wp2_with ((first | (go_at_call 37; (with_reducible refine (Turn_is ax ay bx b_y cx cy x H1.out _).mono ?_); rintro e w2 ⟨rfl, hn⟩) | (go_at_call 37; (with_reducible refine (Turn_is ax ay bx b_y dx dy y H2.out _).mono ?_); rintro e w2 ⟨rfl, hn⟩) | (go_at_call 37; (with_reducible refine (Turn_is cx cy dx dy ax ay z H3.out _).mono ?_); rintro e w2 ⟨rfl, hn⟩)))
    replace hb := hb.trans (hn.mono hb.size)
    refine hK.out _ _ (up_iff.2 hb) ?_
    clear hK K
    clear hn
    refine wpS_doL rfl ?_
    intro K hK
    go_wp2_with ((first | (go_at_call 37; (with_reducible refine (Turn_is ax ay bx b_y cx cy x H1.out _).mono ?_); rintro e w2 ⟨rfl, hn⟩) | (go_at_call 37; (with_reducible refine (Turn_is ax ay bx b_y dx dy y H2.out _).mono ?_); rintro e w2 ⟨rfl, hn⟩) | (go_at_call 37; (with_reducible refine (Turn_is cx cy dx dy ax ay z H3.out _).mono ?_); rintro e w2 ⟨rfl, hn⟩)))
    replace hb := hb.trans (hn.mono hb.size)
    refine hK.out _ _ (up_iff.2 hb) ?_
    clear hK K
    clear hn
    iterate 9
      refine wpS_takeL rfl rfl ?_
      go_big_quiet_step (rfl)
      refine wpQuiet_nil ?_
    refine wpS_doL rfl ?_
    intro K hK
    go_wp2_with ((first | (go_at_call 37; (with_reducible refine (Turn_is ax ay bx b_y cx cy x H1.out _).mono ?_); rintro e w2 ⟨rfl, hn⟩) | (go_at_call 37; (with_reducible refine (Turn_is ax ay bx b_y dx dy y H2.out _).mono ?_); rintro e w2 ⟨rfl, hn⟩) | (go_at_call 37; (with_reducible refine (Turn_is cx cy dx dy ax ay z H3.out _).mono ?_); rintro e w2 ⟨rfl, hn⟩)))
    try replace hb := hb.trans (hn.mono hb.size)
    refine hK.out _ _ (up_iff.2 hb) ?_
    clear hK K
    try clear hn
    refine wpS_nil ?_
    simp only [List.drop_succ_cons, List.drop_zero]
    replace hb0 := hb0.trans (hb.mono hb0.size)
    clear hb KA KB KC KD ca cb cc cd la lb lc ld
    go_wp2_with fail
    refine (Turn_is cx cy dx dy bx b_y u H4.out _).mono ?_
    rintro e u1 ⟨rfl, hn⟩
    replace hb0 := hb0.trans (hn.mono hb0.size)
    clear hn 
    have hY := HY.out
    clear HX HY H1 H2 H3 H4
    cases t
    · have hy0 : ¬Y < 0 := by simpa using ht
      go_wp2
      go_ret
      exact ⟨rfl, hb0⟩
    · have hy0 : Y < 0 := by simpa using ht
      go_wp2
      go_ret
      exact ⟨rfl, hb0⟩
theorem pFac_any (ax ay bx b_y cx cy dx dy : Int) (v : World) :
    Calls Try.prog 54 #[pI ax ay, pI bx b_y, pI cx cy, pI dx dy] v fun e w' => e = .returned (.bool (fac ax ay bx b_y cx cy dx dy)) ∧ Below v.heap.size v w' :=
  pFac_go ax ay bx b_y cx cy dx dy _ _ _ _ _ _ _ _ rfl rfl rfl rfl (wrap_ways _ _ _ _ _ _ _ _ _ _ _ _) (wrap_ways _ _ _ _ _ _ _ _ _ _ _ _) rfl rfl v

end Go.Proofs.Ytgddpkopbiendaa
