/- The walks of package point: turn. Conditions: the coordinates are right. -/
import Derived.Test.YtgddpkopbiendaaPnt1
namespace Go.Proofs.Ytgddpkopbiendaa
open Go.RowKit

/-- a variable that holds a point -/
abbrev PVar (w : World) (b : Nat) (x y : Int) : Prop := Blk w b (pC x y) 57
theorem PVar.c {w : World} {b : Nat} {x y : Int} (h : PVar w b x y) : w.cell? ⟨b, 0, none⟩ = some (.int .i64 x) ∧ w.cell? ⟨b, 1, none⟩ = some (.int .i64 y) := ⟨h.cell 0, h.cell 1⟩

theorem OfD_any (a b d : Int) (h : a - b = d) (g : In64 d) (w : World) : Calls Try.prog 31 #[.int .i64 (wrap64 (a - b))] w fun e w' => e = .returned (wI d) ∧ Below w.heap.size w w' := by
  subst h
  rw [show wrap64 (a - b) = a - b by unfold wrap64; unfold In64 at g; omega]
  exact Of_any _ w g
theorem times_is (x y p : Int) (hp : x * y = p) (hi : InI p) (w : World) (ix : InI x) (iy : InI y) : Calls Try.prog 85 #[wI x, wI y] w fun e w' => e = .returned (wI p) ∧ Below w.heap.size w w' :=
  pttimes_any x y true (by rw [hp]; exact decide_eq_true hi) p (by simpa using hp) w ix iy
theorem less_is (x y p : Int) (hp : x - y = p) (hi : InI p) (w : World) (ix : InI x) (iy : InI y) : Calls Try.prog 89 #[wI x, wI y] w fun e w' => e = .returned (wI p) ∧ Below w.heap.size w w' :=
  ptless_any x y true (by rw [hp]; exact decide_eq_true hi) p (by simpa using hp) w ix iy
theorem plus_is (x y p : Int) (hp : x + y = p) (hi : InI p) (w : World) (ix : InI x) (iy : InI y) : Calls Try.prog 84 #[wI x, wI y] w fun e w' => e = .returned (wI p) ∧ Below w.heap.size w w' :=
  ptplus_any x y true (by rw [hp]; exact decide_eq_true hi) p (by simpa using hp) w ix iy
theorem in64_I {x : Int} (h : In64 x) : InI x := by unfold In64 at h; unfold InI b255; omega

set_option maxRecDepth 100000 in
set_option maxHeartbeats 1000000 in
theorem turn_go (ax ay bx b_y cx cy d1 d2 d3 d4 p q r : Int) (h1 : bx - ax = d1) (h2 : cy - ay = d2) (h3 : b_y - ay = d3) (h4 : cx - ax = d4) (g1 : In64 d1) (g2 : In64 d2) (g3 : In64 d3) (g4 : In64 d4) (hp : d1 * d2 = p) (hq : d3 * d4 = q) (hr : p - q = r) (ip : InI p) (iq : InI q) (ir : InI r) (w : World) :
    Calls Try.prog 79 #[pI ax ay, pI bx b_y, pI cx cy] w fun e w' => e = .returned (wI r) ∧ Below w.heap.size w w' := by
  have H1 := Lib.hid h1
  have H2 := Lib.hid h2
  have H3 := Lib.hid h3
  have H4 := Lib.hid h4
  have H5 := Lib.hid hp
  have H6 := Lib.hid hq
  have H7 := Lib.hid hr
  clear h1 h2 h3 h4 hp hq hr
  go_enter Try.func79, Try.ntmps79
  go_wp2_with fail
  refine name_world ?_
  intro W hW
  have ka : PVar W w.heap.size ax ay := by rw [hW]; exact (Blk.new w _ _).alloc _ |>.alloc _ |>.alloc _
  have kb : PVar W (w.heap.size + 1) bx b_y := by rw [hW]; exact (Blk.new1 w _ _ _).alloc _ |>.alloc _
  have kc : PVar W (w.heap.size + 1 + 1) cx cy := by rw [hW]; exact (Blk.new2 w _ _ _ _).alloc _
  have kz : Var W (w.heap.size + 1 + 1 + 1) 0 := by rw [hW]; exact Blk.new3 w _ _ _ _ _
  have hb0 : Below w.heap.size w W := by rw [hW]; exact (below_a3 _ _ _ _).alloc (by simp; omega) _
  clear hW
  have ca := PVar.c ka
  have cb := PVar.c kb
  have cc := PVar.c kc
  have la := ka.lt
  have lb := kb.lt
  have lc := kc.lt
  have lz := kz.lt
  have KZ := Lib.hid kz
  clear ka kb kc kz
  refine wp_region_up W.heap.size 24 [(true, 0), (true, 1), (true, 2), (true, 3), (true, 4), (true, 6), (true, 7), (true, 8), (true, 9), (true, 10), (true, 13), (true, 14), (true, 15), (true, 16), (true, 17), (true, 19), (true, 20), (true, 21), (true, 22), (true, 23), (false, 5), (false, 11), (false, 12), (false, 18)] (by kernel_rfl) (by kernel_rfl) (fun _ _ d _ _ h => by cases d <;> exact h) ?_
  have hb : Below W.heap.size W W.drew := (Below.refl _ _).drew
  iterate 20
    refine wpS_takeL rfl rfl ?_
    go_big_quiet_step (rfl)
    refine wpQuiet_nil ?_
  refine wpS_doL rfl ?_
  intro K hK
  go_wp2_with ((first | (go_at_call 31; (with_reducible refine (OfD_any bx ax d1 H1.out g1 _).mono ?_); rintro e w2 ⟨rfl, hn⟩) | (go_at_call 31; (with_reducible refine (OfD_any cy ay d2 H2.out g2 _).mono ?_); rintro e w2 ⟨rfl, hn⟩) | (go_at_call 31; (with_reducible refine (OfD_any b_y ay d3 H3.out g3 _).mono ?_); rintro e w2 ⟨rfl, hn⟩) | (go_at_call 31; (with_reducible refine (OfD_any cx ax d4 H4.out g4 _).mono ?_); rintro e w2 ⟨rfl, hn⟩) | (go_at_call 85; (with_reducible refine (times_is d1 d2 p H5.out ip _ (in64_I g1) (in64_I g2)).mono ?_); rintro e w2 ⟨rfl, hn⟩) | (go_at_call 85; (with_reducible refine (times_is d3 d4 q H6.out iq _ (in64_I g3) (in64_I g4)).mono ?_); rintro e w2 ⟨rfl, hn⟩) | (go_at_call 89; (with_reducible refine (less_is p q r H7.out ir _ ip iq).mono ?_); rintro e w2 ⟨rfl, hn⟩)))
  replace hb := hb.trans (hn.mono hb.size)
  refine hK.out _ _ (up_iff.2 hb) ?_
  clear hK K
  clear hn
  refine wpS_doL rfl ?_
  intro K hK
  go_wp2_with ((first | (go_at_call 31; (with_reducible refine (OfD_any bx ax d1 H1.out g1 _).mono ?_); rintro e w2 ⟨rfl, hn⟩) | (go_at_call 31; (with_reducible refine (OfD_any cy ay d2 H2.out g2 _).mono ?_); rintro e w2 ⟨rfl, hn⟩) | (go_at_call 31; (with_reducible refine (OfD_any b_y ay d3 H3.out g3 _).mono ?_); rintro e w2 ⟨rfl, hn⟩) | (go_at_call 31; (with_reducible refine (OfD_any cx ax d4 H4.out g4 _).mono ?_); rintro e w2 ⟨rfl, hn⟩) | (go_at_call 85; (with_reducible refine (times_is d1 d2 p H5.out ip _ (in64_I g1) (in64_I g2)).mono ?_); rintro e w2 ⟨rfl, hn⟩) | (go_at_call 85; (with_reducible refine (times_is d3 d4 q H6.out iq _ (in64_I g3) (in64_I g4)).mono ?_); rintro e w2 ⟨rfl, hn⟩) | (go_at_call 89; (with_reducible refine (less_is p q r H7.out ir _ ip iq).mono ?_); rintro e w2 ⟨rfl, hn⟩)))
  replace hb := hb.trans (hn.mono hb.size)
  refine hK.out _ _ (up_iff.2 hb) ?_
  clear hK K
  clear hn
  refine wpS_doL rfl ?_
  intro K hK
  go_wp2_with ((first | (go_at_call 31; (with_reducible refine (OfD_any bx ax d1 H1.out g1 _).mono ?_); rintro e w2 ⟨rfl, hn⟩) | (go_at_call 31; (with_reducible refine (OfD_any cy ay d2 H2.out g2 _).mono ?_); rintro e w2 ⟨rfl, hn⟩) | (go_at_call 31; (with_reducible refine (OfD_any b_y ay d3 H3.out g3 _).mono ?_); rintro e w2 ⟨rfl, hn⟩) | (go_at_call 31; (with_reducible refine (OfD_any cx ax d4 H4.out g4 _).mono ?_); rintro e w2 ⟨rfl, hn⟩) | (go_at_call 85; (with_reducible refine (times_is d1 d2 p H5.out ip _ (in64_I g1) (in64_I g2)).mono ?_); rintro e w2 ⟨rfl, hn⟩) | (go_at_call 85; (with_reducible refine (times_is d3 d4 q H6.out iq _ (in64_I g3) (in64_I g4)).mono ?_); rintro e w2 ⟨rfl, hn⟩) | (go_at_call 89; (with_reducible refine (less_is p q r H7.out ir _ ip iq).mono ?_); rintro e w2 ⟨rfl, hn⟩)))
  replace hb := hb.trans (hn.mono hb.size)
  refine hK.out _ _ (up_iff.2 hb) ?_
  clear hK K
  clear hn
  refine wpS_doL rfl ?_
  intro K hK
  go_wp2_with ((first | (go_at_call 31; (with_reducible refine (OfD_any bx ax d1 H1.out g1 _).mono ?_); rintro e w2 ⟨rfl, hn⟩) | (go_at_call 31; (with_reducible refine (OfD_any cy ay d2 H2.out g2 _).mono ?_); rintro e w2 ⟨rfl, hn⟩) | (go_at_call 31; (with_reducible refine (OfD_any b_y ay d3 H3.out g3 _).mono ?_); rintro e w2 ⟨rfl, hn⟩) | (go_at_call 31; (with_reducible refine (OfD_any cx ax d4 H4.out g4 _).mono ?_); rintro e w2 ⟨rfl, hn⟩) | (go_at_call 85; (with_reducible refine (times_is d1 d2 p H5.out ip _ (in64_I g1) (in64_I g2)).mono ?_); rintro e w2 ⟨rfl, hn⟩) | (go_at_call 85; (with_reducible refine (times_is d3 d4 q H6.out iq _ (in64_I g3) (in64_I g4)).mono ?_); rintro e w2 ⟨rfl, hn⟩) | (go_at_call 89; (with_reducible refine (less_is p q r H7.out ir _ ip iq).mono ?_); rintro e w2 ⟨rfl, hn⟩)))
  replace hb := hb.trans (hn.mono hb.size)
  refine hK.out _ _ (up_iff.2 hb) ?_
  clear hK K
  clear hn
  refine wpS_nil ?_
  simp only [List.drop_succ_cons, List.drop_zero]
  clear ca cb cc la lb lc
  replace hb0 := hb0.trans (hb.mono hb0.size)
  replace KZ := Lib.hid (KZ.out.of hb)
  clear hb
  go_wp2_with fail
  refine (OfD_any cx ax d4 H4.out g4 _).mono ?_
  rintro e u1 ⟨rfl, hn⟩
  replace hb0 := hb0.trans (hn.mono hb0.size)
  replace KZ := Lib.hid (KZ.out.of hn)
  clear hn
  go_wp2_with fail
  refine (times_is d3 d4 q H6.out iq _ (in64_I g3) (in64_I g4)).mono ?_
  rintro e u2 ⟨rfl, hn⟩
  replace hb0 := hb0.trans (hn.mono hb0.size)
  replace KZ := Lib.hid (KZ.out.of hn)
  clear hn
  go_wp2_with fail
  refine (less_is p q r H7.out ir _ ip iq).mono ?_
  rintro e u3 ⟨rfl, hn⟩
  replace hb0 := hb0.trans (hn.mono hb0.size)
  replace KZ := Lib.hid (KZ.out.of hn)
  clear hn
  have cz := Var.c KZ.out
  have fz := Var.f KZ.out
  have lz := KZ.out.lt
  go_wp2
  refine post_world ?_
  intro Wf hWf
  have kf : Var Wf (w.heap.size + 1 + 1 + 1) r := by rw [hWf]; exact Var.put4 KZ.out r
  have hbf : Below w.heap.size w Wf := by rw [hWf]; exact below_set4 hb0 (by omega) (.int .u64 (wd0 r)) (.int .u64 (wd1 r)) (.int .u64 (wd2 r)) (.int .u64 (wd3 r))
  have c := Var.c kf
  clear hWf cz
  simp [bodyPost, results, Try.results79, go_sem, c]
  exact hbf

/-- is a number a coordinate? -/
def Co (x : Int) : Prop := -2199023255552 ≤ x ∧ x ≤ 2199023255552
/-- the turn of three -/
def trn (ax ay bx b_y cx cy : Int) : Int := (bx - ax) * (cy - ay) - (b_y - ay) * (cx - ax)
theorem co_sub {x y : Int} (hx : Co x) (hy : Co y) : -4398046511104 ≤ x - y ∧ x - y ≤ 4398046511104 := by unfold Co at *; omega
theorem mul_bd {x y a b : Int} (ha : 0 ≤ a) (hx : -a ≤ x ∧ x ≤ a) (hy : -b ≤ y ∧ y ≤ b) : -(a * b) ≤ x * y ∧ x * y ≤ a * b := by
  have h1 : x.natAbs ≤ a.natAbs := by omega
  have h2 : y.natAbs ≤ b.natAbs := by omega
  have h3 := Nat.mul_le_mul h1 h2
  rw [← Int.natAbs_mul, ← Int.natAbs_mul] at h3
  have hb : 0 ≤ b := by omega
  have h4 : 0 ≤ a * b := Int.mul_nonneg ha hb
  generalize a * b = p at *
  generalize x * y = q at *
  omega
theorem trn_bd {ax ay bx b_y cx cy : Int} (h1 : Co ax) (h2 : Co ay) (h3 : Co bx) (h4 : Co b_y) (h5 : Co cx) (h6 : Co cy) :
    -38685626227668133590597632 ≤ trn ax ay bx b_y cx cy ∧ trn ax ay bx b_y cx cy ≤ 38685626227668133590597632 := by
  have a1 := mul_bd (by decide) (co_sub h3 h1) (co_sub h6 h2)
  have a2 := mul_bd (by decide) (co_sub h4 h2) (co_sub h5 h1)
  unfold trn
  generalize (bx - ax) * (cy - ay) = p at *
  generalize (b_y - ay) * (cx - ax) = q at *
  omega
theorem turn_any (ax ay bx b_y cx cy : Int) (h1 : Co ax) (h2 : Co ay) (h3 : Co bx) (h4 : Co b_y) (h5 : Co cx) (h6 : Co cy) (w : World) :
    Calls Try.prog 79 #[pI ax ay, pI bx b_y, pI cx cy] w fun e w' => e = .returned (wI (trn ax ay bx b_y cx cy)) ∧ Below w.heap.size w w' := by
  have a1 := mul_bd (by decide) (co_sub h3 h1) (co_sub h6 h2)
  have a2 := mul_bd (by decide) (co_sub h4 h2) (co_sub h5 h1)
  have a3 := trn_bd h1 h2 h3 h4 h5 h6
  refine turn_go ax ay bx b_y cx cy _ _ _ _ _ _ _ rfl rfl rfl rfl ?_ ?_ ?_ ?_ rfl rfl rfl ?_ ?_ ?_ w
  · have := co_sub h3 h1; unfold In64; omega
  · have := co_sub h6 h2; unfold In64; omega
  · have := co_sub h4 h2; unfold In64; omega
  · have := co_sub h5 h1; unfold In64; omega
  · unfold InI b255; omega
  · unfold InI b255; omega
  · unfold trn at a3; unfold InI b255; omega
end Go.Proofs.Ytgddpkopbiendaa
