/- Bs7: several of my texts in one: Pnt2, Pnt3, Pnt4, Pnt5, Pnt6, Pnt7, Pnt8, Pnt9. Conditions: as each of them says. -/
import Derived.Test.YtlcbomjdbdgbmaaBs6
/- The walks of package point: turn. Conditions: the coordinates are right. -/
namespace Go.Proofs.Ytlcbomjdbdgbmaa
open Go.RowKit

/-- a variable that holds a point -/
abbrev PVar (w : World) (b : Nat) (x y : Int) : Prop := Blk w b (pC x y) 24
theorem PVar.c {w : World} {b : Nat} {x y : Int} (h : PVar w b x y) : w.cell? ⟨b, 0, none⟩ = some (.int .i64 x) ∧ w.cell? ⟨b, 1, none⟩ = some (.int .i64 y) := ⟨h.cell 0, h.cell 1⟩

theorem OfD_any (a b d : Int) (h : a - b = d) (g : In64 d) (w : World) : Calls Try.prog 62 #[.int .i64 (wrap64 (a - b))] w fun e w' => e = .returned (wI d) ∧ Below w.heap.size w w' := by
  subst h
  rw [show wrap64 (a - b) = a - b by unfold wrap64; unfold In64 at g; omega]
  exact Of_any _ w g
theorem times_is (x y p : Int) (hp : x * y = p) (hi : InI p) (w : World) (ix : InI x) (iy : InI y) : Calls Try.prog 87 #[wI x, wI y] w fun e w' => e = .returned (wI p) ∧ Below w.heap.size w w' :=
  pttimes_any x y true (by rw [hp]; exact decide_eq_true hi) p (by simpa using hp) w ix iy
theorem less_is (x y p : Int) (hp : x - y = p) (hi : InI p) (w : World) (ix : InI x) (iy : InI y) : Calls Try.prog 86 #[wI x, wI y] w fun e w' => e = .returned (wI p) ∧ Below w.heap.size w w' :=
  ptless_any x y true (by rw [hp]; exact decide_eq_true hi) p (by simpa using hp) w ix iy
theorem plus_is (x y p : Int) (hp : x + y = p) (hi : InI p) (w : World) (ix : InI x) (iy : InI y) : Calls Try.prog 85 #[wI x, wI y] w fun e w' => e = .returned (wI p) ∧ Below w.heap.size w w' :=
  ptplus_any x y true (by rw [hp]; exact decide_eq_true hi) p (by simpa using hp) w ix iy
theorem in64_I {x : Int} (h : In64 x) : InI x := by unfold In64 at h; unfold InI b255; omega

set_option maxRecDepth 100000 in
set_option maxHeartbeats 1000000 in
theorem turn_go (ax ay bx b_y cx cy d1 d2 d3 d4 p q r : Int) (h1 : bx - ax = d1) (h2 : cy - ay = d2) (h3 : b_y - ay = d3) (h4 : cx - ax = d4) (g1 : In64 d1) (g2 : In64 d2) (g3 : In64 d3) (g4 : In64 d4) (hp : d1 * d2 = p) (hq : d3 * d4 = q) (hr : p - q = r) (ip : InI p) (iq : InI q) (ir : InI r) (w : World) :
    Calls Try.prog 118 #[pI ax ay, pI bx b_y, pI cx cy] w fun e w' => e = .returned (wI r) ∧ Below w.heap.size w w' := by
  have H1 := Lib.hid h1
  have H2 := Lib.hid h2
  have H3 := Lib.hid h3
  have H4 := Lib.hid h4
  have H5 := Lib.hid hp
  have H6 := Lib.hid hq
  have H7 := Lib.hid hr
  clear h1 h2 h3 h4 hp hq hr
  go_enter Try.func118, Try.ntmps118
  go_wp2_with fail
  refine name_world ?_
  intro W hW
  have ka : PVar W w.heap.size ax ay := by rw [hW]; exact (Blk.new w _ _).alloc _ |>.alloc _ |>.alloc _
  have kb : PVar W (w.heap.size + 1) bx b_y := by rw [hW]; exact (Blk.new1 w _ _ _).alloc _ |>.alloc _
  have kc : PVar W (w.heap.size + 1 + 1) cx cy := by rw [hW]; exact (Blk.new2 w _ _ _ _).alloc _
  have kz : Var W (w.heap.size + 1 + 1 + 1) 0 := by rw [hW]; exact Blk.new3 w _ _ _ _ _
  have hb0 : Below w.heap.size w W := by rw [hW]; exact (below_a3 _ _ _ _).alloc (by simp; omega) _
  clear hW
  have ca := PVar.c ka
  have cb := PVar.c kb
  have cc := PVar.c kc
  have la := ka.lt
  have lb := kb.lt
  have lc := kc.lt
  have lz := kz.lt
  have KZ := Lib.hid kz
  clear ka kb kc kz
  refine wp_region_up W.heap.size 24 [(true, 0), (true, 1), (true, 2), (true, 3), (true, 4), (true, 6), (true, 7), (true, 8), (true, 9), (true, 10), (true, 13), (true, 14), (true, 15), (true, 16), (true, 17), (true, 19), (true, 20), (true, 21), (true, 22), (true, 23), (false, 5), (false, 11), (false, 12), (false, 18)] (by kernel_rfl) (by kernel_rfl) (fun _ _ d _ _ h => by cases d <;> exact h) ?_
  have hb : Below W.heap.size W W.drew := (Below.refl _ _).drew
  iterate 20
    refine wpS_takeL rfl rfl ?_
    go_big_quiet_step (rfl)
    refine wpQuiet_nil ?_
  refine wpS_doL rfl ?_
  intro K hK
  go_wp2_with ((first | (go_at_call 62; (with_reducible refine (OfD_any bx ax d1 H1.out g1 _).mono ?_); rintro e w2 ⟨rfl, hn⟩) | (go_at_call 62; (with_reducible refine (OfD_any cy ay d2 H2.out g2 _).mono ?_); rintro e w2 ⟨rfl, hn⟩) | (go_at_call 62; (with_reducible refine (OfD_any b_y ay d3 H3.out g3 _).mono ?_); rintro e w2 ⟨rfl, hn⟩) | (go_at_call 62; (with_reducible refine (OfD_any cx ax d4 H4.out g4 _).mono ?_); rintro e w2 ⟨rfl, hn⟩) | (go_at_call 87; (with_reducible refine (times_is d1 d2 p H5.out ip _ (in64_I g1) (in64_I g2)).mono ?_); rintro e w2 ⟨rfl, hn⟩) | (go_at_call 87; (with_reducible refine (times_is d3 d4 q H6.out iq _ (in64_I g3) (in64_I g4)).mono ?_); rintro e w2 ⟨rfl, hn⟩) | (go_at_call 86; (with_reducible refine (less_is p q r H7.out ir _ ip iq).mono ?_); rintro e w2 ⟨rfl, hn⟩)))
  replace hb := hb.trans (hn.mono hb.size)
  refine hK.out _ _ (up_iff.2 hb) ?_
  clear hK K
  clear hn
  refine wpS_doL rfl ?_
  intro K hK
  go_wp2_with ((first | (go_at_call 62; (with_reducible refine (OfD_any bx ax d1 H1.out g1 _).mono ?_); rintro e w2 ⟨rfl, hn⟩) | (go_at_call 62; (with_reducible refine (OfD_any cy ay d2 H2.out g2 _).mono ?_); rintro e w2 ⟨rfl, hn⟩) | (go_at_call 62; (with_reducible refine (OfD_any b_y ay d3 H3.out g3 _).mono ?_); rintro e w2 ⟨rfl, hn⟩) | (go_at_call 62; (with_reducible refine (OfD_any cx ax d4 H4.out g4 _).mono ?_); rintro e w2 ⟨rfl, hn⟩) | (go_at_call 87; (with_reducible refine (times_is d1 d2 p H5.out ip _ (in64_I g1) (in64_I g2)).mono ?_); rintro e w2 ⟨rfl, hn⟩) | (go_at_call 87; (with_reducible refine (times_is d3 d4 q H6.out iq _ (in64_I g3) (in64_I g4)).mono ?_); rintro e w2 ⟨rfl, hn⟩) | (go_at_call 86; (with_reducible refine (less_is p q r H7.out ir _ ip iq).mono ?_); rintro e w2 ⟨rfl, hn⟩)))
  replace hb := hb.trans (hn.mono hb.size)
  refine hK.out _ _ (up_iff.2 hb) ?_
  clear hK K
  clear hn
  refine wpS_doL rfl ?_
  intro K hK
  go_wp2_with ((first | (go_at_call 62; (with_reducible refine (OfD_any bx ax d1 H1.out g1 _).mono ?_); rintro e w2 ⟨rfl, hn⟩) | (go_at_call 62; (with_reducible refine (OfD_any cy ay d2 H2.out g2 _).mono ?_); rintro e w2 ⟨rfl, hn⟩) | (go_at_call 62; (with_reducible refine (OfD_any b_y ay d3 H3.out g3 _).mono ?_); rintro e w2 ⟨rfl, hn⟩) | (go_at_call 62; (with_reducible refine (OfD_any cx ax d4 H4.out g4 _).mono ?_); rintro e w2 ⟨rfl, hn⟩) | (go_at_call 87; (with_reducible refine (times_is d1 d2 p H5.out ip _ (in64_I g1) (in64_I g2)).mono ?_); rintro e w2 ⟨rfl, hn⟩) | (go_at_call 87; (with_reducible refine (times_is d3 d4 q H6.out iq _ (in64_I g3) (in64_I g4)).mono ?_); rintro e w2 ⟨rfl, hn⟩) | (go_at_call 86; (with_reducible refine (less_is p q r H7.out ir _ ip iq).mono ?_); rintro e w2 ⟨rfl, hn⟩)))
  replace hb := hb.trans (hn.mono hb.size)
  refine hK.out _ _ (up_iff.2 hb) ?_
  clear hK K
  clear hn
  refine wpS_doL rfl ?_
  intro K hK
  go_wp2_with ((first | (go_at_call 62; (with_reducible refine (OfD_any bx ax d1 H1.out g1 _).mono ?_); rintro e w2 ⟨rfl, hn⟩) | (go_at_call 62; (with_reducible refine (OfD_any cy ay d2 H2.out g2 _).mono ?_); rintro e w2 ⟨rfl, hn⟩) | (go_at_call 62; (with_reducible refine (OfD_any b_y ay d3 H3.out g3 _).mono ?_); rintro e w2 ⟨rfl, hn⟩) | (go_at_call 62; (with_reducible refine (OfD_any cx ax d4 H4.out g4 _).mono ?_); rintro e w2 ⟨rfl, hn⟩) | (go_at_call 87; (with_reducible refine (times_is d1 d2 p H5.out ip _ (in64_I g1) (in64_I g2)).mono ?_); rintro e w2 ⟨rfl, hn⟩) | (go_at_call 87; (with_reducible refine (times_is d3 d4 q H6.out iq _ (in64_I g3) (in64_I g4)).mono ?_); rintro e w2 ⟨rfl, hn⟩) | (go_at_call 86; (with_reducible refine (less_is p q r H7.out ir _ ip iq).mono ?_); rintro e w2 ⟨rfl, hn⟩)))
  replace hb := hb.trans (hn.mono hb.size)
  refine hK.out _ _ (up_iff.2 hb) ?_
  clear hK K
  clear hn
  refine wpS_nil ?_
  simp only [List.drop_succ_cons, List.drop_zero]
  clear ca cb cc la lb lc
  replace hb0 := hb0.trans (hb.mono hb0.size)
  replace KZ := Lib.hid (KZ.out.of hb)
  clear hb
  go_wp2_with fail
  refine (OfD_any cx ax d4 H4.out g4 _).mono ?_
  rintro e u1 ⟨rfl, hn⟩
  replace hb0 := hb0.trans (hn.mono hb0.size)
  replace KZ := Lib.hid (KZ.out.of hn)
  clear hn
  go_wp2_with fail
  refine (times_is d3 d4 q H6.out iq _ (in64_I g3) (in64_I g4)).mono ?_
  rintro e u2 ⟨rfl, hn⟩
  replace hb0 := hb0.trans (hn.mono hb0.size)
  replace KZ := Lib.hid (KZ.out.of hn)
  clear hn
  go_wp2_with fail
  refine (less_is p q r H7.out ir _ ip iq).mono ?_
  rintro e u3 ⟨rfl, hn⟩
  replace hb0 := hb0.trans (hn.mono hb0.size)
  replace KZ := Lib.hid (KZ.out.of hn)
  clear hn
  have cz := Var.c KZ.out
  have fz := Var.f KZ.out
  have lz := KZ.out.lt
  go_wp2
  refine post_world ?_
  intro Wf hWf
  have kf : Var Wf (w.heap.size + 1 + 1 + 1) r := by rw [hWf]; exact Var.put4 KZ.out r
  have hbf : Below w.heap.size w Wf := by rw [hWf]; exact below_set4 hb0 (by omega) (.int .u64 (wd0 r)) (.int .u64 (wd1 r)) (.int .u64 (wd2 r)) (.int .u64 (wd3 r))
  have c := Var.c kf
  clear hWf cz
  simp [bodyPost, results, Try.results118, go_sem, c]
  exact hbf

/-- is a number a coordinate? -/
def Co (x : Int) : Prop := -2199023255552 ≤ x ∧ x ≤ 2199023255552
/-- the turn of three -/
def trn (ax ay bx b_y cx cy : Int) : Int := (bx - ax) * (cy - ay) - (b_y - ay) * (cx - ax)
theorem co_sub {x y : Int} (hx : Co x) (hy : Co y) : -4398046511104 ≤ x - y ∧ x - y ≤ 4398046511104 := by unfold Co at *; omega
theorem mul_bd {x y a b : Int} (ha : 0 ≤ a) (hx : -a ≤ x ∧ x ≤ a) (hy : -b ≤ y ∧ y ≤ b) : -(a * b) ≤ x * y ∧ x * y ≤ a * b := by
  have h1 : x.natAbs ≤ a.natAbs := by omega
  have h2 : y.natAbs ≤ b.natAbs := by omega
  have h3 := Nat.mul_le_mul h1 h2
  rw [← Int.natAbs_mul, ← Int.natAbs_mul] at h3
  have hb : 0 ≤ b := by omega
  have h4 : 0 ≤ a * b := Int.mul_nonneg ha hb
  generalize a * b = p at *
  generalize x * y = q at *
  omega
theorem trn_bd {ax ay bx b_y cx cy : Int} (h1 : Co ax) (h2 : Co ay) (h3 : Co bx) (h4 : Co b_y) (h5 : Co cx) (h6 : Co cy) :
    -38685626227668133590597632 ≤ trn ax ay bx b_y cx cy ∧ trn ax ay bx b_y cx cy ≤ 38685626227668133590597632 := by
  have a1 := mul_bd (by decide) (co_sub h3 h1) (co_sub h6 h2)
  have a2 := mul_bd (by decide) (co_sub h4 h2) (co_sub h5 h1)
  unfold trn
  generalize (bx - ax) * (cy - ay) = p at *
  generalize (b_y - ay) * (cx - ax) = q at *
  omega
theorem turn_any (ax ay bx b_y cx cy : Int) (h1 : Co ax) (h2 : Co ay) (h3 : Co bx) (h4 : Co b_y) (h5 : Co cx) (h6 : Co cy) (w : World) :
    Calls Try.prog 118 #[pI ax ay, pI bx b_y, pI cx cy] w fun e w' => e = .returned (wI (trn ax ay bx b_y cx cy)) ∧ Below w.heap.size w w' := by
  have a1 := mul_bd (by decide) (co_sub h3 h1) (co_sub h6 h2)
  have a2 := mul_bd (by decide) (co_sub h4 h2) (co_sub h5 h1)
  have a3 := trn_bd h1 h2 h3 h4 h5 h6
  refine turn_go ax ay bx b_y cx cy _ _ _ _ _ _ _ rfl rfl rfl rfl ?_ ?_ ?_ ?_ rfl rfl rfl ?_ ?_ ?_ w
  · have := co_sub h3 h1; unfold In64; omega
  · have := co_sub h6 h2; unfold In64; omega
  · have := co_sub h4 h2; unfold In64; omega
  · have := co_sub h5 h1; unfold In64; omega
  · unfold InI b255; omega
  · unfold InI b255; omega
  · unfold trn at a3; unfold InI b255; omega
end Go.Proofs.Ytlcbomjdbdgbmaa
/- The walks of package point: right, Turn. Conditions: the slice holds points. -/
namespace Go.Proofs.Ytlcbomjdbdgbmaa
open Go.RowKit

/-- a slice of points -/
structure Pts (w : World) (ao : Option Addr) (n cap : Nat) (X Y : Nat → Int) : Prop where
  ptr : 0 < n → ∃ a, ao = some a ∧ a.block < w.heap.size ∧ ∀ i, i < n → w.cell? (a.add (i * 2)) = some (.int .i64 (X i)) ∧ w.cell? ((a.add (i * 2)).add 1) = some (.int .i64 (Y i))
  capl : n ≤ cap
  capb : cap ≤ 9223372036854775807
theorem Pts.of {w w' : World} {ao : Option Addr} {n cap : Nat} {X Y : Nat → Int} (h : Pts w ao n cap X Y) (hb : Below w.heap.size w w') : Pts w' ao n cap X Y := by
  refine ⟨fun h0 => ?_, h.capl, h.capb⟩
  obtain ⟨a, h1, h2, h3⟩ := h.ptr h0
  refine ⟨a, h1, Nat.lt_of_lt_of_le h2 hb.size, fun i hi => ?_⟩
  have e1 : ∀ k, (a.add k).block = a.block := fun k => by unfold Addr.add; split <;> rfl
  have e2 : ∀ k l, ((a.add k).add l).block = a.block := fun k l => by unfold Addr.add; split <;> split <;> rfl
  rw [hb.cell (by rw [e1]; exact h2), hb.cell (by rw [e2]; exact h2)]
  exact h3 i hi
/-- are all points of a row right? -/
def allC (n : Nat) (X Y : Nat → Int) : Bool := (List.range n).all fun i => inC (X i) && inC (Y i)

set_option maxRecDepth 100000 in
set_option maxHeartbeats 1000000 in
theorem ptright_any (ao : Option Addr) (n cap : Nat) (X Y : Nat → Int) (w : World) (h : Pts w ao n cap X Y) :
    Calls Try.prog 84 #[.slice ao n cap] w fun e w' => e = .returned (.bool (allC n X Y)) ∧ Below w.heap.size w w' := by
  have hcl := h.capl
  have hcb := h.capb
  have HW := Lib.hid h
  clear h
  obtain ⟨A, hA⟩ : ∃ A, allC n X Y = A := ⟨_, rfl⟩
  rw [hA]
  replace hA := Lib.hid hA
  go_enter Try.func84, Try.ntmps84
  go_wp2_with fail
  go_loopw [7] (fun i wr => ∃ k : Nat, k ≤ n ∧ i = .int .i64 k ∧ Hid (∀ j, j < k → (inC (X j) && inC (Y j)) = true) ∧ Below w.heap.size w wr) (fun i _ => n - (intOf i).toNat)
  case atStart => exact ⟨0, Nat.zero_le _, rfl, fun j hj => absurd hj (by omega), Below.refl _ _⟩
  case round =>
    rename_i wr
    obtain ⟨k, hk, rfl, hall, hbl⟩ := hrel
    by_cases h1 : k < n
    · obtain ⟨a, rfl, hbk, hc⟩ := HW.out.ptr (by omega)
      have ebl : ∀ k, (a.add k).block = a.block := fun k => by unfold Addr.add; split <;> rfl
      have ebl2 : ∀ k l, ((a.add k).add l).block = a.block := fun k l => by unfold Addr.add; split <;> split <;> rfl
      have e0 : wr.cell? (a.add (k * 2)) = some (.int .i64 (X k)) := by rw [hbl.cell (by rw [ebl]; exact hbk)]; exact (hc k h1).1
      have e1 : wr.cell? ((a.add (k * 2)).add 1) = some (.int .i64 (Y k)) := by rw [hbl.cell (by rw [ebl2]; exact hbk)]; exact (hc k h1).2
      clear hc ebl ebl2
      obtain ⟨x, hx⟩ : ∃ x, X k = x := ⟨_, rfl⟩
      obtain ⟨y, hy⟩ : ∃ y, Y k = y := ⟨_, rfl⟩
      obtain ⟨g, hg⟩ : ∃ g, (inC x && inC y) = g := ⟨_, rfl⟩
      rw [hx] at e0
      rw [hy] at e1
      replace e1 : wr.cell? { block := (a.add (k * 2)).block, off := (a.add (k * 2)).off + 1 } = some (.int .i64 y) := e1
      have HX := Lib.hid hx
      have HY := Lib.hid hy
      have HG := Lib.hid hg
      clear hx hy hg
      go_wp2_with fail
      refine (PtRight_any x y _).mono ?_
      rintro e w2 ⟨rfl, hn⟩
      rw [HG.out]
      have hb2 : Below w.heap.size w w2 := (hbl.alloc hbl.size _).trans (hn.mono (by have := hbl.size; simp; omega))
      clear hn e0 e1
      cases g
      · have HA : A = false := by
          rw [← hA.out]; unfold allC; rw [List.all_eq_false]
          refine ⟨k, List.mem_range.2 h1, ?_⟩
          rw [HX.out, HY.out, HG.out]; exact Bool.false_ne_true
        subst HA
        clear hA hall
        go_wp2
        go_ret
        exact ⟨rfl, hb2⟩
      · go_wp2
        refine ⟨⟨k + 1, by omega, by norm_cast, fun j hj => ?_, hb2⟩, ?_⟩
        · by_cases hjk : j = k
          · subst hjk; rw [HX.out, HY.out, HG.out]
          · exact hall.out j (by omega)
        · simp only [intOf]; omega
    · have hkn : k = n := by omega
      have HA : A = true := by
        rw [← hA.out]; unfold allC; rw [List.all_eq_true]
        intro j hj; exact hall.out j (by rw [hkn]; exact List.mem_range.1 hj)
      subst HA
      clear hA hall
      go_wp2
      go_ret
      exact ⟨rfl, hbl⟩

/-- three, four values by their number -/
def f3 (a b c : Int) : Nat → Int | 0 => a | 1 => b | _ => c
def f4 (a b c d : Int) : Nat → Int | 0 => a | 1 => b | 2 => c | _ => d
theorem Pts.three {W : World} {b : Nat} {t : TypeId} {ax ay bx b_y cx cy : Int} (h : Blk W b #[.int .i64 ax, .int .i64 ay, .int .i64 bx, .int .i64 b_y, .int .i64 cx, .int .i64 cy] t) :
    Pts W (some ⟨b, 0, none⟩) 3 3 (f3 ax bx cx) (f3 ay b_y cy) := by
  refine ⟨fun _ => ⟨_, rfl, h.lt, fun i hi => ?_⟩, by decide, by decide⟩
  match i, hi with
  | 0, _ => exact ⟨h.cell 0, h.cell 1⟩
  | 1, _ => exact ⟨h.cell 2, h.cell 3⟩
  | 2, _ => exact ⟨h.cell 4, h.cell 5⟩
theorem Pts.four {W : World} {b : Nat} {t : TypeId} {ax ay bx b_y cx cy dx dy : Int} (h : Blk W b #[.int .i64 ax, .int .i64 ay, .int .i64 bx, .int .i64 b_y, .int .i64 cx, .int .i64 cy, .int .i64 dx, .int .i64 dy] t) :
    Pts W (some ⟨b, 0, none⟩) 4 4 (f4 ax bx cx dx) (f4 ay b_y cy dy) := by
  refine ⟨fun _ => ⟨_, rfl, h.lt, fun i hi => ?_⟩, by decide, by decide⟩
  match i, hi with
  | 0, _ => exact ⟨h.cell 0, h.cell 1⟩
  | 1, _ => exact ⟨h.cell 2, h.cell 3⟩
  | 2, _ => exact ⟨h.cell 4, h.cell 5⟩
  | 3, _ => exact ⟨h.cell 6, h.cell 7⟩
/-- may it be a point? -/
def rp (x y : Int) : Bool := inC x && inC y
def rp3 (ax ay bx b_y cx cy : Int) : Bool := rp ax ay && rp bx b_y && rp cx cy
def rp4 (ax ay bx b_y cx cy dx dy : Int) : Bool := rp ax ay && rp bx b_y && rp cx cy && rp dx dy
theorem allC_3 (ax ay bx b_y cx cy : Int) : allC 3 (f3 ax bx cx) (f3 ay b_y cy) = rp3 ax ay bx b_y cx cy := by
  simp [allC, List.range_succ, f3, rp3, rp, Bool.and_assoc]
theorem allC_4 (ax ay bx b_y cx cy dx dy : Int) : allC 4 (f4 ax bx cx dx) (f4 ay b_y cy dy) = rp4 ax ay bx b_y cx cy dx dy := by
  simp [allC, List.range_succ, f4, rp4, rp, Bool.and_assoc]
theorem inC_co {x : Int} (h : inC x = true) : Co x := by
  unfold inC at h; unfold Co; simpa using h
theorem rp_co {x y : Int} (h : rp x y = true) : Co x ∧ Co y := by
  unfold rp at h; rw [Bool.and_eq_true] at h; exact ⟨inC_co h.1, inC_co h.2⟩
theorem rp3_co {ax ay bx b_y cx cy : Int} (h : rp3 ax ay bx b_y cx cy = true) : Co ax ∧ Co ay ∧ Co bx ∧ Co b_y ∧ Co cx ∧ Co cy := by
  unfold rp3 at h; rw [Bool.and_eq_true, Bool.and_eq_true] at h
  obtain ⟨⟨h1, h2⟩, h3⟩ := h
  exact ⟨(rp_co h1).1, (rp_co h1).2, (rp_co h2).1, (rp_co h2).2, (rp_co h3).1, (rp_co h3).2⟩
/-- the way of the turn of any three -/
def way (ax ay bx b_y cx cy : Int) : Int := bif rp3 ax ay bx b_y cx cy then (trn ax ay bx b_y cx cy).sign else 0

theorem right3_is (ax ay bx b_y cx cy : Int) (g : Bool) (hg : rp3 ax ay bx b_y cx cy = g) (W : World) (b : Nat) (t : TypeId) (h : Blk W b #[.int .i64 ax, .int .i64 ay, .int .i64 bx, .int .i64 b_y, .int .i64 cx, .int .i64 cy] t) :
    Calls Try.prog 84 #[.slice (some ⟨b, 0, none⟩) 3 3] W fun e w' => e = .returned (.bool g) ∧ Below W.heap.size W w' := by
  have := ptright_any _ _ _ _ _ W (Pts.three h)
  rw [allC_3, hg] at this
  exact this
theorem right4_is (ax ay bx b_y cx cy dx dy : Int) (g : Bool) (hg : rp4 ax ay bx b_y cx cy dx dy = g) (W : World) (b : Nat) (t : TypeId) (h : Blk W b #[.int .i64 ax, .int .i64 ay, .int .i64 bx, .int .i64 b_y, .int .i64 cx, .int .i64 cy, .int .i64 dx, .int .i64 dy] t) :
    Calls Try.prog 84 #[.slice (some ⟨b, 0, none⟩) 4 4] W fun e w' => e = .returned (.bool g) ∧ Below W.heap.size W w' := by
  have := ptright_any _ _ _ _ _ W (Pts.four h)
  rw [allC_4, hg] at this
  exact this

set_option maxRecDepth 100000 in
set_option maxHeartbeats 1000000 in
theorem Turn_any (ax ay bx b_y cx cy : Int) (w : World) :
    Calls Try.prog 75 #[pI ax ay, pI bx b_y, pI cx cy] w fun e w' => e = .returned (.int .i64 (way ax ay bx b_y cx cy)) ∧ Below w.heap.size w w' := by
  unfold way
  obtain ⟨g, hg⟩ : ∃ g, rp3 ax ay bx b_y cx cy = g := ⟨_, rfl⟩
  rw [hg]
  obtain ⟨s, hs⟩ : ∃ s : Int, (bif g then (trn ax ay bx b_y cx cy).sign else 0) = s := ⟨_, rfl⟩
  rw [hs]
  have HG := Lib.hid hg
  have HS := Lib.hid hs
  clear hg hs
  go_enter Try.func75, Try.ntmps75
  go_wp2_with fail
  refine calls_w ?_
  intro W hW
  have ka : PVar W w.heap.size ax ay := by rw [hW]; exact (Blk.new w _ _).alloc _ |>.alloc _ |>.alloc _
  have kb : PVar W (w.heap.size + 1) bx b_y := by rw [hW]; exact (Blk.new1 w _ _ _).alloc _ |>.alloc _
  have kc : PVar W (w.heap.size + 1 + 1) cx cy := by rw [hW]; exact (Blk.new2 w _ _ _ _).alloc _
  have kl : Blk W (w.heap.size + 1 + 1 + 1) #[.int .i64 ax, .int .i64 ay, .int .i64 bx, .int .i64 b_y, .int .i64 cx, .int .i64 cy] 24 := by rw [hW]; exact Blk.new3 w _ _ _ _ _
  have hb0 : Below w.heap.size w W := by rw [hW]; exact (below_a3 _ _ _ _).alloc (by simp; omega) _
  clear hW
  refine (right3_is ax ay bx b_y cx cy g HG.out _ _ _ kl).mono ?_
  rintro e u1 ⟨rfl, hn⟩
  replace ka : PVar u1 _ _ _ := ka.of hn
  replace kb : PVar u1 _ _ _ := kb.of hn
  replace kc : PVar u1 _ _ _ := kc.of hn
  replace hb0 := hb0.trans (hn.mono hb0.size)
  clear hn kl
  have ca := PVar.c ka
  have cb := PVar.c kb
  have cc := PVar.c kc
  clear ka kb kc
  cases g
  · have h0 : s = 0 := HS.out.symm
    subst h0
    go_wp2
    go_ret
    exact ⟨rfl, hb0⟩
  · obtain ⟨h1, h2, h3, h4, h5, h6⟩ := rp3_co HG.out
    have HT := trn_bd h1 h2 h3 h4 h5 h6
    go_wp2_with fail
    refine (turn_any ax ay bx b_y cx cy h1 h2 h3 h4 h5 h6 _).mono ?_
    rintro e u2 ⟨rfl, hn⟩
    replace hb0 := hb0.trans (hn.mono hb0.size)
    clear hn ca cb cc
    go_wp2_with fail
    refine (Sign_is _ s HS.out _ (by unfold InI b255; omega)).mono ?_
    rintro e u3 ⟨rfl, hn⟩
    replace hb0 := hb0.trans (hn.mono hb0.size)
    clear hn
    go_wp2
    go_ret
    exact ⟨rfl, hb0⟩
end Go.Proofs.Ytlcbomjdbdgbmaa
/- The walks of package point: far. Conditions: the coordinates are right. -/
namespace Go.Proofs.Ytlcbomjdbdgbmaa
open Go.RowKit

set_option maxRecDepth 100000 in
set_option maxHeartbeats 2000000 in
theorem far_go (ax ay bx b_y d1 d2 p q r : Int) (h1 : ax - bx = d1) (h2 : ay - b_y = d2) (g1 : In64 d1) (g2 : In64 d2) (hp : d1 * d1 = p) (hq : d2 * d2 = q) (hr : p + q = r) (ip : InI p) (iq : InI q) (ir : InI r) (w : World) :
    Calls Try.prog 119 #[pI ax ay, pI bx b_y] w fun e w' => e = .returned (wI r) ∧ Below w.heap.size w w' := by
  have H1 := Lib.hid h1
  have H2 := Lib.hid h2
  have H5 := Lib.hid hp
  have H6 := Lib.hid hq
  have H7 := Lib.hid hr
  clear h1 h2 hp hq hr
  go_enter Try.func119, Try.ntmps119
  go_wp2_with fail
  refine name_world ?_
  intro W hW
  have ka : PVar W w.heap.size ax ay := by rw [hW]; exact (Blk.new w _ _).alloc _ |>.alloc _
  have kb : PVar W (w.heap.size + 1) bx b_y := by rw [hW]; exact (Blk.new1 w _ _ _).alloc _
  have kz : Var W (w.heap.size + 1 + 1) 0 := by rw [hW]; exact Blk.new2 w _ _ _ _
  have hb0 : Below w.heap.size w W := by rw [hW]; exact below_a3 _ _ _ _
  clear hW
  have ca := PVar.c ka
  have cb := PVar.c kb
  have la := ka.lt
  have lb := kb.lt
  have KZ := Lib.hid kz
  clear ka kb kz
  refine wp_region_FG2 14 12 13 [(0, 0), (0, 1), (0, 2), (0, 3), (0, 4), (2, 6), (0, 7), (2, 8), (0, 9), (0, 10), (1, 5), (1, 11)] [(3, 14), (3, 15)] (by kernel_rfl) (by kernel_rfl) (fun _ _ d _ _ => by cases d <;> exact Iff.rfl) rfl rfl rfl allocI rfl rfl rfl allocI rfl ?_
  have hb : Below W.heap.size W W.drew := (Below.refl _ _).drew
  iterate 5
    refine wpFG_take0 rfl rfl ?_
    go_big_quiet_step (rfl)
    refine wpQuiet_nil ?_
  refine wpFG_take2 rfl rfl ?_
  go_big_quiet_step (rfl)
  refine wpQuiet_nil ?_
  refine wpFG_take0 rfl rfl ?_
  go_big_quiet_step (rfl)
  refine wpQuiet_nil ?_
  refine wpFG_take2 rfl rfl ?_
  go_big_quiet_step (rfl)
  refine wpQuiet_nil ?_
  iterate 2
    refine wpFG_take0 rfl rfl ?_
    go_big_quiet_step (rfl)
    refine wpQuiet_nil ?_
  refine wpFG_do rfl ?_
  intro w1 hg K hK
  replace hb := hb.trans (hg.mono hb.size)
  clear hg
  go_wp2_with ((first | (go_at_call 62; (with_reducible refine (OfD_any ax bx d1 H1.out g1 _).mono ?_); rintro e w2 ⟨rfl, hn⟩) | (go_at_call 62; (with_reducible refine (OfD_any ay b_y d2 H2.out g2 _).mono ?_); rintro e w2 ⟨rfl, hn⟩)))
  refine hK.out _ _ hn ?_
  replace hb := hb.trans (hn.mono hb.size)
  clear hK K
  clear hn
  refine wpFG_do rfl ?_
  intro w1 hg K hK
  replace hb := hb.trans (hg.mono hb.size)
  clear hg
  go_wp2_with ((first | (go_at_call 62; (with_reducible refine (OfD_any ax bx d1 H1.out g1 _).mono ?_); rintro e w2 ⟨rfl, hn⟩) | (go_at_call 62; (with_reducible refine (OfD_any ay b_y d2 H2.out g2 _).mono ?_); rintro e w2 ⟨rfl, hn⟩)))
  refine hK.out _ _ hn ?_
  replace hb := hb.trans (hn.mono hb.size)
  clear hK K
  clear hn
  refine wpFG_nil ?_
  clear hb
  intro w1 hg hb b1 b2 hne lb1 nb1 lb2 nb2
  clear hg
  simp only [Act.put, ptrTo, List.setIfInBounds_toArray, List.set_cons_succ, List.set_cons_zero]
  have c1 := Var.c (show Var w1 b1 0 from nb1)
  have f1 := Var.f (show Var w1 b1 0 from nb1)
  have c2 := Var.c (show Var w1 b2 0 from nb2)
  have f2 := Var.f (show Var w1 b2 0 from nb2)
  clear ca cb la lb
  refine wpG_do3 rfl ?_
  intro K hK
  go_wp2_with (fail)
  refine hK.out _ _ ?_
  clear hK K
  refine wpG_do3 rfl ?_
  intro K hK
  go_wp2_with (fail)
  refine hK.out _ _ ?_
  clear hK K
  refine wpG_nil ?_
  refine list_world ?_
  intro V hV
  have g1' : Var w1 b1 0 := nb1
  have g2' : Var w1 b2 0 := nb2
  have hne' : b1 ≠ b2 := hne
  have hz1 : w.heap.size + 1 + 1 ≠ b1 := by have := KZ.out.lt; omega
  have hz2 : w.heap.size + 1 + 1 ≠ b2 := by have := KZ.out.lt; omega
  have k1 : Var V b1 d1 := by rw [hV]; exact (Var.put4 g1' d1).set4 hne' _ _ _ _
  have k2 : Var V b2 d2 := by rw [hV]; exact Var.put4 (g2'.set4 hne'.symm (.int .u64 (wd0 d1)) (.int .u64 (wd1 d1)) (.int .u64 (wd2 d1)) (.int .u64 (wd3 d1))) d2
  have kz : Var V (w.heap.size + 1 + 1) 0 := by rw [hV]; exact ((KZ.out.of hb).set4 hz1 _ _ _ _).set4 hz2 _ _ _ _
  have hge1 : w.heap.size ≤ b1 := Nat.le_trans hb0.size lb1
  have hge2 : w.heap.size ≤ b2 := Nat.le_trans hb0.size lb2
  have hbV : Below w.heap.size w V := by
    rw [hV]
    exact below_set4 (below_set4 (hb0.trans (hb.mono hb0.size)) hge1 (.int .u64 (wd0 d1)) (.int .u64 (wd1 d1)) (.int .u64 (wd2 d1)) (.int .u64 (wd3 d1))) hge2 (.int .u64 (wd0 d2)) (.int .u64 (wd1 d2)) (.int .u64 (wd2 d2)) (.int .u64 (wd3 d2))
  replace KZ := Lib.hid kz
  clear hV g1' g2' c1 c2 f1 f2 nb1 nb2 kz hb hb0
  have l1 := k1.lt
  have l2 := k2.lt
  have c1 := Var.c k1
  have c2 := Var.c k2
  clear k1 k2
  go_wp2_with fail
  refine wp_region_up V.heap.size 5 [(true, 0), (true, 1), (true, 3), (true, 4), (false, 2)] (by kernel_rfl) (by kernel_rfl) (fun _ _ d _ _ h => by cases d <;> exact h) ?_
  have hb : Below V.heap.size V V.drew := (Below.refl _ _).drew
  iterate 4
    refine wpS_takeL rfl rfl ?_
    go_big_quiet_step (rfl)
    refine wpQuiet_nil ?_
  refine wpS_doL rfl ?_
  intro K hK
  go_wp2_with ((first | (go_at_call 87; (with_reducible refine (times_is d1 d1 p H5.out ip _ (in64_I g1) (in64_I g1)).mono ?_); rintro e w2 ⟨rfl, hn⟩) | (go_at_call 87; (with_reducible refine (times_is d2 d2 q H6.out iq _ (in64_I g2) (in64_I g2)).mono ?_); rintro e w2 ⟨rfl, hn⟩) | (go_at_call 85; (with_reducible refine (plus_is p q r H7.out ir _ ip iq).mono ?_); rintro e w2 ⟨rfl, hn⟩)))
  replace hb := hb.trans (hn.mono hb.size)
  refine hK.out _ _ (up_iff.2 hb) ?_
  clear hK K
  clear hn
  refine wpS_nil ?_
  simp only [List.drop_succ_cons, List.drop_zero]
  replace hb0 := hbV.trans (hb.mono hbV.size)
  replace KZ := Lib.hid (KZ.out.of hb)
  clear hb c1 c2 l1 l2 hbV
  go_wp2_with fail
  refine (times_is d2 d2 q H6.out iq _ (in64_I g2) (in64_I g2)).mono ?_
  rintro e u2 ⟨rfl, hn⟩
  replace hb0 := hb0.trans (hn.mono hb0.size)
  replace KZ := Lib.hid (KZ.out.of hn)
  clear hn
  go_wp2_with fail
  refine (plus_is p q r H7.out ir _ ip iq).mono ?_
  rintro e u3 ⟨rfl, hn⟩
  replace hb0 := hb0.trans (hn.mono hb0.size)
  replace KZ := Lib.hid (KZ.out.of hn)
  clear hn
  have cz := Var.c KZ.out
  have fz := Var.f KZ.out
  have lz := KZ.out.lt
  go_wp2
  refine post_world ?_
  intro Wf hWf
  have kf : Var Wf (w.heap.size + 1 + 1) r := by rw [hWf]; exact Var.put4 KZ.out r
  have hbf : Below w.heap.size w Wf := by rw [hWf]; exact below_set4 hb0 (by omega) (.int .u64 (wd0 r)) (.int .u64 (wd1 r)) (.int .u64 (wd2 r)) (.int .u64 (wd3 r))
  have c := Var.c kf
  clear hWf cz
  simp [bodyPost, results, Try.results119, go_sem, c]
  exact hbf

/-- the square of how far one lies from another one -/
def frr (ax ay bx b_y : Int) : Int := (ax - bx) * (ax - bx) + (ay - b_y) * (ay - b_y)
theorem frr_bd {ax ay bx b_y : Int} (h1 : Co ax) (h2 : Co ay) (h3 : Co bx) (h4 : Co b_y) : -38685626227668133590597632 ≤ frr ax ay bx b_y ∧ frr ax ay bx b_y ≤ 38685626227668133590597632 := by
  have a1 := mul_bd (by decide) (co_sub h1 h3) (co_sub h1 h3)
  have a2 := mul_bd (by decide) (co_sub h2 h4) (co_sub h2 h4)
  unfold frr
  generalize (ax - bx) * (ax - bx) = p at *
  generalize (ay - b_y) * (ay - b_y) = q at *
  omega
theorem far_any (ax ay bx b_y : Int) (h1 : Co ax) (h2 : Co ay) (h3 : Co bx) (h4 : Co b_y) (w : World) :
    Calls Try.prog 119 #[pI ax ay, pI bx b_y] w fun e w' => e = .returned (wI (frr ax ay bx b_y)) ∧ Below w.heap.size w w' := by
  have a1 := mul_bd (by decide) (co_sub h1 h3) (co_sub h1 h3)
  have a2 := mul_bd (by decide) (co_sub h2 h4) (co_sub h2 h4)
  have a3 := frr_bd h1 h2 h3 h4
  refine far_go ax ay bx b_y _ _ _ _ _ rfl rfl ?_ ?_ rfl rfl rfl ?_ ?_ ?_ w
  · have := co_sub h1 h3; unfold In64; omega
  · have := co_sub h2 h4; unfold In64; omega
  · unfold InI b255; omega
  · unfold InI b255; omega
  · unfold frr at a3; unfold InI b255; omega
end Go.Proofs.Ytlcbomjdbdgbmaa
/- The walks of package point: between, On. Conditions: none. -/
namespace Go.Proofs.Ytlcbomjdbdgbmaa
open Go.RowKit

/-- does a number lie from one to another one? -/
def btw (a b n : Int) : Bool := decide (min a b ≤ n) && decide (n ≤ max a b)
set_option maxRecDepth 100000 in
set_option maxHeartbeats 1000000 in
theorem between_any (a b n : Int) (w : World) :
    Calls Try.prog 120 #[.int .i64 a, .int .i64 b, .int .i64 n] w fun e w' => e = .returned (.bool (btw a b n)) ∧ Below w.heap.size w w' := by
  obtain ⟨t, ht⟩ : ∃ t, btw a b n = t := ⟨_, rfl⟩
  rw [ht]
  have HT := Lib.hid ht
  clear ht
  by_cases h0 : a < b <;> by_cases h1 : a ≤ n <;> by_cases h2 : b ≤ n
  all_goals
    go_enter Try.func120, Try.ntmps120
    go_wp2
    all_goals
      go_ret
      refine ⟨congrArg (fun t => Ending.returned (.bool t)) ?_, Below.refl _ _⟩
      rw [← HT.out]; unfold btw; rw [Bool.eq_iff_iff]; simp; omega

/-- does one lie on a segment? -/
def onB (ax ay bx b_y px py : Int) : Bool := rp3 ax ay bx b_y px py && (trn ax ay bx b_y px py).sign == 0 && btw ax bx px && btw ay b_y py

set_option maxRecDepth 100000 in
set_option maxHeartbeats 1000000 in
theorem On_any (ax ay bx b_y cx cy : Int) (w : World) :
    Calls Try.prog 77 #[pI ax ay, pI bx b_y, pI cx cy] w fun e w' => e = .returned (.bool (onB ax ay bx b_y cx cy)) ∧ Below w.heap.size w w' := by
  unfold onB
  obtain ⟨g, hg⟩ : ∃ g, rp3 ax ay bx b_y cx cy = g := ⟨_, rfl⟩
  obtain ⟨s, hs⟩ : ∃ s : Int, (trn ax ay bx b_y cx cy).sign = s := ⟨_, rfl⟩
  obtain ⟨z, hz⟩ : ∃ z : Bool, (s == 0) = z := ⟨_, rfl⟩
  obtain ⟨x, hx⟩ : ∃ x : Bool, btw ax bx cx = x := ⟨_, rfl⟩
  obtain ⟨y, hy⟩ : ∃ y : Bool, btw ay b_y cy = y := ⟨_, rfl⟩
  rw [hg, hs, hz, hx, hy]
  have HG := Lib.hid hg
  have HS := Lib.hid hs
  have HX := Lib.hid hx
  have HY := Lib.hid hy
  clear hg hs hx hy
  go_enter Try.func77, Try.ntmps77
  go_wp2_with fail
  refine calls_w ?_
  intro W hW
  have ka : PVar W w.heap.size ax ay := by rw [hW]; exact (Blk.new w _ _).alloc _ |>.alloc _ |>.alloc _
  have kb : PVar W (w.heap.size + 1) bx b_y := by rw [hW]; exact (Blk.new1 w _ _ _).alloc _ |>.alloc _
  have kc : PVar W (w.heap.size + 1 + 1) cx cy := by rw [hW]; exact (Blk.new2 w _ _ _ _).alloc _
  have kl : Blk W (w.heap.size + 1 + 1 + 1) #[.int .i64 ax, .int .i64 ay, .int .i64 bx, .int .i64 b_y, .int .i64 cx, .int .i64 cy] 24 := by rw [hW]; exact Blk.new3 w _ _ _ _ _
  have hb0 : Below w.heap.size w W := by rw [hW]; exact (below_a3 _ _ _ _).alloc (by simp; omega) _
  clear hW
  refine (right3_is ax ay bx b_y cx cy g HG.out _ _ _ kl).mono ?_
  rintro e u1 ⟨rfl, hn⟩
  replace ka : PVar u1 _ _ _ := ka.of hn
  replace kb : PVar u1 _ _ _ := kb.of hn
  replace kc : PVar u1 _ _ _ := kc.of hn
  replace hb0 := hb0.trans (hn.mono hb0.size)
  clear hn kl
  have ca := PVar.c ka
  have cb := PVar.c kb
  have cc := PVar.c kc
  cases g
  · go_wp2
    go_ret
    exact ⟨rfl, hb0⟩
  · obtain ⟨h1, h2, h3, h4, h5, h6⟩ := rp3_co HG.out
    have HT := trn_bd h1 h2 h3 h4 h5 h6
    go_wp2_with fail
    refine (turn_any ax ay bx b_y cx cy h1 h2 h3 h4 h5 h6 _).mono ?_
    rintro e u2 ⟨rfl, hn⟩
    replace ka : PVar u2 _ _ _ := ka.of hn
    replace kb : PVar u2 _ _ _ := kb.of hn
    replace kc : PVar u2 _ _ _ := kc.of hn
    replace hb0 := hb0.trans (hn.mono hb0.size)
    clear hn ca cb cc
    go_wp2_with fail
    refine (Sign_is _ s HS.out _ (by unfold InI b255; omega)).mono ?_
    rintro e u3 ⟨rfl, hn⟩
    replace ka : PVar u3 _ _ _ := ka.of hn
    replace kb : PVar u3 _ _ _ := kb.of hn
    replace kc : PVar u3 _ _ _ := kc.of hn
    replace hb0 := hb0.trans (hn.mono hb0.size)
    have ca := PVar.c ka
    have cb := PVar.c kb
    have cc := PVar.c kc
    clear hn
    cases z
    · go_wp2
      go_ret
      exact ⟨rfl, hb0⟩
    · go_wp2_with fail
      refine (between_any ax bx cx _).mono ?_
      rintro e u4 ⟨rfl, hn⟩
      rw [HX.out]
      replace ka : PVar u4 _ _ _ := ka.of hn
      replace kb : PVar u4 _ _ _ := kb.of hn
      replace kc : PVar u4 _ _ _ := kc.of hn
      replace hb0 := hb0.trans (hn.mono hb0.size)
      clear ca cb cc
      have ca := PVar.c ka
      have cb := PVar.c kb
      have cc := PVar.c kc
      clear hn
      cases x
      · go_wp2
        go_ret
        exact ⟨rfl, hb0⟩
      · go_wp2_with fail
        refine (between_any ay b_y cy _).mono ?_
        rintro e u5 ⟨rfl, hn⟩
        rw [HY.out]
        replace hb0 := hb0.trans (hn.mono hb0.size)
        clear hn
        go_wp2
        go_ret
        exact ⟨by simp, hb0⟩
end Go.Proofs.Ytlcbomjdbdgbmaa
/- The walk of package point's Circle. Conditions: none. -/
namespace Go.Proofs.Ytlcbomjdbdgbmaa
open Go.RowKit

theorem far_is (ax ay bx b_y f : Int) (hf : frr ax ay bx b_y = f) (h1 : Co ax) (h2 : Co ay) (h3 : Co bx) (h4 : Co b_y) (w : World) :
    Calls Try.prog 119 #[pI ax ay, pI bx b_y] w fun e w' => e = .returned (wI f) ∧ Below w.heap.size w w' := hf ▸ far_any ax ay bx b_y h1 h2 h3 h4 w
theorem turn_is (ax ay bx b_y cx cy f : Int) (hf : trn ax ay bx b_y cx cy = f) (h1 : Co ax) (h2 : Co ay) (h3 : Co bx) (h4 : Co b_y) (h5 : Co cx) (h6 : Co cy) (w : World) :
    Calls Try.prog 118 #[pI ax ay, pI bx b_y, pI cx cy] w fun e w' => e = .returned (wI f) ∧ Below w.heap.size w w' := hf ▸ turn_any ax ay bx b_y cx cy h1 h2 h3 h4 h5 h6 w

/-- the sum of the three -/
def crs (ax ay bx b_y cx cy px py : Int) : Int := frr ax ay px py * trn px py bx b_y cx cy + frr bx b_y px py * trn px py cx cy ax ay + frr cx cy px py * trn px py ax ay bx b_y
/-- where one lies to a circle -/
def crc (ax ay bx b_y cx cy px py : Int) : Int := bif rp4 ax ay bx b_y cx cy px py then (crs ax ay bx b_y cx cy px py).sign * (trn ax ay bx b_y cx cy).sign else 0
theorem rp4_co {ax ay bx b_y cx cy dx dy : Int} (h : rp4 ax ay bx b_y cx cy dx dy = true) : Co ax ∧ Co ay ∧ Co bx ∧ Co b_y ∧ Co cx ∧ Co cy ∧ Co dx ∧ Co dy := by
  unfold rp4 at h; rw [Bool.and_eq_true, Bool.and_eq_true, Bool.and_eq_true] at h
  obtain ⟨⟨⟨h1, h2⟩, h3⟩, h4⟩ := h
  exact ⟨(rp_co h1).1, (rp_co h1).2, (rp_co h2).1, (rp_co h2).2, (rp_co h3).1, (rp_co h3).2, (rp_co h4).1, (rp_co h4).2⟩

set_option maxRecDepth 100000 in
set_option maxHeartbeats 4000000 in
theorem Circle_go (ax ay bx b_y cx cy px py f1 f2 f3 t0 t1 t2 t3 m1 m2 m3 s1 s2 z1 z2 z : Int) (A1 : Co ax) (A2 : Co ay) (B1 : Co bx) (B2 : Co b_y) (C1 : Co cx) (C2 : Co cy) (P1 : Co px) (P2 : Co py) (hg : rp4 ax ay bx b_y cx cy px py = true)
    (hf1 : frr ax ay px py = f1) (hf2 : frr bx b_y px py = f2) (hf3 : frr cx cy px py = f3) (ht0 : trn ax ay bx b_y cx cy = t0) (ht1 : trn px py bx b_y cx cy = t1) (ht2 : trn px py cx cy ax ay = t2) (ht3 : trn px py ax ay bx b_y = t3)
    (hm1 : f1 * t1 = m1) (hm2 : f2 * t2 = m2) (hm3 : f3 * t3 = m3) (hs1 : m1 + m2 = s1) (hs2 : s1 + m3 = s2) (hz1 : s2.sign = z1) (hz2 : t0.sign = z2) (hz : wrap64 (z1 * z2) = z)
    (if1 : InI f1) (if2 : InI f2) (if3 : InI f3) (it0 : InI t0) (it1 : InI t1) (it2 : InI t2) (it3 : InI t3) (im1 : InI m1) (im2 : InI m2) (im3 : InI m3) (is1 : InI s1) (is2 : InI s2) (w : World) :
    Calls Try.prog 76 #[pI ax ay, pI bx b_y, pI cx cy, pI px py] w fun e w' => e = .returned (.int .i64 z) ∧ Below w.heap.size w w' := by
  have HG := Lib.hid hg
  clear hg
  have HF1 := Lib.hid hf1
  clear hf1
  have HF2 := Lib.hid hf2
  clear hf2
  have HF3 := Lib.hid hf3
  clear hf3
  have HT0 := Lib.hid ht0
  clear ht0
  have HT1 := Lib.hid ht1
  clear ht1
  have HT2 := Lib.hid ht2
  clear ht2
  have HT3 := Lib.hid ht3
  clear ht3
  have HM1 := Lib.hid hm1
  clear hm1
  have HM2 := Lib.hid hm2
  clear hm2
  have HM3 := Lib.hid hm3
  clear hm3
  have HS1 := Lib.hid hs1
  clear hs1
  have HS2 := Lib.hid hs2
  clear hs2
  have HZ1 := Lib.hid hz1
  clear hz1
  have HZ2 := Lib.hid hz2
  clear hz2
  have HZ := Lib.hid hz
  clear hz
  go_enter Try.func76, Try.ntmps76
  go_wp2_with fail
  refine calls_w ?_
  intro W hW
  have ka : PVar W w.heap.size ax ay := by rw [hW]; exact (Blk.new w _ _).alloc _ |>.alloc _ |>.alloc _ |>.alloc _
  have kb : PVar W (w.heap.size + 1) bx b_y := by rw [hW]; exact (Blk.new1 w _ _ _).alloc _ |>.alloc _ |>.alloc _
  have kc : PVar W (w.heap.size + 1 + 1) cx cy := by rw [hW]; exact (Blk.new2 w _ _ _ _).alloc _ |>.alloc _
  have kp : PVar W (w.heap.size + 1 + 1 + 1) px py := by rw [hW]; exact (Blk.new3 w _ _ _ _ _).alloc _
  have kl : Blk W (w.heap.size + 1 + 1 + 1 + 1) #[.int .i64 ax, .int .i64 ay, .int .i64 bx, .int .i64 b_y, .int .i64 cx, .int .i64 cy, .int .i64 px, .int .i64 py] 24 := by rw [hW]; exact Blk.newAt _ _ (by simp) _ _
  have hb0 : Below w.heap.size w W := by rw [hW]; exact ((below_a3 _ _ _ _).alloc (by simp; omega) _).alloc (by simp; omega) _
  clear hW
  refine (right4_is ax ay bx b_y cx cy px py true HG.out _ _ _ kl).mono ?_
  rintro e u1 ⟨rfl, hn⟩
  replace ka : PVar u1 _ _ _ := ka.of hn
  replace kb : PVar u1 _ _ _ := kb.of hn
  replace kc : PVar u1 _ _ _ := kc.of hn
  replace kp : PVar u1 _ _ _ := kp.of hn
  replace hb0 := hb0.trans (hn.mono hb0.size)
  clear hn kl
  go_wp2_with fail
  have ca := PVar.c ka
  have cb := PVar.c kb
  have cc := PVar.c kc
  have cp := PVar.c kp
  have la := ka.lt
  have lb := kb.lt
  have lc := kc.lt
  have lp := kp.lt
  have KA := Lib.hid ka
  have KB := Lib.hid kb
  have KC := Lib.hid kc
  have KP := Lib.hid kp
  clear ka kb kc kp
  refine wp_region_float1 27 26 [(true, 0), (true, 1), (true, 3), (true, 4), (true, 5), (true, 8), (true, 9), (true, 11), (true, 12), (true, 13), (true, 17), (true, 18), (true, 20), (true, 21), (true, 22), (false, 2), (false, 6), (false, 7), (false, 10), (false, 14), (false, 15), (false, 16), (false, 19), (false, 23), (false, 24), (false, 25)] (by kernel_rfl) (by kernel_rfl) (fun _ _ d _ _ => by cases d <;> exact Iff.rfl) rfl rfl rfl allocI ?_
  have hb : Below u1.heap.size u1 u1.drew := (Below.refl _ _).drew
  iterate 15
    refine wpF_take rfl rfl ?_
    go_big_quiet_step (rfl)
    refine wpQuiet_nil ?_
  refine wpF_do rfl ?_
  intro w1 hg K hK
  replace hb := hb.trans (hg.mono hb.size)
  clear hg
  go_wp2_with ((first | (go_at_call 119; (with_reducible refine (far_is ax ay px py f1 HF1.out A1 A2 P1 P2 _).mono ?_); rintro e w2 ⟨rfl, hn⟩) | (go_at_call 118; (with_reducible refine (turn_is px py bx b_y cx cy t1 HT1.out P1 P2 B1 B2 C1 C2 _).mono ?_); rintro e w2 ⟨rfl, hn⟩) | (go_at_call 87; (with_reducible refine (times_is f1 t1 m1 HM1.out im1 _ if1 it1).mono ?_); rintro e w2 ⟨rfl, hn⟩) | (go_at_call 119; (with_reducible refine (far_is bx b_y px py f2 HF2.out B1 B2 P1 P2 _).mono ?_); rintro e w2 ⟨rfl, hn⟩) | (go_at_call 118; (with_reducible refine (turn_is px py cx cy ax ay t2 HT2.out P1 P2 C1 C2 A1 A2 _).mono ?_); rintro e w2 ⟨rfl, hn⟩) | (go_at_call 87; (with_reducible refine (times_is f2 t2 m2 HM2.out im2 _ if2 it2).mono ?_); rintro e w2 ⟨rfl, hn⟩) | (go_at_call 85; (with_reducible refine (plus_is m1 m2 s1 HS1.out is1 _ im1 im2).mono ?_); rintro e w2 ⟨rfl, hn⟩) | (go_at_call 119; (with_reducible refine (far_is cx cy px py f3 HF3.out C1 C2 P1 P2 _).mono ?_); rintro e w2 ⟨rfl, hn⟩) | (go_at_call 118; (with_reducible refine (turn_is px py ax ay bx b_y t3 HT3.out P1 P2 A1 A2 B1 B2 _).mono ?_); rintro e w2 ⟨rfl, hn⟩) | (go_at_call 87; (with_reducible refine (times_is f3 t3 m3 HM3.out im3 _ if3 it3).mono ?_); rintro e w2 ⟨rfl, hn⟩) | (go_at_call 85; (with_reducible refine (plus_is s1 m3 s2 HS2.out is2 _ is1 im3).mono ?_); rintro e w2 ⟨rfl, hn⟩)))
  refine hK.out _ _ hn ?_
  replace hb := hb.trans (hn.mono hb.size)
  clear hK K
  clear hn
  refine wpF_do rfl ?_
  intro w1 hg K hK
  replace hb := hb.trans (hg.mono hb.size)
  clear hg
  go_wp2_with ((first | (go_at_call 119; (with_reducible refine (far_is ax ay px py f1 HF1.out A1 A2 P1 P2 _).mono ?_); rintro e w2 ⟨rfl, hn⟩) | (go_at_call 118; (with_reducible refine (turn_is px py bx b_y cx cy t1 HT1.out P1 P2 B1 B2 C1 C2 _).mono ?_); rintro e w2 ⟨rfl, hn⟩) | (go_at_call 87; (with_reducible refine (times_is f1 t1 m1 HM1.out im1 _ if1 it1).mono ?_); rintro e w2 ⟨rfl, hn⟩) | (go_at_call 119; (with_reducible refine (far_is bx b_y px py f2 HF2.out B1 B2 P1 P2 _).mono ?_); rintro e w2 ⟨rfl, hn⟩) | (go_at_call 118; (with_reducible refine (turn_is px py cx cy ax ay t2 HT2.out P1 P2 C1 C2 A1 A2 _).mono ?_); rintro e w2 ⟨rfl, hn⟩) | (go_at_call 87; (with_reducible refine (times_is f2 t2 m2 HM2.out im2 _ if2 it2).mono ?_); rintro e w2 ⟨rfl, hn⟩) | (go_at_call 85; (with_reducible refine (plus_is m1 m2 s1 HS1.out is1 _ im1 im2).mono ?_); rintro e w2 ⟨rfl, hn⟩) | (go_at_call 119; (with_reducible refine (far_is cx cy px py f3 HF3.out C1 C2 P1 P2 _).mono ?_); rintro e w2 ⟨rfl, hn⟩) | (go_at_call 118; (with_reducible refine (turn_is px py ax ay bx b_y t3 HT3.out P1 P2 A1 A2 B1 B2 _).mono ?_); rintro e w2 ⟨rfl, hn⟩) | (go_at_call 87; (with_reducible refine (times_is f3 t3 m3 HM3.out im3 _ if3 it3).mono ?_); rintro e w2 ⟨rfl, hn⟩) | (go_at_call 85; (with_reducible refine (plus_is s1 m3 s2 HS2.out is2 _ is1 im3).mono ?_); rintro e w2 ⟨rfl, hn⟩)))
  refine hK.out _ _ hn ?_
  replace hb := hb.trans (hn.mono hb.size)
  clear hK K
  clear hn
  refine wpF_do rfl ?_
  intro w1 hg K hK
  replace hb := hb.trans (hg.mono hb.size)
  clear hg
  go_wp2_with ((first | (go_at_call 119; (with_reducible refine (far_is ax ay px py f1 HF1.out A1 A2 P1 P2 _).mono ?_); rintro e w2 ⟨rfl, hn⟩) | (go_at_call 118; (with_reducible refine (turn_is px py bx b_y cx cy t1 HT1.out P1 P2 B1 B2 C1 C2 _).mono ?_); rintro e w2 ⟨rfl, hn⟩) | (go_at_call 87; (with_reducible refine (times_is f1 t1 m1 HM1.out im1 _ if1 it1).mono ?_); rintro e w2 ⟨rfl, hn⟩) | (go_at_call 119; (with_reducible refine (far_is bx b_y px py f2 HF2.out B1 B2 P1 P2 _).mono ?_); rintro e w2 ⟨rfl, hn⟩) | (go_at_call 118; (with_reducible refine (turn_is px py cx cy ax ay t2 HT2.out P1 P2 C1 C2 A1 A2 _).mono ?_); rintro e w2 ⟨rfl, hn⟩) | (go_at_call 87; (with_reducible refine (times_is f2 t2 m2 HM2.out im2 _ if2 it2).mono ?_); rintro e w2 ⟨rfl, hn⟩) | (go_at_call 85; (with_reducible refine (plus_is m1 m2 s1 HS1.out is1 _ im1 im2).mono ?_); rintro e w2 ⟨rfl, hn⟩) | (go_at_call 119; (with_reducible refine (far_is cx cy px py f3 HF3.out C1 C2 P1 P2 _).mono ?_); rintro e w2 ⟨rfl, hn⟩) | (go_at_call 118; (with_reducible refine (turn_is px py ax ay bx b_y t3 HT3.out P1 P2 A1 A2 B1 B2 _).mono ?_); rintro e w2 ⟨rfl, hn⟩) | (go_at_call 87; (with_reducible refine (times_is f3 t3 m3 HM3.out im3 _ if3 it3).mono ?_); rintro e w2 ⟨rfl, hn⟩) | (go_at_call 85; (with_reducible refine (plus_is s1 m3 s2 HS2.out is2 _ is1 im3).mono ?_); rintro e w2 ⟨rfl, hn⟩)))
  refine hK.out _ _ hn ?_
  replace hb := hb.trans (hn.mono hb.size)
  clear hK K
  clear hn
  refine wpF_do rfl ?_
  intro w1 hg K hK
  replace hb := hb.trans (hg.mono hb.size)
  clear hg
  go_wp2_with ((first | (go_at_call 119; (with_reducible refine (far_is ax ay px py f1 HF1.out A1 A2 P1 P2 _).mono ?_); rintro e w2 ⟨rfl, hn⟩) | (go_at_call 118; (with_reducible refine (turn_is px py bx b_y cx cy t1 HT1.out P1 P2 B1 B2 C1 C2 _).mono ?_); rintro e w2 ⟨rfl, hn⟩) | (go_at_call 87; (with_reducible refine (times_is f1 t1 m1 HM1.out im1 _ if1 it1).mono ?_); rintro e w2 ⟨rfl, hn⟩) | (go_at_call 119; (with_reducible refine (far_is bx b_y px py f2 HF2.out B1 B2 P1 P2 _).mono ?_); rintro e w2 ⟨rfl, hn⟩) | (go_at_call 118; (with_reducible refine (turn_is px py cx cy ax ay t2 HT2.out P1 P2 C1 C2 A1 A2 _).mono ?_); rintro e w2 ⟨rfl, hn⟩) | (go_at_call 87; (with_reducible refine (times_is f2 t2 m2 HM2.out im2 _ if2 it2).mono ?_); rintro e w2 ⟨rfl, hn⟩) | (go_at_call 85; (with_reducible refine (plus_is m1 m2 s1 HS1.out is1 _ im1 im2).mono ?_); rintro e w2 ⟨rfl, hn⟩) | (go_at_call 119; (with_reducible refine (far_is cx cy px py f3 HF3.out C1 C2 P1 P2 _).mono ?_); rintro e w2 ⟨rfl, hn⟩) | (go_at_call 118; (with_reducible refine (turn_is px py ax ay bx b_y t3 HT3.out P1 P2 A1 A2 B1 B2 _).mono ?_); rintro e w2 ⟨rfl, hn⟩) | (go_at_call 87; (with_reducible refine (times_is f3 t3 m3 HM3.out im3 _ if3 it3).mono ?_); rintro e w2 ⟨rfl, hn⟩) | (go_at_call 85; (with_reducible refine (plus_is s1 m3 s2 HS2.out is2 _ is1 im3).mono ?_); rintro e w2 ⟨rfl, hn⟩)))
  refine hK.out _ _ hn ?_
  replace hb := hb.trans (hn.mono hb.size)
  clear hK K
  clear hn
  refine wpF_do rfl ?_
  intro w1 hg K hK
  replace hb := hb.trans (hg.mono hb.size)
  clear hg
  go_wp2_with ((first | (go_at_call 119; (with_reducible refine (far_is ax ay px py f1 HF1.out A1 A2 P1 P2 _).mono ?_); rintro e w2 ⟨rfl, hn⟩) | (go_at_call 118; (with_reducible refine (turn_is px py bx b_y cx cy t1 HT1.out P1 P2 B1 B2 C1 C2 _).mono ?_); rintro e w2 ⟨rfl, hn⟩) | (go_at_call 87; (with_reducible refine (times_is f1 t1 m1 HM1.out im1 _ if1 it1).mono ?_); rintro e w2 ⟨rfl, hn⟩) | (go_at_call 119; (with_reducible refine (far_is bx b_y px py f2 HF2.out B1 B2 P1 P2 _).mono ?_); rintro e w2 ⟨rfl, hn⟩) | (go_at_call 118; (with_reducible refine (turn_is px py cx cy ax ay t2 HT2.out P1 P2 C1 C2 A1 A2 _).mono ?_); rintro e w2 ⟨rfl, hn⟩) | (go_at_call 87; (with_reducible refine (times_is f2 t2 m2 HM2.out im2 _ if2 it2).mono ?_); rintro e w2 ⟨rfl, hn⟩) | (go_at_call 85; (with_reducible refine (plus_is m1 m2 s1 HS1.out is1 _ im1 im2).mono ?_); rintro e w2 ⟨rfl, hn⟩) | (go_at_call 119; (with_reducible refine (far_is cx cy px py f3 HF3.out C1 C2 P1 P2 _).mono ?_); rintro e w2 ⟨rfl, hn⟩) | (go_at_call 118; (with_reducible refine (turn_is px py ax ay bx b_y t3 HT3.out P1 P2 A1 A2 B1 B2 _).mono ?_); rintro e w2 ⟨rfl, hn⟩) | (go_at_call 87; (with_reducible refine (times_is f3 t3 m3 HM3.out im3 _ if3 it3).mono ?_); rintro e w2 ⟨rfl, hn⟩) | (go_at_call 85; (with_reducible refine (plus_is s1 m3 s2 HS2.out is2 _ is1 im3).mono ?_); rintro e w2 ⟨rfl, hn⟩)))
  refine hK.out _ _ hn ?_
  replace hb := hb.trans (hn.mono hb.size)
  clear hK K
  clear hn
  refine wpF_do rfl ?_
  intro w1 hg K hK
  replace hb := hb.trans (hg.mono hb.size)
  clear hg
  go_wp2_with ((first | (go_at_call 119; (with_reducible refine (far_is ax ay px py f1 HF1.out A1 A2 P1 P2 _).mono ?_); rintro e w2 ⟨rfl, hn⟩) | (go_at_call 118; (with_reducible refine (turn_is px py bx b_y cx cy t1 HT1.out P1 P2 B1 B2 C1 C2 _).mono ?_); rintro e w2 ⟨rfl, hn⟩) | (go_at_call 87; (with_reducible refine (times_is f1 t1 m1 HM1.out im1 _ if1 it1).mono ?_); rintro e w2 ⟨rfl, hn⟩) | (go_at_call 119; (with_reducible refine (far_is bx b_y px py f2 HF2.out B1 B2 P1 P2 _).mono ?_); rintro e w2 ⟨rfl, hn⟩) | (go_at_call 118; (with_reducible refine (turn_is px py cx cy ax ay t2 HT2.out P1 P2 C1 C2 A1 A2 _).mono ?_); rintro e w2 ⟨rfl, hn⟩) | (go_at_call 87; (with_reducible refine (times_is f2 t2 m2 HM2.out im2 _ if2 it2).mono ?_); rintro e w2 ⟨rfl, hn⟩) | (go_at_call 85; (with_reducible refine (plus_is m1 m2 s1 HS1.out is1 _ im1 im2).mono ?_); rintro e w2 ⟨rfl, hn⟩) | (go_at_call 119; (with_reducible refine (far_is cx cy px py f3 HF3.out C1 C2 P1 P2 _).mono ?_); rintro e w2 ⟨rfl, hn⟩) | (go_at_call 118; (with_reducible refine (turn_is px py ax ay bx b_y t3 HT3.out P1 P2 A1 A2 B1 B2 _).mono ?_); rintro e w2 ⟨rfl, hn⟩) | (go_at_call 87; (with_reducible refine (times_is f3 t3 m3 HM3.out im3 _ if3 it3).mono ?_); rintro e w2 ⟨rfl, hn⟩) | (go_at_call 85; (with_reducible refine (plus_is s1 m3 s2 HS2.out is2 _ is1 im3).mono ?_); rintro e w2 ⟨rfl, hn⟩)))
  refine hK.out _ _ hn ?_
  replace hb := hb.trans (hn.mono hb.size)
  clear hK K
  clear hn
  refine wpF_do rfl ?_
  intro w1 hg K hK
  replace hb := hb.trans (hg.mono hb.size)
  clear hg
  go_wp2_with ((first | (go_at_call 119; (with_reducible refine (far_is ax ay px py f1 HF1.out A1 A2 P1 P2 _).mono ?_); rintro e w2 ⟨rfl, hn⟩) | (go_at_call 118; (with_reducible refine (turn_is px py bx b_y cx cy t1 HT1.out P1 P2 B1 B2 C1 C2 _).mono ?_); rintro e w2 ⟨rfl, hn⟩) | (go_at_call 87; (with_reducible refine (times_is f1 t1 m1 HM1.out im1 _ if1 it1).mono ?_); rintro e w2 ⟨rfl, hn⟩) | (go_at_call 119; (with_reducible refine (far_is bx b_y px py f2 HF2.out B1 B2 P1 P2 _).mono ?_); rintro e w2 ⟨rfl, hn⟩) | (go_at_call 118; (with_reducible refine (turn_is px py cx cy ax ay t2 HT2.out P1 P2 C1 C2 A1 A2 _).mono ?_); rintro e w2 ⟨rfl, hn⟩) | (go_at_call 87; (with_reducible refine (times_is f2 t2 m2 HM2.out im2 _ if2 it2).mono ?_); rintro e w2 ⟨rfl, hn⟩) | (go_at_call 85; (with_reducible refine (plus_is m1 m2 s1 HS1.out is1 _ im1 im2).mono ?_); rintro e w2 ⟨rfl, hn⟩) | (go_at_call 119; (with_reducible refine (far_is cx cy px py f3 HF3.out C1 C2 P1 P2 _).mono ?_); rintro e w2 ⟨rfl, hn⟩) | (go_at_call 118; (with_reducible refine (turn_is px py ax ay bx b_y t3 HT3.out P1 P2 A1 A2 B1 B2 _).mono ?_); rintro e w2 ⟨rfl, hn⟩) | (go_at_call 87; (with_reducible refine (times_is f3 t3 m3 HM3.out im3 _ if3 it3).mono ?_); rintro e w2 ⟨rfl, hn⟩) | (go_at_call 85; (with_reducible refine (plus_is s1 m3 s2 HS2.out is2 _ is1 im3).mono ?_); rintro e w2 ⟨rfl, hn⟩)))
  refine hK.out _ _ hn ?_
  replace hb := hb.trans (hn.mono hb.size)
  clear hK K
  clear hn
  refine wpF_do rfl ?_
  intro w1 hg K hK
  replace hb := hb.trans (hg.mono hb.size)
  clear hg
  go_wp2_with ((first | (go_at_call 119; (with_reducible refine (far_is ax ay px py f1 HF1.out A1 A2 P1 P2 _).mono ?_); rintro e w2 ⟨rfl, hn⟩) | (go_at_call 118; (with_reducible refine (turn_is px py bx b_y cx cy t1 HT1.out P1 P2 B1 B2 C1 C2 _).mono ?_); rintro e w2 ⟨rfl, hn⟩) | (go_at_call 87; (with_reducible refine (times_is f1 t1 m1 HM1.out im1 _ if1 it1).mono ?_); rintro e w2 ⟨rfl, hn⟩) | (go_at_call 119; (with_reducible refine (far_is bx b_y px py f2 HF2.out B1 B2 P1 P2 _).mono ?_); rintro e w2 ⟨rfl, hn⟩) | (go_at_call 118; (with_reducible refine (turn_is px py cx cy ax ay t2 HT2.out P1 P2 C1 C2 A1 A2 _).mono ?_); rintro e w2 ⟨rfl, hn⟩) | (go_at_call 87; (with_reducible refine (times_is f2 t2 m2 HM2.out im2 _ if2 it2).mono ?_); rintro e w2 ⟨rfl, hn⟩) | (go_at_call 85; (with_reducible refine (plus_is m1 m2 s1 HS1.out is1 _ im1 im2).mono ?_); rintro e w2 ⟨rfl, hn⟩) | (go_at_call 119; (with_reducible refine (far_is cx cy px py f3 HF3.out C1 C2 P1 P2 _).mono ?_); rintro e w2 ⟨rfl, hn⟩) | (go_at_call 118; (with_reducible refine (turn_is px py ax ay bx b_y t3 HT3.out P1 P2 A1 A2 B1 B2 _).mono ?_); rintro e w2 ⟨rfl, hn⟩) | (go_at_call 87; (with_reducible refine (times_is f3 t3 m3 HM3.out im3 _ if3 it3).mono ?_); rintro e w2 ⟨rfl, hn⟩) | (go_at_call 85; (with_reducible refine (plus_is s1 m3 s2 HS2.out is2 _ is1 im3).mono ?_); rintro e w2 ⟨rfl, hn⟩)))
  refine hK.out _ _ hn ?_
  replace hb := hb.trans (hn.mono hb.size)
  clear hK K
  clear hn
  refine wpF_do rfl ?_
  intro w1 hg K hK
  replace hb := hb.trans (hg.mono hb.size)
  clear hg
  go_wp2_with ((first | (go_at_call 119; (with_reducible refine (far_is ax ay px py f1 HF1.out A1 A2 P1 P2 _).mono ?_); rintro e w2 ⟨rfl, hn⟩) | (go_at_call 118; (with_reducible refine (turn_is px py bx b_y cx cy t1 HT1.out P1 P2 B1 B2 C1 C2 _).mono ?_); rintro e w2 ⟨rfl, hn⟩) | (go_at_call 87; (with_reducible refine (times_is f1 t1 m1 HM1.out im1 _ if1 it1).mono ?_); rintro e w2 ⟨rfl, hn⟩) | (go_at_call 119; (with_reducible refine (far_is bx b_y px py f2 HF2.out B1 B2 P1 P2 _).mono ?_); rintro e w2 ⟨rfl, hn⟩) | (go_at_call 118; (with_reducible refine (turn_is px py cx cy ax ay t2 HT2.out P1 P2 C1 C2 A1 A2 _).mono ?_); rintro e w2 ⟨rfl, hn⟩) | (go_at_call 87; (with_reducible refine (times_is f2 t2 m2 HM2.out im2 _ if2 it2).mono ?_); rintro e w2 ⟨rfl, hn⟩) | (go_at_call 85; (with_reducible refine (plus_is m1 m2 s1 HS1.out is1 _ im1 im2).mono ?_); rintro e w2 ⟨rfl, hn⟩) | (go_at_call 119; (with_reducible refine (far_is cx cy px py f3 HF3.out C1 C2 P1 P2 _).mono ?_); rintro e w2 ⟨rfl, hn⟩) | (go_at_call 118; (with_reducible refine (turn_is px py ax ay bx b_y t3 HT3.out P1 P2 A1 A2 B1 B2 _).mono ?_); rintro e w2 ⟨rfl, hn⟩) | (go_at_call 87; (with_reducible refine (times_is f3 t3 m3 HM3.out im3 _ if3 it3).mono ?_); rintro e w2 ⟨rfl, hn⟩) | (go_at_call 85; (with_reducible refine (plus_is s1 m3 s2 HS2.out is2 _ is1 im3).mono ?_); rintro e w2 ⟨rfl, hn⟩)))
  refine hK.out _ _ hn ?_
  replace hb := hb.trans (hn.mono hb.size)
  clear hK K
  clear hn
  refine wpF_do rfl ?_
  intro w1 hg K hK
  replace hb := hb.trans (hg.mono hb.size)
  clear hg
  go_wp2_with ((first | (go_at_call 119; (with_reducible refine (far_is ax ay px py f1 HF1.out A1 A2 P1 P2 _).mono ?_); rintro e w2 ⟨rfl, hn⟩) | (go_at_call 118; (with_reducible refine (turn_is px py bx b_y cx cy t1 HT1.out P1 P2 B1 B2 C1 C2 _).mono ?_); rintro e w2 ⟨rfl, hn⟩) | (go_at_call 87; (with_reducible refine (times_is f1 t1 m1 HM1.out im1 _ if1 it1).mono ?_); rintro e w2 ⟨rfl, hn⟩) | (go_at_call 119; (with_reducible refine (far_is bx b_y px py f2 HF2.out B1 B2 P1 P2 _).mono ?_); rintro e w2 ⟨rfl, hn⟩) | (go_at_call 118; (with_reducible refine (turn_is px py cx cy ax ay t2 HT2.out P1 P2 C1 C2 A1 A2 _).mono ?_); rintro e w2 ⟨rfl, hn⟩) | (go_at_call 87; (with_reducible refine (times_is f2 t2 m2 HM2.out im2 _ if2 it2).mono ?_); rintro e w2 ⟨rfl, hn⟩) | (go_at_call 85; (with_reducible refine (plus_is m1 m2 s1 HS1.out is1 _ im1 im2).mono ?_); rintro e w2 ⟨rfl, hn⟩) | (go_at_call 119; (with_reducible refine (far_is cx cy px py f3 HF3.out C1 C2 P1 P2 _).mono ?_); rintro e w2 ⟨rfl, hn⟩) | (go_at_call 118; (with_reducible refine (turn_is px py ax ay bx b_y t3 HT3.out P1 P2 A1 A2 B1 B2 _).mono ?_); rintro e w2 ⟨rfl, hn⟩) | (go_at_call 87; (with_reducible refine (times_is f3 t3 m3 HM3.out im3 _ if3 it3).mono ?_); rintro e w2 ⟨rfl, hn⟩) | (go_at_call 85; (with_reducible refine (plus_is s1 m3 s2 HS2.out is2 _ is1 im3).mono ?_); rintro e w2 ⟨rfl, hn⟩)))
  refine hK.out _ _ hn ?_
  replace hb := hb.trans (hn.mono hb.size)
  clear hK K
  clear hn
  refine wpF_do rfl ?_
  intro w1 hg K hK
  replace hb := hb.trans (hg.mono hb.size)
  clear hg
  go_wp2_with ((first | (go_at_call 119; (with_reducible refine (far_is ax ay px py f1 HF1.out A1 A2 P1 P2 _).mono ?_); rintro e w2 ⟨rfl, hn⟩) | (go_at_call 118; (with_reducible refine (turn_is px py bx b_y cx cy t1 HT1.out P1 P2 B1 B2 C1 C2 _).mono ?_); rintro e w2 ⟨rfl, hn⟩) | (go_at_call 87; (with_reducible refine (times_is f1 t1 m1 HM1.out im1 _ if1 it1).mono ?_); rintro e w2 ⟨rfl, hn⟩) | (go_at_call 119; (with_reducible refine (far_is bx b_y px py f2 HF2.out B1 B2 P1 P2 _).mono ?_); rintro e w2 ⟨rfl, hn⟩) | (go_at_call 118; (with_reducible refine (turn_is px py cx cy ax ay t2 HT2.out P1 P2 C1 C2 A1 A2 _).mono ?_); rintro e w2 ⟨rfl, hn⟩) | (go_at_call 87; (with_reducible refine (times_is f2 t2 m2 HM2.out im2 _ if2 it2).mono ?_); rintro e w2 ⟨rfl, hn⟩) | (go_at_call 85; (with_reducible refine (plus_is m1 m2 s1 HS1.out is1 _ im1 im2).mono ?_); rintro e w2 ⟨rfl, hn⟩) | (go_at_call 119; (with_reducible refine (far_is cx cy px py f3 HF3.out C1 C2 P1 P2 _).mono ?_); rintro e w2 ⟨rfl, hn⟩) | (go_at_call 118; (with_reducible refine (turn_is px py ax ay bx b_y t3 HT3.out P1 P2 A1 A2 B1 B2 _).mono ?_); rintro e w2 ⟨rfl, hn⟩) | (go_at_call 87; (with_reducible refine (times_is f3 t3 m3 HM3.out im3 _ if3 it3).mono ?_); rintro e w2 ⟨rfl, hn⟩) | (go_at_call 85; (with_reducible refine (plus_is s1 m3 s2 HS2.out is2 _ is1 im3).mono ?_); rintro e w2 ⟨rfl, hn⟩)))
  refine hK.out _ _ hn ?_
  replace hb := hb.trans (hn.mono hb.size)
  clear hK K
  clear hn
  refine wpF_nil ?_
  clear hb
  intro w1 hg hb b1 lb1 nb1
  clear hg
  simp only [Act.put, ptrTo, List.setIfInBounds_toArray, List.set_cons_succ, List.set_cons_zero]
  simp only [List.drop_succ_cons, List.drop_zero]
  have v3 : Var w1 b1 0 := nb1
  have c3 := v3.c
  have f3' := v3.f
  have n3 : b1 < w1.heap.size := Blk.lt nb1
  have da : w.heap.size ≠ b1 := by omega
  have db : w.heap.size + 1 ≠ b1 := by omega
  have dc : w.heap.size + 1 + 1 ≠ b1 := by omega
  have hge : w.heap.size ≤ b1 := Nat.le_trans hb0.size lb1
  replace KA := Lib.hid (KA.out.of hb)
  replace KB := Lib.hid (KB.out.of hb)
  replace KC := Lib.hid (KC.out.of hb)
  replace hb0 := hb0.trans (hb.mono hb0.size)
  have V3 := Lib.hid v3
  clear hb nb1 v3 ca cb cc cp la lb lc lp KP lb1
  go_wp2_with fail
  refine name_world ?_
  intro V hV
  have k3 : Var V b1 s2 := by rw [hV]; exact Var.put4 V3.out s2
  have ka : PVar V w.heap.size ax ay := by rw [hV]; exact KA.out.set4 da _ _ _ _
  have kb : PVar V (w.heap.size + 1) bx b_y := by rw [hV]; exact KB.out.set4 db _ _ _ _
  have kc : PVar V (w.heap.size + 1 + 1) cx cy := by rw [hV]; exact KC.out.set4 dc _ _ _ _
  have hbV : Below w.heap.size w V := by rw [hV]; exact below_set4 hb0 hge (.int .u64 (wd0 s2)) (.int .u64 (wd1 s2)) (.int .u64 (wd2 s2)) (.int .u64 (wd3 s2))
  clear hV hb0 KA KB KC V3 c3 f3' n3 da db dc
  have ca := PVar.c ka
  have cb := PVar.c kb
  have cc := PVar.c kc
  have c3 := Var.c k3
  have la := ka.lt
  have lb := kb.lt
  have lc := kc.lt
  have l3 := k3.lt
  clear ka kb kc k3
  refine wp_region_up V.heap.size 5 [(true, 0), (true, 2), (true, 3), (true, 4), (false, 1)] (by kernel_rfl) (by kernel_rfl) (fun _ _ d _ _ h => by cases d <;> exact h) ?_
  have hb : Below V.heap.size V V.drew := (Below.refl _ _).drew
  iterate 4
    refine wpS_takeL rfl rfl ?_
    go_big_quiet_step (rfl)
    refine wpQuiet_nil ?_
  refine wpS_doL rfl ?_
  intro K hK
  go_wp2_with ((first | (go_at_call 22; (with_reducible refine (Sign_is s2 z1 HZ1.out _ is2).mono ?_); rintro e w2 ⟨rfl, hn⟩) | (go_at_call 118; (with_reducible refine (turn_is ax ay bx b_y cx cy t0 HT0.out A1 A2 B1 B2 C1 C2 _).mono ?_); rintro e w2 ⟨rfl, hn⟩) | (go_at_call 22; (with_reducible refine (Sign_is t0 z2 HZ2.out _ it0).mono ?_); rintro e w2 ⟨rfl, hn⟩)))
  replace hb := hb.trans (hn.mono hb.size)
  refine hK.out _ _ (up_iff.2 hb) ?_
  clear hK K
  clear hn
  refine wpS_nil ?_
  simp only [List.drop_succ_cons, List.drop_zero]
  replace hb0 := hbV.trans (hb.mono hbV.size)
  clear hb hbV ca cb cc c3 la lb lc l3
  go_wp2_with fail
  refine (turn_is ax ay bx b_y cx cy t0 HT0.out A1 A2 B1 B2 C1 C2 _).mono ?_
  rintro e u2 ⟨rfl, hn⟩
  replace hb0 := hb0.trans (hn.mono hb0.size)
  clear hn
  go_wp2_with fail
  refine (Sign_is t0 z2 HZ2.out _ it0).mono ?_
  rintro e u3 ⟨rfl, hn⟩
  replace hb0 := hb0.trans (hn.mono hb0.size)
  clear hn
  go_wp2
  go_ret
  exact ⟨by rw [HZ.out]; rfl, hb0⟩

set_option maxRecDepth 100000 in
set_option maxHeartbeats 1000000 in
theorem Circle_no (ax ay bx b_y cx cy px py : Int) (hg : rp4 ax ay bx b_y cx cy px py = false) (w : World) :
    Calls Try.prog 76 #[pI ax ay, pI bx b_y, pI cx cy, pI px py] w fun e w' => e = .returned (.int .i64 0) ∧ Below w.heap.size w w' := by
  have HG := Lib.hid hg
  clear hg
  go_enter Try.func76, Try.ntmps76
  go_wp2_with fail
  refine calls_w ?_
  intro W hW
  have kl : Blk W (w.heap.size + 1 + 1 + 1 + 1) #[.int .i64 ax, .int .i64 ay, .int .i64 bx, .int .i64 b_y, .int .i64 cx, .int .i64 cy, .int .i64 px, .int .i64 py] 24 := by rw [hW]; exact Blk.newAt _ _ (by simp) _ _
  have hb0 : Below w.heap.size w W := by rw [hW]; exact ((below_a3 _ _ _ _).alloc (by simp; omega) _).alloc (by simp; omega) _
  clear hW
  refine (right4_is ax ay bx b_y cx cy px py false HG.out _ _ _ kl).mono ?_
  rintro e u1 ⟨rfl, hn⟩
  replace hb0 := hb0.trans (hn.mono hb0.size)
  clear hn kl
  go_wp2
  go_ret
  exact ⟨rfl, hb0⟩

theorem sign_cases (n : Int) : n.sign = -1 ∨ n.sign = 0 ∨ n.sign = 1 := by
  rcases Int.lt_trichotomy n 0 with h | h | h
  · exact .inl (Int.sign_eq_neg_one_of_neg h)
  · subst h; exact .inr (.inl rfl)
  · exact .inr (.inr (Int.sign_eq_one_of_pos h))
theorem wrap_signs (m n : Int) : wrap64 (m.sign * n.sign) = m.sign * n.sign := by
  rcases sign_cases m with h | h | h <;> rcases sign_cases n with g | g | g <;> rw [h, g] <;> unfold wrap64 <;> omega
theorem Circle_any (ax ay bx b_y cx cy px py : Int) (w : World) :
    Calls Try.prog 76 #[pI ax ay, pI bx b_y, pI cx cy, pI px py] w fun e w' => e = .returned (.int .i64 (crc ax ay bx b_y cx cy px py)) ∧ Below w.heap.size w w' := by
  unfold crc
  obtain ⟨g, hg⟩ : ∃ g, rp4 ax ay bx b_y cx cy px py = g := ⟨_, rfl⟩
  rw [hg]
  cases g
  · exact Circle_no _ _ _ _ _ _ _ _ hg w
  · obtain ⟨h1, h2, h3, h4, h5, h6, h7, h8⟩ := rp4_co hg
    have a1 := frr_bd h1 h2 h7 h8
    have a2 := frr_bd h3 h4 h7 h8
    have a3 := frr_bd h5 h6 h7 h8
    have c0 := trn_bd h1 h2 h3 h4 h5 h6
    have c1 := trn_bd h7 h8 h3 h4 h5 h6
    have c2 := trn_bd h7 h8 h5 h6 h1 h2
    have c3 := trn_bd h7 h8 h1 h2 h3 h4
    have m1 := mul_bd (by decide) a1 c1
    have m2 := mul_bd (by decide) a2 c2
    have m3 := mul_bd (by decide) a3 c3
    refine Circle_go ax ay bx b_y cx cy px py _ _ _ _ _ _ _ _ _ _ _ _ _ _ _ h1 h2 h3 h4 h5 h6 h7 h8 hg rfl rfl rfl rfl rfl rfl rfl rfl rfl rfl rfl rfl rfl rfl (wrap_signs _ _) ?_ ?_ ?_ ?_ ?_ ?_ ?_ ?_ ?_ ?_ ?_ ?_ w
    · unfold InI b255; omega
    · unfold InI b255; omega
    · unfold InI b255; omega
    · unfold InI b255; omega
    · unfold InI b255; omega
    · unfold InI b255; omega
    · unfold InI b255; omega
    · generalize frr ax ay px py * trn px py bx b_y cx cy = p at *; unfold InI b255; omega
    · generalize frr bx b_y px py * trn px py cx cy ax ay = p at *; unfold InI b255; omega
    · generalize frr cx cy px py * trn px py ax ay bx b_y = p at *; unfold InI b255; omega
    · generalize frr ax ay px py * trn px py bx b_y cx cy = p at *
      generalize frr bx b_y px py * trn px py cx cy ax ay = q at *
      unfold InI b255; omega
    · generalize frr ax ay px py * trn px py bx b_y cx cy = p at *
      generalize frr bx b_y px py * trn px py cx cy ax ay = q at *
      generalize frr cx cy px py * trn px py ax ay bx b_y = r at *
      unfold InI b255; omega
end Go.Proofs.Ytlcbomjdbdgbmaa
/- The walks of package point's Cmp, of gromalaw03's ref, of gromaref03's Right and Ahead. Conditions: none. -/
namespace Go.Proofs.Ytlcbomjdbdgbmaa
open Go.RowKit

/-- the first of two that is not 0 -/
def or2 (a b : Int) : Int := bif a == 0 then b else a
set_option maxRecDepth 100000 in
set_option maxHeartbeats 1000000 in
theorem Or2_any (a b : Int) (bl : Nat) (w : World) (c0 : w.cell? ⟨bl, 0, none⟩ = some (.int .i64 a)) (c1 : w.cell? ⟨bl, 1, none⟩ = some (.int .i64 b)) :
    Calls Try.prog 105 #[.slice (some ⟨bl, 0, none⟩) 2 2] w fun e w' => e = .returned (.int .i64 (or2 a b)) ∧ Below w.heap.size w w' := by
  obtain ⟨t, ht⟩ : ∃ t, or2 a b = t := ⟨_, rfl⟩
  rw [ht]
  unfold or2 at ht
  by_cases h0 : a = 0
  · subst h0
    have h1 : b = t := ht
    subst h1
    by_cases h2 : b = 0
    · subst h2
      go_enter Try.func105, Try.ntmps105
      go_wp2
      refine wp_loop_rounds 3 ?_
      iterate 3
        rw [rounds_succ]
        go_wp2
      go_ret
      exact ⟨rfl, Below.refl _ _⟩
    · go_enter Try.func105, Try.ntmps105
      go_wp2
      refine wp_loop_rounds 3 ?_
      iterate 2
        rw [rounds_succ]
        go_wp2
      go_ret
      exact ⟨rfl, Below.refl _ _⟩
  · have h3 : (a == 0) = false := by simpa using h0
    have h1 : a = t := by rw [h3] at ht; exact ht
    clear h3 ht
    subst h1
    go_enter Try.func105, Try.ntmps105
    go_wp2
    refine wp_loop_rounds 3 ?_
    rw [rounds_succ]
    go_wp2
    go_ret
    exact ⟨rfl, Below.refl _ _⟩
end Go.Proofs.Ytlcbomjdbdgbmaa
/- The walks of gromalaw03's ref, of gromaref03's Right and Ahead. Conditions: none. -/
namespace Go.Proofs.Ytlcbomjdbdgbmaa
open Go.RowKit

set_option maxRecDepth 100000 in
set_option maxHeartbeats 1000000 in
theorem pref_any (x y : Int) (w : World) : Calls Try.prog 20 #[pI x y] w fun e w' => e = .returned (pI x y) ∧ Below w.heap.size w w' := by
  go_enter Try.func20, Try.ntmps20
  go_wp2
  simp [bodyPost, results, Try.results20, go_sem]
  exact below_a2 _ _ _

set_option maxRecDepth 100000 in
set_option maxHeartbeats 1000000 in
theorem rRight_any (x y : Int) (w : World) : Calls Try.prog 26 #[pI x y] w fun e w' => e = .returned (.bool (rp x y)) ∧ Below w.heap.size w w' := by
  obtain ⟨t, ht⟩ : ∃ t, rp x y = t := ⟨_, rfl⟩
  rw [ht]
  have HT := Lib.hid ht
  clear ht
  by_cases h1 : -2199023255552 ≤ x <;> by_cases h2 : x ≤ 2199023255552 <;> by_cases h3 : -2199023255552 ≤ y <;> by_cases h4 : y ≤ 2199023255552
  all_goals first | (exfalso; omega) | skip
  all_goals
    go_enter Try.func26, Try.ntmps26
    go_wp2
    go_ret
    refine ⟨congrArg (fun t => Ending.returned (.bool t)) ?_, below_a1 _ _⟩
    rw [← HT.out]; unfold rp inC; rw [Bool.eq_iff_iff]; simp; omega

/-- does one come ahead of another one? -/
def ahd (ax ay bx b_y : Int) : Bool := decide (ax < bx) || decide (ax = bx) && decide (ay < b_y)
set_option maxRecDepth 100000 in
set_option maxHeartbeats 1000000 in
theorem Ahead_any (ax ay bx b_y : Int) (w : World) : Calls Try.prog 71 #[pI ax ay, pI bx b_y] w fun e w' => e = .returned (.bool (ahd ax ay bx b_y)) ∧ Below w.heap.size w w' := by
  obtain ⟨t, ht⟩ : ∃ t, ahd ax ay bx b_y = t := ⟨_, rfl⟩
  rw [ht]
  have HT := Lib.hid ht
  clear ht
  by_cases h1 : ax < bx <;> by_cases h2 : ax = bx <;> by_cases h3 : ay < b_y
  all_goals first | (exfalso; omega) | skip
  all_goals
    go_enter Try.func71, Try.ntmps71
    go_wp2
    go_ret
    refine ⟨congrArg (fun t => Ending.returned (.bool t)) ?_, below_a2 _ _ _⟩
    rw [← HT.out]; unfold ahd; rw [Bool.eq_iff_iff]; simp; omega
end Go.Proofs.Ytlcbomjdbdgbmaa
/- The walks of package point's Cmp. Conditions: none. -/
namespace Go.Proofs.Ytlcbomjdbdgbmaa
open Go.RowKit

/-- which of two comes first -/
def cmpP (ax ay bx b_y : Int) : Int := or2 (cmpI ax bx) (cmpI ay b_y)
set_option maxRecDepth 100000 in
set_option maxHeartbeats 1000000 in
theorem PtCmp_any (ax ay bx b_y : Int) (w : World) :
    Calls Try.prog 78 #[pI ax ay, pI bx b_y] w fun e w' => e = .returned (.int .i64 (cmpP ax ay bx b_y)) ∧ Below w.heap.size w w' := by
  unfold cmpP
  obtain ⟨x, hx⟩ : ∃ x, cmpI ax bx = x := ⟨_, rfl⟩
  obtain ⟨y, hy⟩ : ∃ y, cmpI ay b_y = y := ⟨_, rfl⟩
  rw [hx, hy]
  have HX := Lib.hid hx
  have HY := Lib.hid hy
  clear hx hy
  go_enter Try.func78, Try.ntmps78
  go_wp2_with fail
  refine name_world ?_
  intro W hW
  have ka : PVar W w.heap.size ax ay := by rw [hW]; exact (Blk.new w _ _).alloc _
  have kb : PVar W (w.heap.size + 1) bx b_y := by rw [hW]; exact Blk.new1 w _ _ _
  have hb0 : Below w.heap.size w W := by rw [hW]; exact below_a2 _ _ _
  clear hW
  have ca := PVar.c ka
  have cb := PVar.c kb
  have la := ka.lt
  have lb := kb.lt
  clear ka kb
  refine wp_region_up W.heap.size 9 [(true, 0), (true, 1), (true, 2), (true, 3), (true, 5), (true, 6), (true, 7), (true, 8), (false, 4)] (by kernel_rfl) (by kernel_rfl) (fun _ _ d _ _ h => by cases d <;> exact h) ?_
  have hb : Below W.heap.size W W.drew := (Below.refl _ _).drew
  iterate 8
    refine wpS_takeL rfl rfl ?_
    go_big_quiet_step (rfl)
    refine wpQuiet_nil ?_
  refine wpS_doL rfl ?_
  intro K hK
  go_wp2_with ((first | (go_at_call 121; (with_reducible refine (Compare_any ax bx _).mono ?_); rintro e w2 ⟨rfl, hn⟩; rw [HX.out]) | (go_at_call 121; (with_reducible refine (Compare_any ay b_y _).mono ?_); rintro e w2 ⟨rfl, hn⟩; rw [HY.out])))
  replace hb := hb.trans (hn.mono hb.size)
  refine hK.out _ _ (up_iff.2 hb) ?_
  clear hK K
  clear hn
  refine wpS_nil ?_
  simp only [List.drop_succ_cons, List.drop_zero]
  replace hb0 := hb0.trans (hb.mono hb0.size)
  clear hb
  clear ca cb la lb
  go_wp2_with fail
  refine (Compare_any ay b_y _).mono ?_
  rintro e u1 ⟨rfl, hn⟩
  rw [HY.out]
  replace hb0 := hb0.trans (hn.mono hb0.size)
  clear hn
  go_wp2_with fail
  refine calls_w ?_
  intro V hV
  have kl : Blk V u1.heap.size #[.int .i64 x, .int .i64 y] 3 := by rw [hV]; exact Blk.new _ _ _
  have hv : Below u1.heap.size u1 V := by rw [hV]; exact below_a1 _ _
  replace hb0 := hb0.trans (hv.mono hb0.size)
  clear hV hv
  refine (Or2_any x y _ _ (kl.cell 0) (kl.cell 1)).mono ?_
  rintro e u2 ⟨rfl, hn⟩
  replace hb0 := hb0.trans (hn.mono hb0.size)
  clear hn kl
  go_wp2
  go_ret
  exact ⟨rfl, hb0⟩
end Go.Proofs.Ytlcbomjdbdgbmaa
