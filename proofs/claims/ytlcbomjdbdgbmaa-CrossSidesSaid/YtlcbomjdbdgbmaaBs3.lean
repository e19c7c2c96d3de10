/- Bs3: several of my texts in one: Wide1, Wide2, Wide3, Wide4, Num2, Wide5, Num3. Conditions: as each of them says. -/
import Derived.Test.YtlcbomjdbdgbmaaBs2
import Derived.Test.YtlcbomjdbdgbmaaBs1
import Derived.Lib.Hide
import Derived.WalkSmall
import Derived.Laws.BitsAllLaws
/- The walks of package wide: turned, kept, Add. Conditions: none. -/
namespace Go.Proofs.Ytlcbomjdbdgbmaa
open Go.RowKit

theorem xor_max_nat (n : Nat) (h : n < 18446744073709551616) : 18446744073709551615 ^^^ n = 18446744073709551615 - n := by
  have e : (BitVec.allOnes 64 ^^^ BitVec.ofNat 64 n).toNat = (~~~ (BitVec.ofNat 64 n)).toNat := by
    rw [BitVec.allOnes_xor]
  rw [BitVec.toNat_xor, BitVec.toNat_not, BitVec.toNat_allOnes, BitVec.toNat_ofNat, Nat.mod_eq_of_lt (by simpa using h)] at e
  simpa using e
theorem xor_max (a : Int) (h : Wd a) : bits .xor .u64 IntKind.u64.max a = 18446744073709551615 - a := by
  obtain ⟨h0, h1⟩ := h
  have e : IntKind.u64.max = 18446744073709551615 := by decide
  rw [e, u64_xor _ _ (by decide) (by decide) h0 h1]
  have := xor_max_nat a.toNat (by omega)
  have e2 : Int.toNat 18446744073709551615 = 18446744073709551615 := by decide
  rw [e2, this]; omega

theorem allocI : AllocRuns Try.prog 35 (wC 0) := fun w => by kernel_rfl

theorem negative_any (x : Int) (w : World) : Calls Try.prog 88 #[wI x] w fun e w' => e = .returned (.bool (ng x)) ∧ Below w.heap.size w w' :=
  negative_raw _ _ _ _ w (wd3_Wd x)
theorem negative_is (x : Int) (b : Bool) (h : ng x = b) (w : World) : Calls Try.prog 88 #[wI x] w fun e w' => e = .returned (.bool b) ∧ Below w.heap.size w w' := h ▸ negative_any x w

theorem kept_any (x : Int) (b : Bool) (w : World) : Calls Try.prog 144 #[wI x, .bool b] w fun e w' => e = .returned (.tuple #[wI (bif b then x else 0), .bool b]) ∧ Below w.heap.size w w' := by
  cases b
  · go_enter Try.func144, Try.ntmps144
    go_wp2
    simp [bodyPost, results, Try.results144, go_sem, wd0_0, wd1_0, wd2_0, wd3_0]
    exact ((Below.refl _ _).alloc (Nat.le_refl _) _).alloc (by simp) _
  · go_enter Try.func144, Try.ntmps144
    go_wp2
    simp [bodyPost, results, Try.results144, go_sem]
    exact ((Below.refl _ _).alloc (Nat.le_refl _) _).alloc (by simp) _

set_option maxRecDepth 100000 in
theorem turned_raw (a0 a1 a2 a3 : Int) (w : World) (h0 : Wd a0) (h1 : Wd a1) (h2 : Wd a2) (h3 : Wd a3) :
    Calls Try.prog 138 #[.agg #[.int .u64 a0, .int .u64 a1, .int .u64 a2, .int .u64 a3]] w fun e w' =>
      e = .returned (.agg #[.int .u64 (18446744073709551615 - a0), .int .u64 (18446744073709551615 - a1), .int .u64 (18446744073709551615 - a2), .int .u64 (18446744073709551615 - a3)]) ∧ Below w.heap.size w w' := by
  have x0 := xor_max a0 h0
  have x1 := xor_max a1 h1
  have x2 := xor_max a2 h2
  have x3 := xor_max a3 h3
  clear h0 h1 h2 h3
  go_enter Try.func138, Try.ntmps138
  go_wp2
  refine wp_loop_rounds 5 ?_
  iterate 5
    rw [rounds_succ]
    go_wp2
  simp [bodyPost, results, Try.results138, go_sem]
  exact ((Below.refl _ _).alloc (Nat.le_refl _) _).alloc (by simp) _

theorem turned_any (x : Int) (w : World) :
    Calls Try.prog 138 #[wI x] w fun e w' => e = .returned (wI (-1 - x)) ∧ Below w.heap.size w w' := by
  refine (turned_raw _ _ _ _ w (wd0_Wd x) (wd1_Wd x) (wd2_Wd x) (wd3_Wd x)).mono fun e w' ⟨he, hw⟩ => ⟨?_, hw⟩
  rw [he, ← not_wd0, ← not_wd1, ← not_wd2, ← not_wd3]


/-- what Add says: does the sum fit? -/
def addB (x y : Int) : Bool := (ng x != ng y) || (ng (x + y) == ng x)

set_option maxRecDepth 100000 in
set_option maxHeartbeats 1000000 in
theorem Add_go (x y : Int) (w : World) (bx by' bs : Bool) (hx : ng x = bx) (hy : ng y = by') (hs : ng (x + y) = bs) :
    Calls Try.prog 122 #[wI x, wI y] w fun e w' => e = .returned (.tuple #[wI (bif addB x y then x + y else 0), .bool (addB x y)]) ∧ Below w.heap.size w w' := by
  have hfin : addB x y = ((bx != by') || (bs == bx)) := by simp [addB, hx, hy, hs]
  rw [hfin]
  clear hfin
  go_enter Try.func122, Try.ntmps122
  go_wp2_with fail
  refine calls_w ?_
  intro W0 hW0
  have v0 : Var W0 w.heap.size x := by rw [hW0]; exact ((Blk.new _ _ _).alloc _).alloc _
  have v1 : Var W0 (w.heap.size + 1) y := by rw [hW0]; exact ((Blk.new1 _ _ _ _).alloc _)
  have v2 : Var W0 (w.heap.size + 1 + 1) 0 := by rw [hW0]; exact Blk.new2 _ _ _ _ _
  have hb0 : Below w.heap.size w W0 := by rw [hW0]; exact (((Below.refl _ _).alloc (Nat.le_refl _) _).alloc (by simp) _).alloc (by simp; omega) _
  clear hW0
  refine (plus_any x y 0 _ (by decide) (by decide)).mono ?_
  rintro e w1 ⟨rfl, hb1⟩
  rw [Int.add_zero]
  replace v0 := v0.of hb1
  replace v1 := v1.of hb1
  replace v2 := v2.of hb1
  replace hb0 := hb0.trans (hb1.mono hb0.size)
  clear hb1
  go_wp2_with fail
  refine name_world ?_
  intro W hW
  have v3 : Var W w1.heap.size (x + y) := by rw [hW]; exact Blk.new _ _ _
  replace v0 : Var W w.heap.size x := by rw [hW]; exact v0.alloc _
  replace v1 : Var W (w.heap.size + 1) y := by rw [hW]; exact v1.alloc _
  replace v2 : Var W (w.heap.size + 1 + 1) 0 := by rw [hW]; exact v2.alloc _
  replace hb0 : Below w.heap.size w W := by rw [hW]; exact hb0.alloc hb0.size _
  clear hW
  have l0 := v0.lt
  have l1 := v1.lt
  have l3 := v3.lt
  have c0 := v0.c
  have c1 := v1.c
  have c3 := v3.c
  have V2 := Lib.hid v2
  clear v0 v1 v2 v3
  cases bx <;> cases by' <;> cases bs
  all_goals
    refine wp_region_up W.heap.size 16 [(true, 0), (true, 1), (true, 3), (false, 2), (false, 4), (true, 5), (true, 6), (true, 7), (true, 9), (false, 8), (false, 10), (true, 11), (true, 12), (false, 13), (true, 14), (true, 15)] (by kernel_rfl) (by kernel_rfl) (fun _ _ d _ _ h => by cases d <;> exact h) ?_
    have hb : Below W.heap.size W W.drew := (Below.refl _ _).drew
    iterate 3
      refine wpS_takeL rfl rfl ?_
      go_big_quiet_step (rfl)
      refine wpQuiet_nil ?_
    refine wpS_doL rfl ?_
    intro K hK
    go_wp2_with ((first | (go_at_call 88; refine (negative_any _ _).mono ?_; rintro e w2 ⟨rfl, hn⟩) | (go_at_call 144; refine (kept_any _ _ _).mono ?_; rintro e w2 ⟨rfl, hn⟩)))
    replace hb := hb.trans (hn.mono hb.size)
    refine hK.out _ _ (up_iff.2 hb) ?_
    clear hK K
    clear hn
    refine wpS_doL rfl ?_
    intro K hK
    go_wp2_with ((first | (go_at_call 88; refine (negative_any _ _).mono ?_; rintro e w2 ⟨rfl, hn⟩) | (go_at_call 144; refine (kept_any _ _ _).mono ?_; rintro e w2 ⟨rfl, hn⟩)))
    replace hb := hb.trans (hn.mono hb.size)
    refine hK.out _ _ (up_iff.2 hb) ?_
    clear hK K
    clear hn
    iterate 4
      refine wpS_takeL rfl rfl ?_
      go_big_quiet_step (rfl)
      refine wpQuiet_nil ?_
    refine wpS_doL rfl ?_
    intro K hK
    go_wp2_with ((first | (go_at_call 88; refine (negative_any _ _).mono ?_; rintro e w2 ⟨rfl, hn⟩) | (go_at_call 144; refine (kept_any _ _ _).mono ?_; rintro e w2 ⟨rfl, hn⟩)))
    try replace hb := hb.trans (hn.mono hb.size)
    refine hK.out _ _ (up_iff.2 hb) ?_
    clear hK K
    try clear hn
    refine wpS_doL rfl ?_
    intro K hK
    go_wp2_with ((first | (go_at_call 88; refine (negative_any _ _).mono ?_; rintro e w2 ⟨rfl, hn⟩) | (go_at_call 144; refine (kept_any _ _ _).mono ?_; rintro e w2 ⟨rfl, hn⟩)))
    try replace hb := hb.trans (hn.mono hb.size)
    refine hK.out _ _ (up_iff.2 hb) ?_
    clear hK K
    try clear hn
    iterate 2
      refine wpS_takeL rfl rfl ?_
      go_big_quiet_step (rfl)
      refine wpQuiet_nil ?_
    refine wpS_doL rfl ?_
    intro K hK
    go_wp2_with ((first | (go_at_call 88; refine (negative_any _ _).mono ?_; rintro e w2 ⟨rfl, hn⟩) | (go_at_call 144; refine (kept_any _ _ _).mono ?_; rintro e w2 ⟨rfl, hn⟩)))
    replace hb := hb.trans (hn.mono hb.size)
    refine hK.out _ _ (up_iff.2 hb) ?_
    clear hK K
    clear hn
    iterate 2
      refine wpS_takeL rfl rfl ?_
      go_big_quiet_step (rfl)
      refine wpQuiet_nil ?_
    refine wpS_nil ?_
    simp only [List.drop_succ_cons, List.drop_zero]
    have v2 : Var _ (w.heap.size + 1 + 1) 0 := V2.out.of hb
    have c2 := v2.c
    have f2 := v2.f
    clear V2 v2
    go_wp2
    simp [bodyPost, results, Try.results122, go_sem, c2, wd0_0, wd1_0, wd2_0, wd3_0]
    refine below_set4 (hb0.trans (hb.mono hb0.size)) ?_ _ _ _ _
    omega
end Go.Proofs.Ytlcbomjdbdgbmaa
/- The walks of package wide: equality of two numbers, size, signed, Neg, Sub, Sign. Conditions: none. -/
namespace Go.Proofs.Ytlcbomjdbdgbmaa
open Go.RowKit

@[go_sem] theorem run_eqI (a0 a1 a2 a3 b0 b1 b2 b3 : Int) (w : World) :
    (Op.equalIn 10000 35 (.agg #[.int .u64 a0, .int .u64 a1, .int .u64 a2, .int .u64 a3]) (.agg #[.int .u64 b0, .int .u64 b1, .int .u64 b2, .int .u64 b3])).run Try.prog w = .ok (eq4 a0 a1 a2 a3 b0 b1 b2 b3) w := by
  have hu : Try.prog.underlying 35 = some (.array 4 33) := by kernel_rfl
  have hs : ∀ w, (sizeOf 33).run Try.prog w = .ok 1 w := fun w => by kernel_rfl
  have he : ∀ (a b : Int) w, (Op.equalIn 9999 33 (.int .u64 a) (.int .u64 b)).run Try.prog w = .ok (a == b) w := fun a b w => run_equalIn_int w 9998 _ .u64 .u64 a b (by kernel_rfl)
  have hp : ∀ (c : Array Value) (i : Nat) (v : Value) w, c[i]? = some v → (part 33 c i).run Try.prog w = .ok v w := by
    intro c i v w h
    have ha : (isAgg 33).run Try.prog w = .ok false w := by kernel_rfl
    unfold part
    simp [Sem.run_bind, ha, h]
  show (Op.equalIn (9999 + 1) _ _ _).run _ _ = _
  unfold Op.equalIn
  simp only [Sem.run_bind, run_underlying hu, Result.andThen_ok, hs]
  simp [List.range', he, hp, Sem.run_bind]
  unfold eq4
  by_cases h0 : a0 = b0 <;> by_cases h1 : a1 = b1 <;> by_cases h2 : a2 = b2 <;> by_cases h3 : a3 = b3 <;> simp [h0, h1, h2, h3]


set_option maxRecDepth 100000 in
theorem Sign_go (x : Int) (w : World) (b z : Bool) (hx : ng x = b) (hz : eq4 (wd0 x) (wd1 x) (wd2 x) (wd3 x) 0 0 0 0 = z) :
    Calls Try.prog 22 #[wI x] w fun e w' => e = .returned (.int .i64 (bif b then -1 else bif z then 0 else 1)) ∧ Below w.heap.size w w' := by
  go_enter Try.func22, Try.ntmps22
  go_wp2_with fail
  refine calls_w ?_
  intro W0 hW0
  have v0 : Var W0 w.heap.size x := by rw [hW0]; exact Blk.new _ _ _
  have hb0 : Below w.heap.size w W0 := by rw [hW0]; exact ((Below.refl _ _).alloc (Nat.le_refl _) _)
  clear hW0
  refine (negative_is x _ hx _).mono ?_
  rintro e w1 ⟨rfl, hb1⟩
  replace hb0 := hb0.trans (hb1.mono hb0.size)
  have c0 := Var.c (v0.of hb1)
  clear v0 hb1 hx
  cases b <;> cases z
  all_goals
    go_wp2
    go_ret
    exact ⟨rfl, hb0⟩

theorem Sign_any (x : Int) (w : World) (h : InI x) :
    Calls Try.prog 22 #[wI x] w fun e w' => e = .returned (.int .i64 x.sign) ∧ Below w.heap.size w w' := by
  refine (Sign_go x w _ _ rfl rfl).mono fun e w' ⟨he, hw⟩ => ⟨?_, hw⟩
  rw [he, ng_in h, eq4_0]
  congr 2
  obtain ⟨h1, h2⟩ := h
  rcases Int.lt_trichotomy x 0 with hx | hx | hx
  · simp [hx, Int.sign_eq_neg_one_of_neg hx]
  · subst hx; rfl
  · have e1 : ¬ x < 0 := by omega
    have e2 : ¬ x % b256 = 0 := by unfold b255 b256 at *; omega
    simp [e1, e2, Int.sign_eq_one_of_pos hx]

set_option maxRecDepth 100000 in
set_option maxHeartbeats 1000000 in
theorem size_go (x : Int) (w : World) (b : Bool) (hx : ng x = b) :
    Calls Try.prog 136 #[wI x] w fun e w' => e = .returned (wI (bif b then -x else x)) ∧ Below w.heap.size w w' := by
  go_enter Try.func136, Try.ntmps136
  go_wp2_with fail
  refine calls_w ?_
  intro W0 hW0
  have v0 : Var W0 w.heap.size x := by rw [hW0]; exact (Blk.new _ _ _).alloc _
  have v1 : Var W0 (w.heap.size + 1) 0 := by rw [hW0]; exact Blk.new1 _ _ _ _
  have hb0 : Below w.heap.size w W0 := by rw [hW0]; exact ((Below.refl _ _).alloc (Nat.le_refl _) _).alloc (by simp) _
  clear hW0
  cases b
  · refine (negative_is x _ hx _).mono ?_
    rintro e w1 ⟨rfl, hb1⟩
    replace hb0 := hb0.trans (hb1.mono hb0.size)
    have c0 := Var.c (v0.of hb1)
    have c1 := Var.c (v1.of hb1)
    have f1 := Var.f (v1.of hb1)
    clear v0 v1 hb1 hx
    go_wp2
    simp [bodyPost, results, Try.results136, go_sem, c1]
    refine below_set4 hb0 ?_ _ _ _ _
    omega
  · refine (negative_is x _ hx _).mono ?_
    rintro e w1 ⟨rfl, hb1⟩
    replace hb0 := hb0.trans (hb1.mono hb0.size)
    replace v1 : Var _ _ _ := v1.of hb1
    have c0 := Var.c (v0.of hb1)
    clear v0 hb1 hx
    have V1 := Lib.hid v1
    clear v1
    go_wp2_with fail
    refine (turned_any x _).mono ?_
    rintro e w2 ⟨rfl, hn⟩
    go_wp2_with fail
    refine (plus_any 0 (-1 - x) 1 _ (by decide) (by decide)).mono ?_
    rintro e w3 ⟨rfl, hn2⟩
    replace hn := hn.trans (hn2.mono hn.size)
    have c1 := Var.c (V1.out.of hn)
    have f1 := Var.f (V1.out.of hn)
    clear V1 hn2 c0
    have e0 : 0 + (-1 - x) + 1 = -x := by omega
    rw [e0]
    clear e0
    go_wp2
    simp [bodyPost, results, Try.results136, go_sem, c1]
    refine below_set4 (hb0.trans (hn.mono hb0.size)) ?_ _ _ _ _
    omega
theorem size_any (x : Int) (w : World) : Calls Try.prog 136 #[wI x] w fun e w' => e = .returned (wI (sz x)) ∧ Below w.heap.size w w' := size_go x w _ rfl

/-- what signed says: is there a number of this size, below 0 or not? -/
def sgB (s : Int) (b : Bool) : Bool := bif b then ng (-s) || eq4 (wd0 (-s)) (wd1 (-s)) (wd2 (-s)) (wd3 (-s)) 0 0 0 0 else !ng s
def sgV (s : Int) (b : Bool) : Int := bif b then -s else s

set_option maxRecDepth 100000 in
set_option maxHeartbeats 1000000 in
theorem signed_pos (s : Int) (w : World) (k : Bool) (hk : ng s = k) :
    Calls Try.prog 139 #[wI s, .bool false] w fun e w' => e = .returned (.tuple #[wI (bif !k then s else 0), .bool (!k)]) ∧ Below w.heap.size w w' := by
  go_enter Try.func139, Try.ntmps139
  go_wp2_with fail
  refine name_world ?_
  intro W hW
  have v0 : Var W w.heap.size s := by rw [hW]; exact (Blk.new _ _ _).alloc _
  have v1 : Var W (w.heap.size + 1) 0 := by rw [hW]; exact Blk.new1 _ _ _ _
  have hb0 : Below w.heap.size w W := by rw [hW]; exact ((Below.refl _ _).alloc (Nat.le_refl _) _).alloc (by simp) _
  clear hW
  have l0 := v0.lt
  have c0 := v0.c
  have V1 := Lib.hid v1
  clear v0 v1
  cases k
  all_goals
    refine wp_region_up W.heap.size 7 [(true, 0), (true, 1), (false, 2), (true, 3), (false, 4), (true, 5), (true, 6)] (by kernel_rfl) (by kernel_rfl) (fun _ _ d _ _ h => by cases d <;> exact h) ?_
    have hb : Below W.heap.size W W.drew := (Below.refl _ _).drew
    iterate 2
      refine wpS_takeL rfl rfl ?_
      go_big_quiet_step (rfl)
      refine wpQuiet_nil ?_
    refine wpS_doL rfl ?_
    intro K hK
    go_wp2_with ((first | (go_at_call 88; refine (negative_any _ _).mono ?_; rintro e w2 ⟨rfl, hn⟩) | (go_at_call 144; refine (kept_any _ _ _).mono ?_; rintro e w2 ⟨rfl, hn⟩)))
    replace hb := hb.trans (hn.mono hb.size)
    refine hK.out _ _ (up_iff.2 hb) ?_
    clear hK K
    clear hn
    refine wpS_takeL rfl rfl ?_
    go_big_quiet_step (rfl)
    refine wpQuiet_nil ?_
    refine wpS_doL rfl ?_
    intro K hK
    go_wp2_with ((first | (go_at_call 88; refine (negative_any _ _).mono ?_; rintro e w2 ⟨rfl, hn⟩) | (go_at_call 144; refine (kept_any _ _ _).mono ?_; rintro e w2 ⟨rfl, hn⟩)))
    replace hb := hb.trans (hn.mono hb.size)
    refine hK.out _ _ (up_iff.2 hb) ?_
    clear hK K
    clear hn
    iterate 2
      refine wpS_takeL rfl rfl ?_
      go_big_quiet_step (rfl)
      refine wpQuiet_nil ?_
    refine wpS_nil ?_
    simp only [List.drop_succ_cons, List.drop_zero]
    have v1 : Var _ _ _ := V1.out.of hb
    have c1 := v1.c
    have f1 := v1.f
    clear V1 v1
    go_wp2
    simp [bodyPost, results, Try.results139, go_sem, c1, wd0_0, wd1_0, wd2_0, wd3_0]
    refine below_set4 (hb0.trans (hb.mono hb0.size)) ?_ _ _ _ _
    omega

set_option maxRecDepth 100000 in
set_option maxHeartbeats 1000000 in
theorem signed_neg (s : Int) (w : World) (k z : Bool) (hk : ng (-s) = k) (hz : eq4 (wd0 (-s)) (wd1 (-s)) (wd2 (-s)) (wd3 (-s)) 0 0 0 0 = z) :
    Calls Try.prog 139 #[wI s, .bool true] w fun e w' => e = .returned (.tuple #[wI (bif k || z then -s else 0), .bool (k || z)]) ∧ Below w.heap.size w w' := by
  go_enter Try.func139, Try.ntmps139
  go_wp2_with fail
  refine calls_w ?_
  intro W0 hW0
  have v0 : Var W0 w.heap.size s := by rw [hW0]; exact (Blk.new _ _ _).alloc _
  have v1 : Var W0 (w.heap.size + 1) 0 := by rw [hW0]; exact Blk.new1 _ _ _ _
  have hb0 : Below w.heap.size w W0 := by rw [hW0]; exact ((Below.refl _ _).alloc (Nat.le_refl _) _).alloc (by simp) _
  clear hW0 v0
  refine (turned_any s _).mono ?_
  rintro e w2 ⟨rfl, hn⟩
  go_wp2_with fail
  refine (plus_any 0 (-1 - s) 1 _ (by decide) (by decide)).mono ?_
  rintro e w3 ⟨rfl, hn2⟩
  replace hn := hn.trans (hn2.mono hn.size)
  replace v1 := v1.of hn
  replace hb0 := hb0.trans (hn.mono hb0.size)
  clear hn2 hn
  have e0 : 0 + (-1 - s) + 1 = -s := by omega
  rw [e0]
  clear e0
  go_wp2_with fail
  refine name_world ?_
  intro W hW
  have v2 : Var W w3.heap.size (-s) := by rw [hW]; exact Blk.new _ _ _
  replace v1 : Var W (w.heap.size + 1) 0 := by rw [hW]; exact v1.alloc _
  replace hb0 : Below w.heap.size w W := by rw [hW]; exact hb0.alloc hb0.size _
  clear hW
  have l2 := v2.lt
  have c2 := v2.c
  have V1 := Lib.hid v1
  clear v1 v2
  cases k <;> cases z
  all_goals
    refine wp_region_up W.heap.size 11 [(true, 0), (true, 1), (false, 2), (true, 3), (true, 4), (true, 5), (true, 6), (true, 7), (false, 8), (true, 9), (true, 10)] (by kernel_rfl) (by kernel_rfl) (fun _ _ d _ _ h => by cases d <;> exact h) ?_
    have hb : Below W.heap.size W W.drew := (Below.refl _ _).drew
    iterate 2
      refine wpS_takeL rfl rfl ?_
      go_big_quiet_step (rfl)
      refine wpQuiet_nil ?_
    refine wpS_doL rfl ?_
    intro K hK
    go_wp2_with ((first | (go_at_call 88; refine (negative_any _ _).mono ?_; rintro e w2 ⟨rfl, hn⟩) | (go_at_call 144; refine (kept_any _ _ _).mono ?_; rintro e w2 ⟨rfl, hn⟩)))
    replace hb := hb.trans (hn.mono hb.size)
    refine hK.out _ _ (up_iff.2 hb) ?_
    clear hK K
    clear hn
    iterate 5
      refine wpS_takeL rfl rfl ?_
      go_big_quiet_step (rfl)
      refine wpQuiet_nil ?_
    refine wpS_doL rfl ?_
    intro K hK
    go_wp2_with ((first | (go_at_call 88; refine (negative_any _ _).mono ?_; rintro e w2 ⟨rfl, hn⟩) | (go_at_call 144; refine (kept_any _ _ _).mono ?_; rintro e w2 ⟨rfl, hn⟩)))
    replace hb := hb.trans (hn.mono hb.size)
    refine hK.out _ _ (up_iff.2 hb) ?_
    clear hK K
    clear hn
    iterate 2
      refine wpS_takeL rfl rfl ?_
      go_big_quiet_step (rfl)
      refine wpQuiet_nil ?_
    refine wpS_nil ?_
    simp only [List.drop_succ_cons, List.drop_zero]
    have v1 : Var _ _ _ := V1.out.of hb
    have c1 := v1.c
    have f1 := v1.f
    clear V1 v1
    go_wp2
    simp [bodyPost, results, Try.results139, go_sem, c1, wd0_0, wd1_0, wd2_0, wd3_0]
    refine below_set4 (hb0.trans (hb.mono hb0.size)) ?_ _ _ _ _
    omega

theorem signed_any (s : Int) (b : Bool) (w : World) :
    Calls Try.prog 139 #[wI s, .bool b] w fun e w' => e = .returned (.tuple #[wI (bif sgB s b then sgV s b else 0), .bool (sgB s b)]) ∧ Below w.heap.size w w' := by
  cases b
  · exact signed_pos s w _ rfl
  · exact signed_neg s w _ _ rfl rfl
end Go.Proofs.Ytlcbomjdbdgbmaa
/- The walks of package wide: Sub, Neg, Of, below. Conditions: none. -/
namespace Go.Proofs.Ytlcbomjdbdgbmaa
open Go.RowKit


/-- what Sub says: does the difference fit? -/
def subB (x y : Int) : Bool := (ng x == ng y) || (ng (x - y) == ng x)

set_option maxRecDepth 100000 in
set_option maxHeartbeats 2000000 in
theorem Sub_go (x y : Int) (w : World) (bx by' bs : Bool) (hx : ng x = bx) (hy : ng y = by') (hs : ng (x - y) = bs) :
    Calls Try.prog 123 #[wI x, wI y] w fun e w' => e = .returned (.tuple #[wI (bif subB x y then x - y else 0), .bool (subB x y)]) ∧ Below w.heap.size w w' := by
  have hfin : subB x y = ((bx == by') || (bs == bx)) := by simp [subB, hx, hy, hs]
  rw [hfin]
  clear hfin
  go_enter Try.func123, Try.ntmps123
  go_wp2_with fail
  refine name_world ?_
  intro W hW
  have v0 : Var W w.heap.size x := by rw [hW]; exact ((Blk.new _ _ _).alloc _).alloc _
  have v1 : Var W (w.heap.size + 1) y := by rw [hW]; exact ((Blk.new1 _ _ _ _).alloc _)
  have v2 : Var W (w.heap.size + 1 + 1) 0 := by rw [hW]; exact Blk.new2 _ _ _ _ _
  have hb0 : Below w.heap.size w W := by rw [hW]; exact (((Below.refl _ _).alloc (Nat.le_refl _) _).alloc (by simp) _).alloc (by simp; omega) _
  clear hW
  have l0 := v0.lt
  have l1 := v1.lt
  have c0 := v0.c
  have c1 := v1.c
  have V0 := Lib.hid v0
  have V1 := Lib.hid v1
  have V2 := Lib.hid v2
  clear v0 v1 v2
  refine wp_region_float1 5 4 [(true, 0), (true, 1), (false, 2), (false, 3)] (by kernel_rfl) (by kernel_rfl) (fun _ _ d _ _ => by cases d <;> exact Iff.rfl) rfl rfl rfl allocI ?_
  have hb : Below W.heap.size W W.drew := (Below.refl _ _).drew
  iterate 2
    refine wpF_take rfl rfl ?_
    go_big_quiet_step (rfl)
    refine wpQuiet_nil ?_
  refine wpF_do rfl ?_
  intro w1 hg K hK
  replace hb := hb.trans (hg.mono hb.size)
  clear hg
  go_wp2_with ((first | (go_at_call 138; refine (turned_any _ _).mono ?_; rintro e w2 ⟨rfl, hn⟩) | (go_at_call 137; refine (plus_any _ _ 1 _ (by decide) (by decide)).mono ?_; rintro e w2 ⟨rfl, hn⟩)))
  refine hK.out _ _ hn ?_
  replace hb := hb.trans (hn.mono hb.size)
  clear hK K
  clear hn
  refine wpF_do rfl ?_
  intro w1 hg K hK
  replace hb := hb.trans (hg.mono hb.size)
  clear hg
  go_wp2_with ((first | (go_at_call 138; refine (turned_any _ _).mono ?_; rintro e w2 ⟨rfl, hn⟩) | (go_at_call 137; refine (plus_any _ _ 1 _ (by decide) (by decide)).mono ?_; rintro e w2 ⟨rfl, hn⟩)))
  refine hK.out _ _ hn ?_
  replace hb := hb.trans (hn.mono hb.size)
  clear hK K
  clear hn
  refine wpF_nil ?_
  clear hb
  intro w1 hg hb b1 lb1 nb1
  clear hg
  simp only [Act.put, ptrTo, List.setIfInBounds_toArray, List.set_cons_succ, List.set_cons_zero]
  simp only [List.drop_succ_cons, List.drop_zero]
  have e0 : x + (-1 - y) + 1 = x - y := by omega
  rw [e0]
  clear e0
  have n3 : b1 < w1.heap.size := Blk.lt nb1
  have d0 : b1 ≠ w.heap.size := by omega
  have d1 : b1 ≠ w.heap.size + 1 := by omega
  have d2 : b1 ≠ w.heap.size + 1 + 1 := by have := Blk.lt V2.out; omega
  have v3 : Var w1 b1 0 := nb1
  have v0 : Var w1 w.heap.size x := V0.out.of hb
  have v1 : Var w1 (w.heap.size + 1) y := V1.out.of hb
  have v2 : Var w1 (w.heap.size + 1 + 1) 0 := V2.out.of hb
  replace hb0 := hb0.trans (hb.mono hb0.size)
  have lb := Nat.le_trans (Nat.le_of_lt l0) lb1
  have c3 := v3.c
  have f3 := v3.f
  have V3 := Lib.hid v3
  clear V0 V1 V2 nb1 hb c0 c1 l0 l1 v3
  go_wp2_with fail
  refine name_world ?_
  intro W' hW
  replace v3 : Var W' b1 (x - y) := by rw [hW]; exact Var.put4 V3.out _
  replace v0 : Var W' w.heap.size x := by rw [hW]; exact v0.set4 d0.symm _ _ _ _
  replace v1 : Var W' (w.heap.size + 1) y := by rw [hW]; exact v1.set4 d1.symm _ _ _ _
  replace v2 : Var W' (w.heap.size + 1 + 1) 0 := by rw [hW]; exact v2.set4 d2.symm _ _ _ _
  replace hb0 : Below w.heap.size w W' := by rw [hW]; exact below_set4 hb0 lb _ _ _ _
  clear hW c3 f3 V3 d0 d1 d2 lb1 lb n3
  have l0 := v0.lt
  have l1 := v1.lt
  have l3 := v3.lt
  have c0 := v0.c
  have c1 := v1.c
  have c3 := v3.c
  have V2 := Lib.hid v2
  clear v0 v1 v2 v3
  cases bx <;> cases by' <;> cases bs
  all_goals
    refine wp_region_up W'.heap.size 16 [(true, 0), (true, 1), (true, 3), (false, 2), (false, 4), (true, 5), (true, 6), (true, 7), (true, 9), (false, 8), (false, 10), (true, 11), (true, 12), (false, 13), (true, 14), (true, 15)] (by kernel_rfl) (by kernel_rfl) (fun _ _ d _ _ h => by cases d <;> exact h) ?_
    have hb : Below W'.heap.size W' W'.drew := (Below.refl _ _).drew
    iterate 3
      refine wpS_takeL rfl rfl ?_
      go_big_quiet_step (rfl)
      refine wpQuiet_nil ?_
    refine wpS_doL rfl ?_
    intro K hK
    go_wp2_with ((first | (go_at_call 88; refine (negative_any _ _).mono ?_; rintro e w2 ⟨rfl, hn⟩) | (go_at_call 144; refine (kept_any _ _ _).mono ?_; rintro e w2 ⟨rfl, hn⟩)))
    replace hb := hb.trans (hn.mono hb.size)
    refine hK.out _ _ (up_iff.2 hb) ?_
    clear hK K
    clear hn
    refine wpS_doL rfl ?_
    intro K hK
    go_wp2_with ((first | (go_at_call 88; refine (negative_any _ _).mono ?_; rintro e w2 ⟨rfl, hn⟩) | (go_at_call 144; refine (kept_any _ _ _).mono ?_; rintro e w2 ⟨rfl, hn⟩)))
    replace hb := hb.trans (hn.mono hb.size)
    refine hK.out _ _ (up_iff.2 hb) ?_
    clear hK K
    clear hn
    iterate 4
      refine wpS_takeL rfl rfl ?_
      go_big_quiet_step (rfl)
      refine wpQuiet_nil ?_
    refine wpS_doL rfl ?_
    intro K hK
    go_wp2_with ((first | (go_at_call 88; refine (negative_any _ _).mono ?_; rintro e w2 ⟨rfl, hn⟩) | (go_at_call 144; refine (kept_any _ _ _).mono ?_; rintro e w2 ⟨rfl, hn⟩)))
    try replace hb := hb.trans (hn.mono hb.size)
    refine hK.out _ _ (up_iff.2 hb) ?_
    clear hK K
    try clear hn
    refine wpS_doL rfl ?_
    intro K hK
    go_wp2_with ((first | (go_at_call 88; refine (negative_any _ _).mono ?_; rintro e w2 ⟨rfl, hn⟩) | (go_at_call 144; refine (kept_any _ _ _).mono ?_; rintro e w2 ⟨rfl, hn⟩)))
    try replace hb := hb.trans (hn.mono hb.size)
    refine hK.out _ _ (up_iff.2 hb) ?_
    clear hK K
    try clear hn
    iterate 2
      refine wpS_takeL rfl rfl ?_
      go_big_quiet_step (rfl)
      refine wpQuiet_nil ?_
    refine wpS_doL rfl ?_
    intro K hK
    go_wp2_with ((first | (go_at_call 88; refine (negative_any _ _).mono ?_; rintro e w2 ⟨rfl, hn⟩) | (go_at_call 144; refine (kept_any _ _ _).mono ?_; rintro e w2 ⟨rfl, hn⟩)))
    replace hb := hb.trans (hn.mono hb.size)
    refine hK.out _ _ (up_iff.2 hb) ?_
    clear hK K
    clear hn
    iterate 2
      refine wpS_takeL rfl rfl ?_
      go_big_quiet_step (rfl)
      refine wpQuiet_nil ?_
    refine wpS_nil ?_
    simp only [List.drop_succ_cons, List.drop_zero]
    have v2 : Var _ (w.heap.size + 1 + 1) 0 := V2.out.of hb
    have c2 := v2.c
    have f2 := v2.f
    clear V2 v2
    go_wp2
    simp [bodyPost, results, Try.results123, go_sem, c2, wd0_0, wd1_0, wd2_0, wd3_0]
    refine below_set4 (hb0.trans (hb.mono hb0.size)) ?_ _ _ _ _
    omega
end Go.Proofs.Ytlcbomjdbdgbmaa
/- The walks of package wide: Neg, Of, below. Conditions: none. -/
namespace Go.Proofs.Ytlcbomjdbdgbmaa
open Go.RowKit

theorem Sub_any (x y : Int) (w : World) : Calls Try.prog 123 #[wI x, wI y] w fun e w' => e = .returned (.tuple #[wI (bif subB x y then x - y else 0), .bool (subB x y)]) ∧ Below w.heap.size w w' := Sub_go x y w _ _ _ rfl rfl rfl
theorem Add_any (x y : Int) (w : World) : Calls Try.prog 122 #[wI x, wI y] w fun e w' => e = .returned (.tuple #[wI (bif addB x y then x + y else 0), .bool (addB x y)]) ∧ Below w.heap.size w w' := Add_go x y w _ _ _ rfl rfl rfl

set_option maxRecDepth 100000 in
set_option maxHeartbeats 1000000 in
theorem Of_any (n : Int) (w : World) (h : In64 n) :
    Calls Try.prog 62 #[.int .i64 n] w fun e w' => e = .returned (wI n) ∧ Below w.heap.size w w' := by
  obtain ⟨h1, h2⟩ := h
  by_cases h0 : 0 ≤ n
  · obtain ⟨e0, e1, e2, e3⟩ := wd_of_nat h0 h2
    have e : wI n = .agg #[.int .u64 n, .int .u64 0, .int .u64 0, .int .u64 0] := by unfold wI wC; rw [e0, e1, e2, e3]
    rw [e]
    clear e e0 e1 e2 e3
    go_enter Try.func62, Try.ntmps62
    go_wp2
    simp [bodyPost, results, Try.results62, go_sem]
    exact ((Below.refl _ _).alloc (Nat.le_refl _) _).alloc (by simp) _
  · have hlt : n < 0 := by omega
    obtain ⟨e0, e1, e2, e3⟩ := wd_of_neg hlt h1
    have e : wI n = .agg #[.int .u64 (n % 18446744073709551616), .int .u64 18446744073709551615, .int .u64 18446744073709551615, .int .u64 18446744073709551615] := by unfold wI wC; rw [e0, e1, e2, e3]
    rw [e]
    clear e e0 e1 e2 e3
    go_enter Try.func62, Try.ntmps62
    go_wp2
    refine wp_loop_rounds 4 ?_
    iterate 4
      rw [rounds_succ]
      go_wp2
    simp [bodyPost, results, Try.results62, go_sem]
    exact ⟨by rw [IntKind.wrap_u64], ((Below.refl _ _).alloc (Nat.le_refl _) _).alloc (by simp) _⟩

set_option maxRecDepth 100000 in
set_option maxHeartbeats 1000000 in
theorem below_raw (a0 a1 a2 a3 b0 b1 b2 b3 : Int) (w : World) :
    Calls Try.prog 134 #[.agg #[.int .u64 a0, .int .u64 a1, .int .u64 a2, .int .u64 a3], .agg #[.int .u64 b0, .int .u64 b1, .int .u64 b2, .int .u64 b3]] w fun e w' =>
      e = .returned (.bool (lt4 a0 a1 a2 a3 b0 b1 b2 b3)) ∧ Below w.heap.size w w' := by
  have hfin : ∀ t, t = lt4 a0 a1 a2 a3 b0 b1 b2 b3 → Ending.returned (.bool t) = Ending.returned (.bool (lt4 a0 a1 a2 a3 b0 b1 b2 b3)) := fun t h => by rw [h]
  have HF := Lib.hid hfin
  clear hfin
  unfold lt4 at HF
  by_cases e3 : a3 = b3
  · subst e3
    by_cases e2 : a2 = b2
    · subst e2
      by_cases e1 : a1 = b1
      · subst e1
        by_cases e0 : a0 = b0
        · subst e0
          go_enter Try.func134, Try.ntmps134
          go_wp2
          refine wp_loop_rounds 5 ?_
          rw [rounds_succ]
          go_wp2
          go_quiet (fail)
          go_wp2
          rw [rounds_succ]
          go_wp2
          go_quiet (fail)
          go_wp2
          rw [rounds_succ]
          go_wp2
          go_quiet (fail)
          go_wp2
          rw [rounds_succ]
          go_wp2
          go_quiet (fail)
          go_wp2
          rw [rounds_succ]
          go_wp2
          go_ret
          refine ⟨HF.out _ (by simp), ?_⟩
          (repeat (first | exact Below.refl _ _ | refine below_drewN ?_ _ | refine Below.drew ?_ | refine Below.alloc ?_ (by simp) _ | refine Below.alloc ?_ (by simp; omega) _))
        · have d : (a0 != b0) = true := by simpa using e0
          clear e0
          go_enter Try.func134, Try.ntmps134
          go_wp2
          refine wp_loop_rounds 5 ?_
          rw [rounds_succ]
          go_wp2
          go_quiet (fail)
          go_wp2
          rw [rounds_succ]
          go_wp2
          go_quiet (fail)
          go_wp2
          rw [rounds_succ]
          go_wp2
          go_quiet (fail)
          go_wp2
          rw [rounds_succ]
          go_wp2
          go_quiet (fail)
          go_wp2
          go_quiet (fail)
          go_wp2
          go_ret
          refine ⟨HF.out _ (by simp [d]), ?_⟩
          (repeat (first | exact Below.refl _ _ | refine below_drewN ?_ _ | refine Below.drew ?_ | refine Below.alloc ?_ (by simp) _ | refine Below.alloc ?_ (by simp; omega) _))
      · have d : (a1 != b1) = true := by simpa using e1
        clear e1
        go_enter Try.func134, Try.ntmps134
        go_wp2
        refine wp_loop_rounds 5 ?_
        rw [rounds_succ]
        go_wp2
        go_quiet (fail)
        go_wp2
        rw [rounds_succ]
        go_wp2
        go_quiet (fail)
        go_wp2
        rw [rounds_succ]
        go_wp2
        go_quiet (fail)
        go_wp2
        go_quiet (fail)
        go_wp2
        go_ret
        refine ⟨HF.out _ (by simp [d]), ?_⟩
        (repeat (first | exact Below.refl _ _ | refine below_drewN ?_ _ | refine Below.drew ?_ | refine Below.alloc ?_ (by simp) _ | refine Below.alloc ?_ (by simp; omega) _))
    · have d : (a2 != b2) = true := by simpa using e2
      clear e2
      go_enter Try.func134, Try.ntmps134
      go_wp2
      refine wp_loop_rounds 5 ?_
      rw [rounds_succ]
      go_wp2
      go_quiet (fail)
      go_wp2
      rw [rounds_succ]
      go_wp2
      go_quiet (fail)
      go_wp2
      go_quiet (fail)
      go_wp2
      go_ret
      refine ⟨HF.out _ (by simp [d]), ?_⟩
      (repeat (first | exact Below.refl _ _ | refine below_drewN ?_ _ | refine Below.drew ?_ | refine Below.alloc ?_ (by simp) _ | refine Below.alloc ?_ (by simp; omega) _))
  · have d : (a3 != b3) = true := by simpa using e3
    clear e3
    go_enter Try.func134, Try.ntmps134
    go_wp2
    refine wp_loop_rounds 5 ?_
    rw [rounds_succ]
    go_wp2
    go_quiet (fail)
    go_wp2
    go_quiet (fail)
    go_wp2
    go_ret
    refine ⟨HF.out _ (by simp [d]), ?_⟩
    (repeat (first | exact Below.refl _ _ | refine below_drewN ?_ _ | refine Below.drew ?_ | refine Below.alloc ?_ (by simp) _ | refine Below.alloc ?_ (by simp; omega) _))

theorem below_any (x y : Int) (w : World) : Calls Try.prog 134 #[wI x, wI y] w fun e w' => e = .returned (.bool (ltU x y)) ∧ Below w.heap.size w w' := by
  rw [← lt4_wd]; exact below_raw _ _ _ _ _ _ _ _ w


set_option maxRecDepth 100000 in
theorem Compare_any (x y : Int) (w : World) :
    Calls Try.prog 121 #[.int .i64 x, .int .i64 y] w fun e w' => e = .returned (.int .i64 (cmpI x y)) ∧ Below w.heap.size w w' := by
  rcases Int.lt_trichotomy x y with h | h | h
  · rw [cmpI_lt h]
    go_enter Try.func121, Try.ntmps121
    go_wp2
    go_ret
    exact ⟨rfl, Below.refl _ _⟩
  · subst h
    rw [cmpI_eq]
    go_enter Try.func121, Try.ntmps121
    go_wp2
    go_ret
    exact ⟨rfl, Below.refl _ _⟩
  · rw [cmpI_gt h]
    go_enter Try.func121, Try.ntmps121
    go_wp2
    go_ret
    exact ⟨rfl, Below.refl _ _⟩

set_option maxRecDepth 100000 in
set_option maxHeartbeats 1000000 in
theorem Cmp_go (x y : Int) (w : World) (ix : InI x) (iy : InI y) (bx by' e l : Bool) (hx : ng x = bx) (hy : ng y = by') (he : eq4 (wd0 x) (wd1 x) (wd2 x) (wd3 x) (wd0 y) (wd1 y) (wd2 y) (wd3 y) = e) (hl : ltU x y = l) :
    Calls Try.prog 107 #[wI x, wI y] w fun e' w' => e' = .returned (.int .i64 (bif bx != by' then cmpI x.sign y.sign else bif e then 0 else bif l then -1 else 1)) ∧ Below w.heap.size w w' := by
  have X := Lib.hid ix
  have Y := Lib.hid iy
  clear ix iy
  go_enter Try.func107, Try.ntmps107
  go_wp2_with fail
  refine name_world ?_
  intro W hW
  have v0 : Var W w.heap.size x := by rw [hW]; exact (Blk.new _ _ _).alloc _
  have v1 : Var W (w.heap.size + 1) y := by rw [hW]; exact Blk.new1 _ _ _ _
  have hb0 : Below w.heap.size w W := by rw [hW]; exact ((Below.refl _ _).alloc (Nat.le_refl _) _).alloc (by simp) _
  clear hW
  have l0 := v0.lt
  have l1 := v1.lt
  have c0 := v0.c
  have c1 := v1.c
  have V0 := Lib.hid v0
  have V1 := Lib.hid v1
  clear v0 v1
  cases bx <;> cases by'
  case' false.true | true.false =>
    refine wp_region_up W.heap.size 3 [(true, 0), (true, 2), (false, 1)] (by kernel_rfl) (by kernel_rfl) (fun _ _ d _ _ h => by cases d <;> exact h) ?_
    have hb : Below W.heap.size W W.drew := (Below.refl _ _).drew
    iterate 2
      refine wpS_takeL rfl rfl ?_
      go_big_quiet_step (rfl)
      refine wpQuiet_nil ?_
    refine wpS_doL rfl ?_
    intro K hK
    go_wp2_with ((go_at_call 88; refine (negative_any _ _).mono ?_; rintro e w2 ⟨rfl, hn⟩))
    replace hb := hb.trans (hn.mono hb.size)
    refine hK.out _ _ (up_iff.2 hb) ?_
    clear hK K
    clear hn
    refine wpS_nil ?_
    simp only [List.drop_succ_cons, List.drop_zero]
    go_wp2_with (first | (go_at_call 88; refine (negative_any _ _).mono ?_; rintro e w2 ⟨rfl, hn⟩))
    replace hb := hb.trans (hn.mono hb.size)
    clear hn
    have v0 : Var _ _ _ := V0.out.of hb
    have v1 : Var _ _ _ := V1.out.of hb
    replace hb0 := hb0.trans (hb.mono hb0.size)
    clear V0 V1 hb l0 l1 c0 c1
    refine name_world ?_
    intro W hW
    rw [← hW] at v0 v1 hb0
    clear hW
    have l0 := v0.lt
    have l1 := v1.lt
    have c0 := v0.c
    have c1 := v1.c
    clear v0 v1
    have hX := X.out
    have hY := Y.out
    clear X Y
    have HX := Lib.hid hX
    have HY := Lib.hid hY
    clear hX hY
    refine wp_region_up W.heap.size 3 [(true, 0), (true, 2), (false, 1)] (by kernel_rfl) (by kernel_rfl) (fun _ _ d _ _ h => by cases d <;> exact h) ?_
    have hb : Below W.heap.size W W.drew := (Below.refl _ _).drew
    iterate 2
      refine wpS_takeL rfl rfl ?_
      go_big_quiet_step (rfl)
      refine wpQuiet_nil ?_
    refine wpS_doL rfl ?_
    intro K hK
    go_wp2_with ((go_at_call 22; refine (Sign_any x _ HX.out).mono ?_; rintro e' w2 ⟨rfl, hn⟩))
    replace hb := hb.trans (hn.mono hb.size)
    refine hK.out _ _ (up_iff.2 hb) ?_
    clear hK K
    clear hn
    refine wpS_nil ?_
    simp only [List.drop_succ_cons, List.drop_zero]
    go_wp2_with (go_at_call 22; refine (Sign_any y _ HY.out).mono ?_; rintro e' w2 ⟨rfl, hn⟩)
    have hb5 := hb.trans (hn.mono hb.size)
    clear hn
    go_wp2_with (go_at_call 121; refine (Compare_any _ _ _).mono ?_; rintro e' w2 ⟨rfl, hn⟩)
    replace hb5 := hb5.trans (hn.mono hb5.size)
    go_wp2
    go_ret
    exact ⟨rfl, hb0.trans (hb5.mono hb0.size)⟩
  all_goals
    cases e <;> cases l
    all_goals
      refine wp_region_up W.heap.size 3 [(true, 0), (true, 2), (false, 1)] (by kernel_rfl) (by kernel_rfl) (fun _ _ d _ _ h => by cases d <;> exact h) ?_
      have hb : Below W.heap.size W W.drew := (Below.refl _ _).drew
      iterate 2
        refine wpS_takeL rfl rfl ?_
        go_big_quiet_step (rfl)
        refine wpQuiet_nil ?_
      refine wpS_doL rfl ?_
      intro K hK
      go_wp2_with ((go_at_call 88; refine (negative_any _ _).mono ?_; rintro e w2 ⟨rfl, hn⟩))
      replace hb := hb.trans (hn.mono hb.size)
      refine hK.out _ _ (up_iff.2 hb) ?_
      clear hK K
      clear hn
      refine wpS_nil ?_
      simp only [List.drop_succ_cons, List.drop_zero]
      go_wp2_with (first | (go_at_call 88; refine (negative_any _ _).mono ?_; rintro e w2 ⟨rfl, hn⟩; replace hb := hb.trans (hn.mono hb.size); have c0' := Var.c (V0.out.of hb); have c1' := Var.c (V1.out.of hb); clear hn) | (go_at_call 134; refine (below_any _ _ _).mono ?_; rintro e' w2 ⟨rfl, hn⟩; replace hb := hb.trans (hn.mono hb.size)))
      go_ret
      exact ⟨rfl, hb0.trans (hb.mono hb0.size)⟩

theorem Cmp_any (x y : Int) (w : World) (ix : InI x) (iy : InI y) :
    Calls Try.prog 107 #[wI x, wI y] w fun e w' => e = .returned (.int .i64 (cmpI x y)) ∧ Below w.heap.size w w' := by
  refine (Cmp_go x y w ix iy _ _ _ _ rfl rfl rfl rfl).mono fun e w' ⟨he, hw⟩ => ⟨?_, hw⟩
  rw [he, ng_in ix, ng_in iy, eq4_wd]
  congr 2
  have sx := @Int.sign_eq_neg_one_of_neg x
  have sy := @Int.sign_eq_neg_one_of_neg y
  unfold ltU
  obtain ⟨h1, h2⟩ := ix
  obtain ⟨h3, h4⟩ := iy
  by_cases hx : x < 0 <;> by_cases hy : y < 0
  · simp only [hx, hy, bne_self_eq_false, cond_false, decide_true]
    unfold cmpI b255 b256 at *
    by_cases e : x = y
    · subst e; simp
    · have e' : ¬ x % 115792089237316195423570985008687907853269984665640564039457584007913129639936 = y % 115792089237316195423570985008687907853269984665640564039457584007913129639936 := by omega
      simp only [e', decide_false, cond_false, e]
      by_cases g : x < y
      · have g' : x % 115792089237316195423570985008687907853269984665640564039457584007913129639936 < y % 115792089237316195423570985008687907853269984665640564039457584007913129639936 := by omega
        simp [g, g']
      · have g' : ¬ x % 115792089237316195423570985008687907853269984665640564039457584007913129639936 < y % 115792089237316195423570985008687907853269984665640564039457584007913129639936 := by omega
        simp [g, g']
  · rw [sx hx]
    have : cmpI x y = -1 := cmpI_lt (by omega)
    rw [this]
    simp only [hx, hy, decide_true, decide_false]
    have : cmpI (-1) y.sign = -1 := cmpI_lt (by have := Int.sign_nonneg_iff.2 (show 0 ≤ y by omega); omega)
    simpa using this
  · rw [sy hy]
    have : cmpI x y = 1 := cmpI_gt (by omega)
    rw [this]
    simp only [hx, hy, decide_true, decide_false]
    have : cmpI x.sign (-1) = 1 := cmpI_gt (by have := Int.sign_nonneg_iff.2 (show 0 ≤ x by omega); omega)
    simpa using this
  · simp only [hx, hy, bne_self_eq_false, cond_false, decide_false]
    unfold cmpI b255 b256 at *
    by_cases e : x = y
    · subst e; simp
    · have e' : ¬ x % 115792089237316195423570985008687907853269984665640564039457584007913129639936 = y % 115792089237316195423570985008687907853269984665640564039457584007913129639936 := by omega
      simp only [e', decide_false, cond_false, e]
      by_cases g : x < y
      · have g' : x % 115792089237316195423570985008687907853269984665640564039457584007913129639936 < y % 115792089237316195423570985008687907853269984665640564039457584007913129639936 := by omega
        simp [g, g']
      · have g' : ¬ x % 115792089237316195423570985008687907853269984665640564039457584007913129639936 < y % 115792089237316195423570985008687907853269984665640564039457584007913129639936 := by omega
        simp [g, g']
end Go.Proofs.Ytlcbomjdbdgbmaa
/- Plain arithmetic of the long division, bit by bit. Conditions: none. -/
namespace Go.Proofs.Ytlcbomjdbdgbmaa

theorem wd_lt_4 {i : Nat} (h : i < 4) (x : Int) : wd i x = x / 2 ^ (64 * i) % 2 ^ 64 := by
  match i, h with
  | 0, _ => simp [wd, wd0, b64]
  | 1, _ => rfl
  | 2, _ => rfl
  | 3, _ => rfl
theorem wd_Wd {i : Nat} (h : i < 4) (x : Int) : Wd (wd i x) := by
  match i, h with
  | 0, _ => exact wd0_Wd x
  | 1, _ => exact wd1_Wd x
  | 2, _ => exact wd2_Wd x
  | 3, _ => exact wd3_Wd x

theorem ediv_pow (x : Int) (m n : Nat) : x / 2 ^ m / 2 ^ n = x / 2 ^ (m + n) := by
  rw [Int.ediv_ediv_of_nonneg (Int.le_of_lt (Int.pow_pos (by decide))), Int.pow_add]

theorem mod_div_pow {x : Int} {m n : Nat} (h : n < m) : x % 2 ^ m / 2 ^ n % 2 = x / 2 ^ n % 2 := by
  obtain ⟨k, rfl⟩ : ∃ k, m = n + 1 + k := ⟨m - n - 1, by omega⟩
  have e : x = x % 2 ^ (n + 1 + k) + 2 ^ n * (2 * (2 ^ k * (x / 2 ^ (n + 1 + k)))) := by
    have := Int.emod_add_mul_ediv x (2 ^ (n + 1 + k))
    have e2 : (2 : Int) ^ (n + 1 + k) = 2 ^ n * 2 * 2 ^ k := by rw [Int.pow_add, Int.pow_add]; rfl
    conv => lhs; rw [← this]
    rw [Int.add_right_inj, e2]
    simp only [Int.mul_assoc]
  have hp : (2 : Int) ^ n ≠ 0 := Int.ne_of_gt (Int.pow_pos (by decide))
  conv => rhs; rw [e]
  rw [Int.add_mul_ediv_left _ _ hp, Int.add_mul_emod_self_left]

/-- the bit number j of a number, as the machine takes it out of its words -/
theorem bit_eq (a : Int) {j : Nat} (hj : j < 256) : bits .and .u64 (wd (j / 64) a / 2 ^ (j % 64)) 1 = a / 2 ^ j % 2 := by
  have h4 : j / 64 < 4 := by omega
  obtain ⟨w1, w2⟩ := wd_Wd h4 a
  have hp : (0 : Int) < 2 ^ (j % 64) := Int.pow_pos (by decide)
  have n1 : 0 ≤ wd (j / 64) a / 2 ^ (j % 64) := Int.ediv_nonneg w1 (Int.le_of_lt hp)
  have n2 : wd (j / 64) a / 2 ^ (j % 64) < 18446744073709551616 := Int.lt_of_le_of_lt (Int.ediv_le_self _ w1) w2
  rw [u64_and _ _ n1 n2 (by decide) (by decide)]
  have e1 : (1 : Int).toNat = 1 := rfl
  rw [e1, nat_mask1]
  have e2 : ((wd (j / 64) a / 2 ^ (j % 64)).toNat % 2 : Nat) = (wd (j / 64) a / 2 ^ (j % 64)) % 2 := by omega
  rw [e2, wd_lt_4 h4, mod_div_pow (by omega), ediv_pow]
  congr 3
  omega

theorem or_one (q : Int) : bits .or .u64 (wd0 (q + q)) 1 = wd0 (q + q + 1) := by
  obtain ⟨w1, w2⟩ := wd0_Wd (q + q)
  rw [u64_or _ _ w1 w2 (by decide) (by decide)]
  have e1 : (1 : Int).toNat = 1 := rfl
  have e : (wd0 (q + q)).toNat % 2 ^ 1 = 0 := by unfold wd0 b64; omega
  rw [e1, nat_join 1 _ _ e (by decide)]
  unfold wd0 b64 at *; omega
theorem wd1_odd (q : Int) : wd1 (q + q + 1) = wd1 (q + q) := by unfold wd1 b64; omega
theorem wd2_odd (q : Int) : wd2 (q + q + 1) = wd2 (q + q) := by unfold wd2 b64 b128; omega
theorem wd3_odd (q : Int) : wd3 (q + q + 1) = wd3 (q + q) := by unfold wd3 b64 b192; omega

theorem half (a : Int) (j : Nat) : a / 2 ^ j = 2 * (a / 2 ^ (j + 1)) + a / 2 ^ j % 2 := by
  have h : a / 2 ^ (j + 1) = a / 2 ^ j / 2 := (ediv_pow a j 1).symm
  rw [h]; omega

theorem div_unique {x b q r : Int} (h : x = b * q + r) (h0 : 0 ≤ r) (h1 : r < b) : x / b = q ∧ x % b = r := by
  have hb : b ≠ 0 := by omega
  subst h
  constructor
  · rw [Int.add_comm, Int.add_mul_ediv_left _ _ hb, Int.ediv_eq_zero_of_lt h0 h1, Int.zero_add]
  · rw [Int.add_comm, Int.add_mul_emod_self_left]; exact Int.emod_eq_of_lt h0 h1

/-- one round of the division: the rest, doubled, is below twice the divisor -/
theorem div_step {a b : Int} {j : Nat} (hb : 0 < b) {q r t : Int} (hq : q = a / 2 ^ (j + 1) / b) (hr : r = a / 2 ^ (j + 1) % b) (ht : t = a / 2 ^ j % 2) :
    (0 ≤ r ∧ r < b ∧ 0 ≤ t ∧ t ≤ 1) ∧ (b ≤ r + r + t → q + q + 1 = a / 2 ^ j / b ∧ r + r + t - b = a / 2 ^ j % b) ∧ (r + r + t < b → q + q = a / 2 ^ j / b ∧ r + r + t = a / 2 ^ j % b) := by
  have e := half a j
  have e2 := Int.emod_add_mul_ediv (a / 2 ^ (j + 1)) b
  have r0 : 0 ≤ r := hr ▸ Int.emod_nonneg _ (by omega)
  have r1 : r < b := hr ▸ Int.emod_lt_of_pos _ hb
  have t0 : 0 ≤ t := ht ▸ Int.emod_nonneg _ (by decide)
  have t1 : t < 2 := ht ▸ Int.emod_lt_of_pos _ (by decide)
  rw [← hq, ← hr] at e2
  rw [← ht] at e
  have e3 : a / 2 ^ j = b * (q + q) + (r + r + t) := by
    rw [e, ← e2]
    have : b * (q + q) = b * q + b * q := Int.mul_add ..
    omega
  refine ⟨⟨r0, r1, t0, by omega⟩, fun h => ?_, fun h => ?_⟩
  · have e4 : a / 2 ^ j = b * (q + q + 1) + (r + r + t - b) := by
      rw [e3]
      have : b * (q + q + 1) = b * (q + q) + b := by rw [Int.mul_add, Int.mul_one]
      omega
    obtain ⟨h1, h2⟩ := div_unique e4 (by omega) (by omega)
    exact ⟨h1.symm, h2.symm⟩
  · obtain ⟨h1, h2⟩ := div_unique e3 (by omega) h
    exact ⟨h1.symm, h2.symm⟩

/-- when the rest is taken down by the divisor -/
theorem div_over {b r t : Int} (hb : 0 < b ∧ b < b256) (h : 0 ≤ r ∧ r < b ∧ 0 ≤ t ∧ t ≤ 1) (ho : ng r = true) : b ≤ r + r + t := by
  rw [ng_iff] at ho; unfold b256 b255 at *; omega
theorem div_lt {b r t : Int} (hb : 0 < b ∧ b < b256) (h : 0 ≤ r ∧ r < b ∧ 0 ≤ t ∧ t ≤ 1) (ho : ng r = false) (hl : ltU (r + r + t) b = true) : r + r + t < b := by
  have ho' : ¬ ng r = true := by rw [ho]; exact Bool.false_ne_true
  rw [ng_iff] at ho'
  unfold ltU at hl
  rw [decide_eq_true_iff] at hl
  unfold b256 b255 at *; omega
theorem div_ge {b r t : Int} (hb : 0 < b ∧ b < b256) (h : 0 ≤ r ∧ r < b ∧ 0 ≤ t ∧ t ≤ 1) (ho : ng r = false) (hl : ltU (r + r + t) b = false) : b ≤ r + r + t := by
  have ho' : ¬ ng r = true := by rw [ho]; exact Bool.false_ne_true
  rw [ng_iff] at ho'
  unfold ltU at hl
  rw [decide_eq_false_iff_not] at hl
  unfold b256 b255 at *; omega
theorem div_start {a b : Int} (ha : 0 ≤ a ∧ a < b256) : (0 : Int) = a / 2 ^ 256 / b ∧ (0 : Int) = a / 2 ^ 256 % b := by
  have e : a / 2 ^ 256 = 0 := Int.ediv_eq_zero_of_lt ha.1 ha.2
  rw [e]; simp
end Go.Proofs.Ytlcbomjdbdgbmaa
/- The walk of package wide's long division. Conditions: both are sizes, the divisor is not 0. -/
namespace Go.Proofs.Ytlcbomjdbdgbmaa
open Go.RowKit

/-- where the division stands: the quotient and the rest so far -/
structure DivAt (w : World) (a b q r : Int) (wr : World) : Prop where
  va : Var wr w.heap.size a
  vb : Var wr (w.heap.size + 1) b
  vq : Var wr (w.heap.size + 1 + 1) q
  vr : Var wr (w.heap.size + 1 + 1 + 1) r
  below : Below w.heap.size w wr
theorem DivAt.of {w : World} {a b q r : Int} {wr w' : World} (h : DivAt w a b q r wr) (hn : Below wr.heap.size wr w') : DivAt w a b q r w' :=
  ⟨h.va.of hn, h.vb.of hn, h.vq.of hn, h.vr.of hn, h.below.trans (hn.mono h.below.size)⟩
theorem DivAt.setr {w : World} {a b q r : Int} {wr : World} (h : DivAt w a b q r wr) (y : Int) : DivAt w a b q y
    ((((wr.setCell ⟨w.heap.size + 1 + 1 + 1, 0, none⟩ (.int .u64 (wd0 y))).setCell ⟨w.heap.size + 1 + 1 + 1, 1, none⟩ (.int .u64 (wd1 y))).setCell ⟨w.heap.size + 1 + 1 + 1, 2, none⟩ (.int .u64 (wd2 y))).setCell ⟨w.heap.size + 1 + 1 + 1, 3, none⟩ (.int .u64 (wd3 y))) :=
  ⟨h.va.set4 (by omega) _ _ _ _, h.vb.set4 (by omega) _ _ _ _, h.vq.set4 (by omega) _ _ _ _, Var.put4 h.vr y, below_set4 h.below (by omega) _ _ _ _⟩
theorem DivAt.setq {w : World} {a b q r : Int} {wr : World} (h : DivAt w a b q r wr) (y : Int) : DivAt w a b y r
    ((((wr.setCell ⟨w.heap.size + 1 + 1, 0, none⟩ (.int .u64 (wd0 y))).setCell ⟨w.heap.size + 1 + 1, 1, none⟩ (.int .u64 (wd1 y))).setCell ⟨w.heap.size + 1 + 1, 2, none⟩ (.int .u64 (wd2 y))).setCell ⟨w.heap.size + 1 + 1, 3, none⟩ (.int .u64 (wd3 y))) :=
  ⟨h.va.set4 (by omega) _ _ _ _, h.vb.set4 (by omega) _ _ _ _, Var.put4 h.vq y, h.vr.set4 (by omega) _ _ _ _, below_set4 h.below (by omega) _ _ _ _⟩
theorem DivAt.odd {w : World} {a b q r : Int} {wr : World} (h : DivAt w a b (q + q) r wr) : DivAt w a b (q + q + 1) r (wr.setCell ⟨w.heap.size + 1 + 1, 0, none⟩ (.int .u64 (wd0 (q + q + 1)))) := by
  refine ⟨h.va.set (by omega) _ _ _, h.vb.set (by omega) _ _ _, ?_, h.vr.set (by omega) _ _ _, h.below.setCell (by show _ ≤ w.heap.size + 1 + 1; omega) _⟩
  have := Blk.put h.vq 0 (.int .u64 (wd0 (q + q + 1)))
  show Blk _ _ #[_, .int .u64 (wd1 (q + q + 1)), .int .u64 (wd2 (q + q + 1)), .int .u64 (wd3 (q + q + 1))] _
  rw [wd1_odd, wd2_odd, wd3_odd]
  exact this
theorem DivAt.wda {w : World} {a b q r : Int} {wr : World} (h : DivAt w a b q r wr) {j : Nat} (hj : j < 256) : wr.cell? ⟨w.heap.size, j / 64, none⟩ = some (.int .u64 (wd (j / 64) a)) := by
  rw [Blk.cell h.va]
  have : j / 64 < 4 := by omega
  match j / 64, this with
  | 0, _ => rfl
  | 1, _ => rfl
  | 2, _ => rfl
  | 3, _ => rfl

set_option maxRecDepth 100000 in
set_option maxHeartbeats 4000000 in
theorem divided_any (a b : Int) (w : World) (ha : 0 ≤ a ∧ a < b256) (hb : 0 < b ∧ b < b256) :
    Calls Try.prog 135 #[wI a, wI b] w fun e w' => e = .returned (.tuple #[wI (a / b), wI (a % b)]) ∧ Below w.heap.size w w' := by
  have HA := Lib.hid ha
  have HB := Lib.hid hb
  clear ha hb
  go_enter Try.func135, Try.ntmps135
  go_wp2_with fail
  refine name_world ?_
  intro W0 hW
  have hd0 : DivAt w a b 0 0 W0 := by
    rw [hW]
    exact ⟨((Blk.new _ _ _).alloc _).alloc _ |>.alloc _, ((Blk.new1 _ _ _ _).alloc _).alloc _, (Blk.new2 _ _ _ _ _).alloc _, Blk.new3 _ _ _ _ _ _, (((Below.refl _ _).alloc (Nat.le_refl _) _).alloc (by simp) _).alloc (by simp; omega) _ |>.alloc (by simp; omega) _⟩
  clear hW
  go_loopw [6, 7] (fun i o wr => ∃ (k : Nat) (q r : Int), k ≤ 256 ∧ i = .int .i64 ((k : Int) - 1) ∧ Hid (q = a / 2 ^ k / b ∧ r = a / 2 ^ k % b) ∧ DivAt w a b q r wr) (fun i _ _ => (intOf i + 1).toNat)
  case atStart => exact ⟨256, 0, 0, by omega, rfl, div_start HA.out, hd0⟩
  case round =>
    clear hd0 W0
    rename_i i0 o0 wr
    obtain ⟨k, q, r, hk, rfl, hqr, hd⟩ := hrel
    cases k with
    | zero =>
      have e1 : ((0 : Nat) : Int) - 1 = -1 := by omega
      rw [e1]
      clear e1
      go_wp2_with fail
      refine name_world ?_
      intro W hW
      subst hW
      have c2 := Var.c hd.vq
      have c3 := Var.c hd.vr
      have l2 := Blk.lt hd.vq
      have l3 := Blk.lt hd.vr
      have f2 := Var.f hd.vq
      have f3 := Var.f hd.vr
      have hD := Lib.hid hd
      clear hd
      go_region
      go_wp2
      simp [bodyPost, results, Try.results135, go_sem, c2, c3]
      have hq := hqr.out
      rw [Int.pow_zero, Int.ediv_one] at hq
      obtain ⟨rfl, rfl⟩ := hq
      refine ⟨⟨⟨rfl, rfl, rfl, rfl⟩, rfl, rfl, rfl, rfl⟩, ?_⟩
      refine (below_set4 (below_set4 hD.out.below ?_ _ _ _ _) ?_ _ _ _ _).drew <;> omega
    | succ j =>
      have e1 : ((j + 1 : Nat) : Int) - 1 = (j : Int) := by omega
      rw [e1]
      clear e1
      have hj : j < 256 := by omega
      clear hk
      obtain ⟨t, ht⟩ : ∃ t, t = a / 2 ^ j % 2 := ⟨_, rfl⟩
      have hbit := bit_eq a hj
      rw [← ht] at hbit
      obtain ⟨⟨r0, r1, t0, t1⟩, s1, s2⟩ := div_step HB.out.1 hqr.out.1 hqr.out.2 ht
      have go := div_over (b := b) (r := r) (t := t) HB.out ⟨r0, r1, t0, t1⟩
      have gl := div_lt (b := b) (r := r) (t := t) HB.out ⟨r0, r1, t0, t1⟩
      have gg := div_ge (b := b) (r := r) (t := t) HB.out ⟨r0, r1, t0, t1⟩
      have S1 := Lib.hid s1
      have S2 := Lib.hid s2
      have GO := Lib.hid go
      have GL := Lib.hid gl
      have GG := Lib.hid gg
      clear s1 s2 go gl gg hqr ht r0 r1
      have hor := or_one q
      cases hov : ng r <;> cases hlt : ltU (r + r + t) b
      · have HOV := Lib.hid hov
        have HLT := Lib.hid hlt
        have c3 := Var.c hd.vr
        go_wp2_with (first | (go_at_call 88; refine (negative_any _ _).mono ?_; rintro e w2 ⟨rfl, hn⟩; replace hd := hd.of hn; clear c3 hn))
        clear hov
        refine name_world ?_
        intro W hW
        subst hW
        have c0 := hd.wda hj
        have c3 := Var.c hd.vr
        have l0 := Blk.lt hd.va
        have l3 := Blk.lt hd.vr
        have hD := Lib.hid hd
        clear hd
        refine wp_region_up W.heap.size 10 [(true, 0), (true, 1), (true, 2), (true, 3), (true, 4), (true, 5), (true, 6), (true, 7), (true, 8), (true, 9)] (by kernel_rfl) (by kernel_rfl) (fun _ _ d _ _ h => by cases d <;> exact h) ?_
        iterate 10
          refine wpS_takeL rfl rfl ?_
          go_big_quiet_step (rfl)
          refine wpQuiet_nil ?_
        refine wpS_nil ?_
        simp only [List.drop_succ_cons, List.drop_zero]
        clear c0 c3 l0 l3 hbit
        go_wp2_with fail
        refine (plus_any r r t _ t0 t1).mono ?_
        rintro e w2 ⟨rfl, hn⟩
        have hd : DivAt w a b q r w2 := hD.out.of ((Below.refl _ _).drew.trans hn)
        clear hD hn
        have c2 := Var.c hd.vq
        have c3 := Var.c hd.vr
        have f3 := Var.f hd.vr
        go_wp2_with fail
        refine calls_w ?_
        intro W1 hW1
        replace hd : DivAt w a b q (r + r + t) W1 := by rw [hW1]; exact hd.setr _
        clear hW1 c2 c3 f3
        refine (plus_any q q 0 _ (by decide) (by decide)).mono ?_
        rintro e w3 ⟨rfl, hn⟩
        rw [Int.add_zero]
        replace hd := hd.of hn
        clear hn w2 W1
        have c1 := Var.c hd.vb
        have c2 := Var.c hd.vq
        have c3 := Var.c hd.vr
        have f2 := Var.f hd.vq
        go_wp2_with fail
        refine calls_w ?_
        intro W2 hW2
        replace hd : DivAt w a b (q + q) (r + r + t) W2 := by rw [hW2]; exact hd.setq _
        clear hW2 c1 c2 c3 f2
        refine (below_any (r + r + t) b _).mono ?_
        rintro e w4 ⟨rfl, hn⟩
        replace hd := hd.of hn
        clear hn w3 W2
        go_wp2_with fail
        have S := S1.out (GG.out HOV.out HLT.out)
        have HS := Lib.hid S
        clear S HLT hlt
        refine name_world ?_
        intro W hW
        subst hW
        have c1 := Var.c hd.vb
        have c3 := Var.c hd.vr
        have l1 := Blk.lt hd.vb
        have l3 := Blk.lt hd.vr
        have hD := Lib.hid hd
        clear hd
        refine wp_region_up W.heap.size 3 [(true, 0), (true, 1), (false, 2)] (by kernel_rfl) (by kernel_rfl) (fun _ _ d _ _ h => by cases d <;> exact h) ?_
        have hb : Below W.heap.size W W.drew := (Below.refl _ _).drew
        iterate 2
          refine wpS_takeL rfl rfl ?_
          go_big_quiet_step (rfl)
          refine wpQuiet_nil ?_
        refine wpS_doL rfl ?_
        intro K hK
        go_wp2_with ((first | (go_at_call 138; refine (turned_any _ _).mono ?_; rintro e w2 ⟨rfl, hn⟩)))
        replace hb := hb.trans (hn.mono hb.size)
        refine hK.out _ _ (up_iff.2 hb) ?_
        clear hK K
        clear hn
        refine wpS_nil ?_
        simp only [List.drop_succ_cons, List.drop_zero]
        have hd : DivAt w a b (q + q) (r + r + t) w2 := hD.out.of hb
        clear hD hb c1 c3 l1 l3
        go_wp2_with fail
        refine (plus_any (r + r + t) (-1 - b) 1 _ (by decide) (by decide)).mono ?_
        rintro e w5 ⟨rfl, hn⟩
        have e5 : r + r + t + (-1 - b) + 1 = r + r + t - b := by omega
        rw [e5]
        clear e5
        replace hd := hd.of hn
        clear hn
        have c2 := Var.c hd.vq
        have c3 := Var.c hd.vr
        have f2 := Var.f hd.vq
        have f3 := Var.f hd.vr
        go_wp2_with fail
        go_roundw
        case rel => exact ⟨j, q + q + 1, r + r + t - b, by omega, rfl, HS.out, (hd.setr _).odd⟩
        case measure => simp [intOf]
      · have HOV := Lib.hid hov
        have HLT := Lib.hid hlt
        have c3 := Var.c hd.vr
        go_wp2_with (first | (go_at_call 88; refine (negative_any _ _).mono ?_; rintro e w2 ⟨rfl, hn⟩; replace hd := hd.of hn; clear c3 hn))
        clear hov
        refine name_world ?_
        intro W hW
        subst hW
        have c0 := hd.wda hj
        have c3 := Var.c hd.vr
        have l0 := Blk.lt hd.va
        have l3 := Blk.lt hd.vr
        have hD := Lib.hid hd
        clear hd
        refine wp_region_up W.heap.size 10 [(true, 0), (true, 1), (true, 2), (true, 3), (true, 4), (true, 5), (true, 6), (true, 7), (true, 8), (true, 9)] (by kernel_rfl) (by kernel_rfl) (fun _ _ d _ _ h => by cases d <;> exact h) ?_
        iterate 10
          refine wpS_takeL rfl rfl ?_
          go_big_quiet_step (rfl)
          refine wpQuiet_nil ?_
        refine wpS_nil ?_
        simp only [List.drop_succ_cons, List.drop_zero]
        clear c0 c3 l0 l3 hbit
        go_wp2_with fail
        refine (plus_any r r t _ t0 t1).mono ?_
        rintro e w2 ⟨rfl, hn⟩
        have hd : DivAt w a b q r w2 := hD.out.of ((Below.refl _ _).drew.trans hn)
        clear hD hn
        have c2 := Var.c hd.vq
        have c3 := Var.c hd.vr
        have f3 := Var.f hd.vr
        go_wp2_with fail
        refine calls_w ?_
        intro W1 hW1
        replace hd : DivAt w a b q (r + r + t) W1 := by rw [hW1]; exact hd.setr _
        clear hW1 c2 c3 f3
        refine (plus_any q q 0 _ (by decide) (by decide)).mono ?_
        rintro e w3 ⟨rfl, hn⟩
        rw [Int.add_zero]
        replace hd := hd.of hn
        clear hn w2 W1
        have c1 := Var.c hd.vb
        have c2 := Var.c hd.vq
        have c3 := Var.c hd.vr
        have f2 := Var.f hd.vq
        go_wp2_with fail
        refine calls_w ?_
        intro W2 hW2
        replace hd : DivAt w a b (q + q) (r + r + t) W2 := by rw [hW2]; exact hd.setq _
        clear hW2 c1 c2 c3 f2
        refine (below_any (r + r + t) b _).mono ?_
        rintro e w4 ⟨rfl, hn⟩
        replace hd := hd.of hn
        clear hn w3 W2
        go_wp2_with fail
        go_roundw
        case rel => exact ⟨j, q + q, r + r + t, by omega, rfl, S2.out (GL.out HOV.out HLT.out), hd⟩
        case measure => simp [intOf]
      · have HOV := Lib.hid hov
        have HLT := Lib.hid hlt
        have c3 := Var.c hd.vr
        go_wp2_with (first | (go_at_call 88; refine (negative_any _ _).mono ?_; rintro e w2 ⟨rfl, hn⟩; replace hd := hd.of hn; clear c3 hn))
        clear hov
        refine name_world ?_
        intro W hW
        subst hW
        have c0 := hd.wda hj
        have c3 := Var.c hd.vr
        have l0 := Blk.lt hd.va
        have l3 := Blk.lt hd.vr
        have hD := Lib.hid hd
        clear hd
        refine wp_region_up W.heap.size 10 [(true, 0), (true, 1), (true, 2), (true, 3), (true, 4), (true, 5), (true, 6), (true, 7), (true, 8), (true, 9)] (by kernel_rfl) (by kernel_rfl) (fun _ _ d _ _ h => by cases d <;> exact h) ?_
        iterate 10
          refine wpS_takeL rfl rfl ?_
          go_big_quiet_step (rfl)
          refine wpQuiet_nil ?_
        refine wpS_nil ?_
        simp only [List.drop_succ_cons, List.drop_zero]
        clear c0 c3 l0 l3 hbit
        go_wp2_with fail
        refine (plus_any r r t _ t0 t1).mono ?_
        rintro e w2 ⟨rfl, hn⟩
        have hd : DivAt w a b q r w2 := hD.out.of ((Below.refl _ _).drew.trans hn)
        clear hD hn
        have c2 := Var.c hd.vq
        have c3 := Var.c hd.vr
        have f3 := Var.f hd.vr
        go_wp2_with fail
        refine calls_w ?_
        intro W1 hW1
        replace hd : DivAt w a b q (r + r + t) W1 := by rw [hW1]; exact hd.setr _
        clear hW1 c2 c3 f3
        refine (plus_any q q 0 _ (by decide) (by decide)).mono ?_
        rintro e w3 ⟨rfl, hn⟩
        rw [Int.add_zero]
        replace hd := hd.of hn
        clear hn w2 W1
        have c1 := Var.c hd.vb
        have c2 := Var.c hd.vq
        have c3 := Var.c hd.vr
        have f2 := Var.f hd.vq
        go_wp2_with fail
        refine name_world ?_
        intro w4 hw4
        replace hd : DivAt w a b (q + q) (r + r + t) w4 := by rw [hw4]; exact hd.setq _
        clear hw4 c1 c2 c3 f2 w3
        have S := S1.out (GO.out HOV.out)
        have HS := Lib.hid S
        clear S HLT hlt
        refine name_world ?_
        intro W hW
        subst hW
        have c1 := Var.c hd.vb
        have c3 := Var.c hd.vr
        have l1 := Blk.lt hd.vb
        have l3 := Blk.lt hd.vr
        have hD := Lib.hid hd
        clear hd
        refine wp_region_up W.heap.size 3 [(true, 0), (true, 1), (false, 2)] (by kernel_rfl) (by kernel_rfl) (fun _ _ d _ _ h => by cases d <;> exact h) ?_
        have hb : Below W.heap.size W W.drew := (Below.refl _ _).drew
        iterate 2
          refine wpS_takeL rfl rfl ?_
          go_big_quiet_step (rfl)
          refine wpQuiet_nil ?_
        refine wpS_doL rfl ?_
        intro K hK
        go_wp2_with ((first | (go_at_call 138; refine (turned_any _ _).mono ?_; rintro e w2 ⟨rfl, hn⟩)))
        replace hb := hb.trans (hn.mono hb.size)
        refine hK.out _ _ (up_iff.2 hb) ?_
        clear hK K
        clear hn
        refine wpS_nil ?_
        simp only [List.drop_succ_cons, List.drop_zero]
        have hd : DivAt w a b (q + q) (r + r + t) w2 := hD.out.of hb
        clear hD hb c1 c3 l1 l3
        go_wp2_with fail
        refine (plus_any (r + r + t) (-1 - b) 1 _ (by decide) (by decide)).mono ?_
        rintro e w5 ⟨rfl, hn⟩
        have e5 : r + r + t + (-1 - b) + 1 = r + r + t - b := by omega
        rw [e5]
        clear e5
        replace hd := hd.of hn
        clear hn
        have c2 := Var.c hd.vq
        have c3 := Var.c hd.vr
        have f2 := Var.f hd.vq
        have f3 := Var.f hd.vr
        go_wp2_with fail
        go_roundw
        case rel => exact ⟨j, q + q + 1, r + r + t - b, by omega, rfl, HS.out, (hd.setr _).odd⟩
        case measure => simp [intOf]
      · have HOV := Lib.hid hov
        have HLT := Lib.hid hlt
        have c3 := Var.c hd.vr
        go_wp2_with (first | (go_at_call 88; refine (negative_any _ _).mono ?_; rintro e w2 ⟨rfl, hn⟩; replace hd := hd.of hn; clear c3 hn))
        clear hov
        refine name_world ?_
        intro W hW
        subst hW
        have c0 := hd.wda hj
        have c3 := Var.c hd.vr
        have l0 := Blk.lt hd.va
        have l3 := Blk.lt hd.vr
        have hD := Lib.hid hd
        clear hd
        refine wp_region_up W.heap.size 10 [(true, 0), (true, 1), (true, 2), (true, 3), (true, 4), (true, 5), (true, 6), (true, 7), (true, 8), (true, 9)] (by kernel_rfl) (by kernel_rfl) (fun _ _ d _ _ h => by cases d <;> exact h) ?_
        iterate 10
          refine wpS_takeL rfl rfl ?_
          go_big_quiet_step (rfl)
          refine wpQuiet_nil ?_
        refine wpS_nil ?_
        simp only [List.drop_succ_cons, List.drop_zero]
        clear c0 c3 l0 l3 hbit
        go_wp2_with fail
        refine (plus_any r r t _ t0 t1).mono ?_
        rintro e w2 ⟨rfl, hn⟩
        have hd : DivAt w a b q r w2 := hD.out.of ((Below.refl _ _).drew.trans hn)
        clear hD hn
        have c2 := Var.c hd.vq
        have c3 := Var.c hd.vr
        have f3 := Var.f hd.vr
        go_wp2_with fail
        refine calls_w ?_
        intro W1 hW1
        replace hd : DivAt w a b q (r + r + t) W1 := by rw [hW1]; exact hd.setr _
        clear hW1 c2 c3 f3
        refine (plus_any q q 0 _ (by decide) (by decide)).mono ?_
        rintro e w3 ⟨rfl, hn⟩
        rw [Int.add_zero]
        replace hd := hd.of hn
        clear hn w2 W1
        have c1 := Var.c hd.vb
        have c2 := Var.c hd.vq
        have c3 := Var.c hd.vr
        have f2 := Var.f hd.vq
        go_wp2_with fail
        refine name_world ?_
        intro w4 hw4
        replace hd : DivAt w a b (q + q) (r + r + t) w4 := by rw [hw4]; exact hd.setq _
        clear hw4 c1 c2 c3 f2 w3
        have S := S1.out (GO.out HOV.out)
        have HS := Lib.hid S
        clear S HLT hlt
        refine name_world ?_
        intro W hW
        subst hW
        have c1 := Var.c hd.vb
        have c3 := Var.c hd.vr
        have l1 := Blk.lt hd.vb
        have l3 := Blk.lt hd.vr
        have hD := Lib.hid hd
        clear hd
        refine wp_region_up W.heap.size 3 [(true, 0), (true, 1), (false, 2)] (by kernel_rfl) (by kernel_rfl) (fun _ _ d _ _ h => by cases d <;> exact h) ?_
        have hb : Below W.heap.size W W.drew := (Below.refl _ _).drew
        iterate 2
          refine wpS_takeL rfl rfl ?_
          go_big_quiet_step (rfl)
          refine wpQuiet_nil ?_
        refine wpS_doL rfl ?_
        intro K hK
        go_wp2_with ((first | (go_at_call 138; refine (turned_any _ _).mono ?_; rintro e w2 ⟨rfl, hn⟩)))
        replace hb := hb.trans (hn.mono hb.size)
        refine hK.out _ _ (up_iff.2 hb) ?_
        clear hK K
        clear hn
        refine wpS_nil ?_
        simp only [List.drop_succ_cons, List.drop_zero]
        have hd : DivAt w a b (q + q) (r + r + t) w2 := hD.out.of hb
        clear hD hb c1 c3 l1 l3
        go_wp2_with fail
        refine (plus_any (r + r + t) (-1 - b) 1 _ (by decide) (by decide)).mono ?_
        rintro e w5 ⟨rfl, hn⟩
        have e5 : r + r + t + (-1 - b) + 1 = r + r + t - b := by omega
        rw [e5]
        clear e5
        replace hd := hd.of hn
        clear hn
        have c2 := Var.c hd.vq
        have c3 := Var.c hd.vr
        have f2 := Var.f hd.vq
        have f3 := Var.f hd.vr
        go_wp2_with fail
        go_roundw
        case rel => exact ⟨j, q + q + 1, r + r + t - b, by omega, rfl, HS.out, (hd.setr _).odd⟩
        case measure => simp [intOf]
end Go.Proofs.Ytlcbomjdbdgbmaa
/- Plain arithmetic of the division with signs. Conditions: none. -/
namespace Go.Proofs.Ytlcbomjdbdgbmaa

/-- the quotient, rounded down, and the rest -/
def fq (x y : Int) : Int := if 0 ≤ y then x / y else (-x) / (-y)
def fr (x y : Int) : Int := if 0 ≤ y then x % y else -((-x) % (-y))

theorem fq_fr (x y : Int) : fq x y * y + fr x y = x := by
  unfold fq fr
  split
  · have := Int.emod_add_mul_ediv x y; rw [Int.mul_comm y] at this; omega
  · have := Int.emod_add_mul_ediv (-x) (-y)
    have e : -y * (-x / -y) = -(-x / -y * y) := by rw [Int.neg_mul, Int.mul_comm]
    rw [e] at this; omega
theorem fr_pos {x y : Int} (h : 0 < y) : 0 ≤ fr x y ∧ fr x y < y := by
  unfold fr; rw [if_pos (by omega)]; exact ⟨Int.emod_nonneg _ (by omega), Int.emod_lt_of_pos _ h⟩
theorem fr_neg {x y : Int} (h : y < 0) : fr x y ≤ 0 ∧ y < fr x y := by
  unfold fr; rw [if_neg (by omega)]
  have h1 := Int.emod_nonneg (-x) (show -y ≠ 0 by omega)
  have h2 := Int.emod_lt_of_pos (-x) (show 0 < -y by omega)
  omega

/-- of a number below 0: the quotient, rounded down, by the sizes -/
theorem neg_div {x y : Int} (hy : 0 < y) : ((-x) / y = -(x / y) ∧ (-x) % y = 0 ∧ x % y = 0) ∨ ((-x) / y = -(x / y + 1) ∧ (-x) % y = y - x % y ∧ x % y ≠ 0) := by
  have h1 := Int.emod_add_mul_ediv x y
  have h2 := Int.emod_nonneg x (show y ≠ 0 by omega)
  have h3 := Int.emod_lt_of_pos x hy
  by_cases h : x % y = 0
  · refine .inl ?_
    have e : -x = y * (-(x / y)) + 0 := by rw [Int.mul_neg]; omega
    obtain ⟨a, b⟩ := div_unique e (by omega) hy
    exact ⟨a, b, h⟩
  · refine .inr ?_
    have e : -x = y * (-(x / y + 1)) + (y - x % y) := by rw [Int.mul_neg, Int.mul_add, Int.mul_one]; omega
    obtain ⟨a, b⟩ := div_unique e (by omega) (by omega)
    exact ⟨a, b, h⟩

def dvN (x y : Int) (u zm : Bool) : Int := bif u && !zm then sz x / sz y + 1 else sz x / sz y
def dvM (x y : Int) (u zm : Bool) : Int := bif u && !zm then sz y - sz x % sz y else sz x % sz y

theorem sz_pos {x : Int} (h : InI x) (hx : 0 ≤ x) : sz x = x := by rw [sz_in h]; omega
theorem sz_neg {x : Int} (h : InI x) (hx : x < 0) : sz x = -x := by rw [sz_in h]; omega
theorem sz_bd {x : Int} (h : InI x) : 0 ≤ sz x ∧ sz x ≤ b255 := by
  rw [sz_in h]; obtain ⟨h1, h2⟩ := h; unfold b255 at *; omega

/-- what signed says of a size that is not greater than 2^255 -/
def sgB' (s : Int) (b : Bool) : Bool := b || decide (s < b255)
theorem eq0_iff {x : Int} (h : -b255 ≤ x ∧ x ≤ b255) : decide (x % b256 = 0) = decide (x = 0) := by
  rw [Bool.eq_iff_iff, decide_eq_true_iff, decide_eq_true_iff]; unfold b255 b256 at *; omega

/-- the zero test of the rest, as the machine makes it -/
def zmI (x y : Int) : Bool := decide (sz x % sz y % b256 = 0)

theorem dv_spec {x y : Int} (ix : InI x) (iy : InI y) (hy : y ≠ 0) :
    let u := (ng x != ng y)
    let zm := zmI x y
    (bif u then -(dvN x y u zm) else dvN x y u zm) = fq x y ∧ (bif ng y then -(dvM x y u zm) else dvM x y u zm) = fr x y ∧ 0 ≤ dvN x y u zm ∧ dvN x y u zm ≤ b255 ∧ 0 ≤ dvM x y u zm ∧ dvM x y u zm < sz y := by
  intro u zm
  have bx := sz_bd ix
  have by' := sz_bd iy
  have ex : ng x = decide (x < 0) := ng_in ix
  have ey : ng y = decide (y < 0) := ng_in iy
  have sy : 0 < sz y := by rw [sz_in iy]; omega
  have m0 := Int.emod_nonneg (sz x) (show sz y ≠ 0 by omega)
  have m1 := Int.emod_lt_of_pos (sz x) sy
  have d0 : 0 ≤ sz x / sz y := Int.ediv_nonneg bx.1 (by omega)
  have d1 : sz x / sz y ≤ sz x := Int.ediv_le_self _ bx.1
  have hz : zm = decide (sz x % sz y = 0) := by
    show decide (sz x % sz y % b256 = 0) = _
    rw [Bool.eq_iff_iff, decide_eq_true_iff, decide_eq_true_iff]; unfold b255 b256 at *; omega
  -- the case of unlike signs, in which the sizes' quotient is raised
  have lift : sz x % sz y ≠ 0 → sz x / sz y + 1 ≤ b255 := by
    intro h
    have hy2 : 2 ≤ sz y := by
      rcases Int.lt_or_le (sz y) 2 with h' | h'
      · have : sz y = 1 := by omega
        rw [this] at h; omega
      · exact h'
    have e := Int.emod_add_mul_ediv (sz x) (sz y)
    have h3 : 2 * (sz x / sz y) ≤ sz y * (sz x / sz y) := Int.mul_le_mul_of_nonneg_right hy2 d0
    unfold b255 at *; omega
  by_cases hx : x < 0 <;> by_cases hyn : y < 0
  · have hu : u = false := by show (ng x != ng y) = false; rw [ex, ey]; simp [hx, hyn]
    rw [hu]
    unfold dvN dvM
    simp only [Bool.false_and, cond_false]
    rw [ey, sz_neg ix hx, sz_neg iy hyn] at *
    refine ⟨by unfold fq; rw [if_neg (by omega)], by simp only [hyn, decide_true, cond_true]; unfold fr; rw [if_neg (by omega)], d0, by omega, m0, m1⟩
  · have hu : u = true := by show (ng x != ng y) = true; rw [ex, ey]; simp [hx, hyn]
    have e1 := sz_neg ix hx
    have e2 := sz_pos iy (by omega)
    have nd := neg_div (x := -x) (y := y) (by omega)
    rw [Int.neg_neg] at nd
    rw [hu, hz]
    unfold dvN dvM fq fr
    rw [ey]
    simp only [e1, e2] at d0 d1 m0 m1 lift bx by' ⊢
    simp only [hyn, decide_false, cond_false, Bool.true_and, cond_true]
    rw [if_pos (by omega), if_pos (by omega)]
    by_cases h : sz x % sz y = 0
    · rw [e1, e2] at h
      simp only [h, decide_true, Bool.not_true, cond_false]
      rcases nd with ⟨n1, n2, n3⟩ | ⟨n1, n2, n3⟩
      · exact ⟨by omega, by omega, d0, by omega, by omega, by omega⟩
      · exact absurd h n3
    · rw [e1, e2] at h
      have l := lift h
      simp only [h, decide_false, Bool.not_false, cond_true]
      rcases nd with ⟨n1, n2, n3⟩ | ⟨n1, n2, n3⟩
      · exact absurd n3 h
      · exact ⟨by omega, by omega, by omega, l, by omega, by omega⟩
  · have hu : u = true := by show (ng x != ng y) = true; rw [ex, ey]; simp [hx, hyn]
    have e1 := sz_pos ix (by omega)
    have e2 := sz_neg iy hyn
    have nd := neg_div (x := x) (y := -y) (by omega)
    rw [hu, hz]
    unfold dvN dvM fq fr
    rw [ey]
    simp only [e1, e2] at d0 d1 m0 m1 lift bx by' ⊢
    simp only [hyn, decide_true, Bool.true_and, cond_true]
    rw [if_neg (by omega), if_neg (by omega)]
    by_cases h : sz x % sz y = 0
    · rw [e1, e2] at h
      simp only [h, decide_true, Bool.not_true, cond_false]
      rcases nd with ⟨n1, n2, n3⟩ | ⟨n1, n2, n3⟩
      · exact ⟨by omega, by omega, d0, by omega, by omega, by omega⟩
      · exact absurd h n3
    · rw [e1, e2] at h
      have l := lift h
      simp only [h, decide_false, Bool.not_false, cond_true]
      rcases nd with ⟨n1, n2, n3⟩ | ⟨n1, n2, n3⟩
      · exact absurd n3 h
      · exact ⟨by omega, by omega, by omega, l, by omega, by omega⟩
  · have hu : u = false := by show (ng x != ng y) = false; rw [ex, ey]; simp [hx, hyn]
    rw [hu]
    unfold dvN dvM
    simp only [Bool.false_and, cond_false]
    rw [ey, sz_pos ix (by omega), sz_pos iy (by omega)] at *
    refine ⟨by unfold fq; rw [if_pos (by omega)], by simp only [hyn, decide_false, cond_false]; unfold fr; rw [if_pos (by omega)], d0, by omega, m0, m1⟩
end Go.Proofs.Ytlcbomjdbdgbmaa
