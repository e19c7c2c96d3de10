/- The walks of gromalaw02: right, ref; equality of two fractions. Conditions: the numbers are numbers of 256 bits. -/
import Derived.Test.YtgddpkopbiendaaRatio5
namespace Go.Proofs.Ytgddpkopbiendaa
open Go.RowKit

/-- within a fraction two numbers are held against one another one step deeper -/
@[go_sem] theorem run_eqI9 (a0 a1 a2 a3 b0 b1 b2 b3 : Int) (w : World) :
    (Op.equalIn 9999 24 (.agg #[.int .u64 a0, .int .u64 a1, .int .u64 a2, .int .u64 a3]) (.agg #[.int .u64 b0, .int .u64 b1, .int .u64 b2, .int .u64 b3])).run Try.prog w = .ok (eq4 a0 a1 a2 a3 b0 b1 b2 b3) w := by
  have hu : Try.prog.underlying 24 = some (.array 4 22) := by kernel_rfl
  have hs : ∀ w, (sizeOf 22).run Try.prog w = .ok 1 w := fun w => by kernel_rfl
  have he : ∀ (a b : Int) w, (Op.equalIn 9998 22 (.int .u64 a) (.int .u64 b)).run Try.prog w = .ok (a == b) w := fun a b w => run_equalIn_int w 9997 _ .u64 .u64 a b (by kernel_rfl)
  have hp : ∀ (c : Array Value) (i : Nat) (v : Value) w, c[i]? = some v → (part 22 c i).run Try.prog w = .ok v w := by
    intro c i v w h
    have ha : (isAgg 22).run Try.prog w = .ok false w := by kernel_rfl
    unfold part
    simp [Sem.run_bind, ha, h]
  show (Op.equalIn (9998 + 1) _ _ _).run _ _ = _
  unfold Op.equalIn
  simp only [Sem.run_bind, run_underlying hu, Result.andThen_ok, hs]
  simp [List.range', he, hp, Sem.run_bind]
  unfold eq4
  by_cases h0 : a0 = b0 <;> by_cases h1 : a1 = b1 <;> by_cases h2 : a2 = b2 <;> by_cases h3 : a3 = b3 <;> simp [h0, h1, h2, h3]

/-- a number does not lie where a Bool lies -/
theorem Big.far {w w' : World} {v : Value} {n : Int} {L b : Nat} (h : Big w v n L) {q : Bool} (hd : w.cell? ⟨b, 0, none⟩ = some (.bool q)) (hs : w.heap.size ≤ w'.heap.size) (hh : ∀ k, k ≠ b → w'.heap[k]? = w.heap[k]?) : Big w' v n L := by
  obtain ⟨neg, ao, b3, cap, ds, h1, h2, h3⟩ := h
  have hne : 0 < ds.length → b3 ≠ b := by
    intro h0 e
    have := h2.cell 0 h0
    rw [e, hd] at this
    simp at this
  refine ⟨neg, ao, b3, cap, ds, h1, ⟨h2.ptr, h2.nil, h2.capl, h2.len, h2.capb, fun i hi => ?_, fun h0 => Nat.lt_of_lt_of_le (h2.blk h0) hs⟩, h3⟩
  rw [World.cell?_of_block (w := w) (a := ⟨b3, i, none⟩) (hh b3 (hne (by omega)))]
  exact h2.cell i hi
theorem Big.set4 {w : World} {v : Value} {n : Int} {L b : Nat} (h : Big w v n L) {q : Bool} (hd : w.cell? ⟨b, 0, none⟩ = some (.bool q)) (x y z u : Value) :
    Big ((((w.setCell ⟨b, 0, none⟩ x).setCell ⟨b, 1, none⟩ y).setCell ⟨b, 2, none⟩ z).setCell ⟨b, 3, none⟩ u) v n L := by
  refine h.far hd (by simp only [size_set]; exact Nat.le_refl _) fun k hk => ?_
  rw [Below.heap_setCell _ _ _ _ hk, Below.heap_setCell _ _ _ _ hk, Below.heap_setCell _ _ _ _ hk, Below.heap_setCell _ _ _ _ hk]

set_option maxRecDepth 100000 in
set_option maxHeartbeats 1000000 in
theorem right_any (n d : Int) (w : World) (hd : InI d) :
    Calls Try.prog 17 #[rI n d] w fun e w' => e = .returned (.bool (decide (0 < d))) ∧ Below w.heap.size w w' := by
  have HD := Lib.hid (sg_id hd)
  go_enter Try.func17, Try.ntmps17
  go_wp2_with fail
  have T := Read_any d (w.alloc (.cells (rC n d) 26))
  rw [HD.out] at T
  refine T.mono ?_
  clear T
  rintro e w2 ⟨v, rfl, hb, hn⟩
  go_wp2_with fail
  refine (bigSign_any v d 18 _ hb).mono ?_
  rintro e w3 ⟨rfl, hn2⟩
  have hb3 : Below w.heap.size w w3 := ((below_a1 _ _).trans (hn.mono (by simp))).trans (hn2.mono (by have := hn.size; simp at this; omega))
  clear hb hn hn2
  go_wp2
  go_ret
  exact ⟨rfl, hb3⟩
theorem right_is (n d : Int) (w : World) (hd : InI d) (b : Bool) (hb : decide (0 < d) = b) :
    Calls Try.prog 17 #[rI n d] w fun e w' => e = .returned (.bool b) ∧ Below w.heap.size w w' := hb ▸ right_any n d w hd

set_option maxRecDepth 100000 in
set_option maxHeartbeats 1000000 in
theorem ref_any (n d : Int) (w : World) (hn : InI n) (hd : InI d) :
    Calls Try.prog 20 #[rI n d] w (GivesRat w n d 18) := by
  have HN := Lib.hid (sg_id hn)
  have HD := Lib.hid (sg_id hd)
  clear hn hd
  go_enter Try.func20, Try.ntmps20
  go_wp2_with fail
  refine name_world ?_
  intro W hW
  have kr : RVar W w.heap.size n d := by rw [hW]; exact (Blk.new _ _ _).alloc _
  have k0 : Blk W (w.heap.size + 1) #[.bool false, .slice none 0 0, .bool false, .slice none 0 0] 35 := by rw [hW]; exact Blk.new1 _ _ _ _
  have hb0 : Below w.heap.size w W := by rw [hW]; exact below_a2 _ _ _
  clear hW
  have c := RVar.c kr
  have l0 := kr.lt
  have K0 := Lib.hid k0
  have KR := Lib.hid kr
  clear kr k0
  refine wp_region_up W.heap.size 5 [(true, 0), (true, 1), (true, 3), (true, 4), (false, 2)] (by kernel_rfl) (by kernel_rfl) (fun _ _ d _ _ h => by cases d <;> exact h) ?_
  have hb : Below W.heap.size W W.drew := (Below.refl _ _).drew
  iterate 4
    refine wpS_takeL rfl rfl ?_
    go_big_quiet_step (rfl)
    refine wpQuiet_nil ?_
  refine wpS_doL rfl ?_
  intro K hK
  go_wp2_with ((go_at_call 22; refine (Read_any n _).mono ?_; rintro e w2 ⟨vm, rfl, hbm, hn⟩; have HM := Lib.hid hbm; have hvm := hbm.shape; clear hbm; obtain ⟨n5, a5, q5, e5, rfl⟩ := hvm))
  replace hb := hb.trans (hn.mono hb.size)
  refine hK.out _ _ (up_iff.2 hb) ?_
  clear hK K
  clear hn
  refine wpS_nil ?_
  simp only [List.drop_succ_cons, List.drop_zero]
  have hb2 : Below w.heap.size w w2 := hb0.trans (hb.mono hb0.size)
  replace K0 := Lib.hid (K0.out.of hb)
  rw [HN.out] at HM
  clear hb0 c l0
  have c := RVar.c (KR.out.of hb)
  clear hb
  go_wp2_with fail
  have T := Read_any d w2
  rw [HD.out] at T
  refine T.mono ?_
  clear T
  rintro e w3 ⟨vm, rfl, hbm, hn⟩
  have HM2 := Lib.hid hbm
  have HM1 := Lib.hid (HM.out.of hn)
  have hvm := hbm.shape
  replace hb2 := hb2.trans (hn.mono hb2.size)
  have k0 := K0.out.of hn
  clear hbm hn HM c K0
  obtain ⟨n6, a6, q6, e6, rfl⟩ := hvm
  have c : (w3.cell? ⟨w.heap.size + 1, 0, none⟩ = some (.bool false) ∧ w3.cell? ⟨w.heap.size + 1, 1, none⟩ = some (.slice none 0 0)) ∧ (w3.cell? ⟨w.heap.size + 1, 2, none⟩ = some (.bool false) ∧ w3.cell? ⟨w.heap.size + 1, 3, none⟩ = some (.slice none 0 0)) := ⟨⟨k0.cell 0, k0.cell 1⟩, k0.cell 2, k0.cell 3⟩
  have f : (w3.frozen? ⟨w.heap.size + 1, 0, none⟩ = false ∧ w3.frozen? ⟨w.heap.size + 1, 1, none⟩ = false) ∧ (w3.frozen? ⟨w.heap.size + 1, 2, none⟩ = false ∧ w3.frozen? ⟨w.heap.size + 1, 3, none⟩ = false) := ⟨⟨k0.free 0, k0.free 1⟩, k0.free 2, k0.free 3⟩
  have hc0 := k0.cell 0
  have HC := Lib.hid hc0
  have K0 := Lib.hid k0
  clear k0 hc0
  go_wp2
  refine post_world ?_
  intro Wf hWf
  have kf : Blk Wf (w.heap.size + 1) #[.bool n5, .slice a5 q5 e5, .bool n6, .slice a6 q6 e6] 35 := by rw [hWf]; exact (((Blk.put K0.out 0 _).put 1 _).put 2 _).put 3 _
  have hbf : Below w.heap.size w Wf := by rw [hWf]; exact below_set4 hb2 (Nat.le_succ _) _ _ _ _
  have h1 : Big Wf (.agg #[.bool n5, .slice a5 q5 e5]) n 18 := by rw [hWf]; exact HM1.out.set4 HC.out _ _ _ _
  have h2 : Big Wf (.agg #[.bool n6, .slice a6 q6 e6]) d 18 := by rw [hWf]; exact HM2.out.set4 HC.out _ _ _ _
  have c : (Wf.cell? ⟨w.heap.size + 1, 0, none⟩ = some (.bool n5) ∧ Wf.cell? ⟨w.heap.size + 1, 1, none⟩ = some (.slice a5 q5 e5)) ∧ (Wf.cell? ⟨w.heap.size + 1, 2, none⟩ = some (.bool n6) ∧ Wf.cell? ⟨w.heap.size + 1, 3, none⟩ = some (.slice a6 q6 e6)) := ⟨⟨kf.cell 0, kf.cell 1⟩, kf.cell 2, kf.cell 3⟩
  clear hWf
  simp [bodyPost, results, Try.results20, go_sem, c]
  exact ⟨_, rfl, ⟨n5, a5, q5, e5, n6, a6, q6, e6, rfl, h1, h2⟩, hbf⟩
end Go.Proofs.Ytgddpkopbiendaa
