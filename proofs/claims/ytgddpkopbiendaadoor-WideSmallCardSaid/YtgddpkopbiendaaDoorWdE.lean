/- The walk of wide's Small, at the Door seat. Conditions: the number is a number of 256 bits. -/
import Derived.Test.YtgddpkopbiendaaDoorWdC
namespace Go.Proofs.YtgddpkopbiendaaDoor
open Go.RowKit

theorem i64_u64 {x : Int} (h0 : 0 ≤ x) (h1 : x < 18446744073709551616) : In64 (IntKind.i64.wrap x) ∧ wd0 (IntKind.i64.wrap x) = x := by
  rw [IntKind.wrap_i64]; unfold In64 wd0 b64; omega
instance (x : Int) : Decidable (In64 x) := by unfold In64; exact inferInstance
theorem small_eq {x : Int} (ix : InI x) (b : Bool) (h : decide (In64 x) = b) :
    In64 (IntKind.i64.wrap (wd0 x)) ∧ (bif b then IntKind.i64.wrap (wd0 x) = x else True) ∧ eq4 (wd0 (IntKind.i64.wrap (wd0 x))) (wd1 (IntKind.i64.wrap (wd0 x))) (wd2 (IntKind.i64.wrap (wd0 x))) (wd3 (IntKind.i64.wrap (wd0 x))) (wd0 x) (wd1 x) (wd2 x) (wd3 x) = b := by
  have hw := wd0_Wd x
  obtain ⟨h1, h2⟩ := i64_u64 hw.lo hw.hi
  obtain ⟨m, hm⟩ : ∃ m, m = IntKind.i64.wrap (wd0 x) := ⟨_, rfl⟩
  rw [← hm] at h1 h2 ⊢
  rw [eq4_wd]
  refine ⟨h1, ?_, ?_⟩
  · cases b
    · trivial
    · have h := of_decide_eq_true h
      show m = x
      unfold In64 wd0 b64 at *; omega
  · rw [← h, Bool.eq_iff_iff, decide_eq_true_iff, decide_eq_true_iff]
    constructor
    · intro e
      have : m = x := by unfold InI In64 b255 b256 at *; omega
      rw [← this]; exact h1
    · intro h
      have : m = x := by unfold In64 wd0 b64 at *; omega
      rw [this]

set_option maxRecDepth 100000 in
set_option maxHeartbeats 1000000 in
theorem Small_any (x : Int) (w : World) (ix : InI x) (b : Bool) (h : decide (In64 x) = b) :
    Calls Tryd.prog 26 #[wI x] w fun e w' => e = .returned (.tuple #[.int .i64 (bif b then x else 0), .bool b]) ∧ Below w.heap.size w w' := by
  obtain ⟨h1, h2, h3⟩ := small_eq ix b h
  obtain ⟨m, hm⟩ : ∃ m, IntKind.i64.wrap (wd0 x) = m := ⟨_, rfl⟩
  rw [hm] at h1 h2 h3
  have H2 := Lib.hid h2
  clear h2 h ix
  go_enter Tryd.func26, Tryd.ntmps26
  go_wp2_with fail
  clear hm
  refine name_world ?_
  intro W hW
  have kx : Var W w.heap.size x := by rw [hW]; exact Blk.new _ _ _
  have hb0 : Below w.heap.size w W := by rw [hW]; exact below_a1 _ _
  clear hW
  have c := Var.c kx
  have l0 := kx.lt
  clear kx
  refine wp_region_up W.heap.size 3 [(true, 0), (true, 2), (false, 1)] (by kernel_rfl) (by kernel_rfl) (fun _ _ d _ _ h => by cases d <;> exact h) ?_
  have hb : Below W.heap.size W W.drew := (Below.refl _ _).drew
  iterate 2
    refine wpS_takeL rfl rfl ?_
    go_big_quiet_step (rfl)
    refine wpQuiet_nil ?_
  refine wpS_doL rfl ?_
  intro K hK
  go_wp2_with ((go_at_call 25; refine (Of_any m _ h1).mono ?_; rintro e w2 ⟨rfl, hn⟩))
  replace hb := hb.trans (hn.mono hb.size)
  refine hK.out _ _ (up_iff.2 hb) ?_
  clear hK K
  clear hn
  refine wpS_nil ?_
  simp only [List.drop_succ_cons, List.drop_zero]
  have hb2 : Below w.heap.size w w2 := hb0.trans (hb.mono hb0.size)
  clear c l0 hb hb0
  cases b
  · go_wp2
    go_ret2
    exact ⟨rfl, hb2⟩
  · have H3 := H2.out
    rw [cond_true] at H3
    subst H3
    go_wp2
    go_ret2
    exact ⟨rfl, hb2⟩
end Go.Proofs.YtgddpkopbiendaaDoor
