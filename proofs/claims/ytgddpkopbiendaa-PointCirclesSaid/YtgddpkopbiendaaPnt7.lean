/- The walks of package point's Cmp, of gromalaw03's ref, of gromaref03's Right and Ahead. Conditions: none. -/
import Derived.Test.YtgddpkopbiendaaPnt6
namespace Go.Proofs.Ytgddpkopbiendaa
open Go.RowKit

/-- the first of two that is not 0 -/
def or2 (a b : Int) : Int := bif a == 0 then b else a
set_option maxRecDepth 100000 in
set_option maxHeartbeats 1000000 in
theorem Or2_any (a b : Int) (bl : Nat) (w : World) (c0 : w.cell? ⟨bl, 0, none⟩ = some (.int .i64 a)) (c1 : w.cell? ⟨bl, 1, none⟩ = some (.int .i64 b)) :
    Calls Try.prog 80 #[.slice (some ⟨bl, 0, none⟩) 2 2] w fun e w' => e = .returned (.int .i64 (or2 a b)) ∧ Below w.heap.size w w' := by
  obtain ⟨t, ht⟩ : ∃ t, or2 a b = t := ⟨_, rfl⟩
  rw [ht]
  unfold or2 at ht
  by_cases h0 : a = 0
  · subst h0
    have h1 : b = t := ht
    subst h1
    by_cases h2 : b = 0
    · subst h2
      go_enter Try.func80, Try.ntmps80
      go_wp2
      refine wp_loop_rounds 3 ?_
      iterate 3
        rw [rounds_succ]
        go_wp2
      go_ret
      exact ⟨rfl, Below.refl _ _⟩
    · go_enter Try.func80, Try.ntmps80
      go_wp2
      refine wp_loop_rounds 3 ?_
      iterate 2
        rw [rounds_succ]
        go_wp2
      go_ret
      exact ⟨rfl, Below.refl _ _⟩
  · have h3 : (a == 0) = false := by simpa using h0
    have h1 : a = t := by rw [h3] at ht; exact ht
    clear h3 ht
    subst h1
    go_enter Try.func80, Try.ntmps80
    go_wp2
    refine wp_loop_rounds 3 ?_
    rw [rounds_succ]
    go_wp2
    go_ret
    exact ⟨rfl, Below.refl _ _⟩
end Go.Proofs.Ytgddpkopbiendaa
