/- gromaref01's Add, joined. -/
import Derived.Test.YtcfiemeknocgjaaDoorBig5
namespace Go.Proofs.YtcfiemeknocgjaaDoor
open Go.RowKit
theorem GivesBig.mono {w : World} {n : Int} {L L' : Nat} (hl : L ≤ L') {e : Ending} {w' : World} (h : GivesBig w n L e w') : GivesBig w n L' e w' := by
  obtain ⟨v, h1, h2, h3⟩ := h
  exact ⟨v, h1, h2.mono hl, h3⟩
theorem bigAdd_any (v v' : Value) (n m : Int) (L : Nat) (w : World) (h : Big w v n L) (h' : Big w v' m L) (hL : L < 268435456) :
    Calls Tryd.prog 23 #[v, v'] w (GivesBig w (n + m) (L + 1)) := by
  obtain ⟨neg, ao, b, cap, ds, rfl, hs, hd, hn, hz, hv, hl⟩ := h
  obtain ⟨neg', ao', b', cap', ds', rfl, hs', hd', hn', hz', hv', hl'⟩ := h'
  by_cases hq : neg' = neg
  · subst hq
    refine (bigAdd_same neg' ao ao' b b' cap cap' ds ds' w hs hs' hd hd' (by omega) (by omega)).mono ?_
    intro e w2 hg
    have hx : n + m = (bif neg' then -(dval ds + dval ds') else dval ds + dval ds') := by
      rw [hv, hv']; cases neg' <;> simp <;> omega
    rw [hx]
    exact hg.mono (by omega)
  · have hq' : neg' = !neg := by cases neg <;> cases neg' <;> simp_all
    subst hq'
    by_cases hc : dval ds' ≤ dval ds
    · refine (bigAdd_ge neg ao ao' b b' cap cap' ds ds' w hs hs' hd hd' hn hn' hc (by omega) (by omega)).mono ?_
      intro e w2 hg
      have hx : n + m = (bif neg then -(dval ds - dval ds') else dval ds - dval ds') := by
        rw [hv, hv']; cases neg <;> simp <;> omega
      rw [hx]
      exact hg.mono (by omega)
    · refine (bigAdd_lt neg ao ao' b b' cap cap' ds ds' w hs hs' hd hd' hn hn' (by omega) (by omega) (by omega)).mono ?_
      intro e w2 hg
      have hx : n + m = (bif !neg then -(dval ds' - dval ds) else dval ds' - dval ds) := by
        rw [hv, hv']; cases neg <;> simp <;> omega
      rw [hx]
      exact hg.mono (by omega)
end Go.Proofs.YtcfiemeknocgjaaDoor
