/- The walks of gromaref01: Minus, sizes, Cmp, Sign. Conditions: the numbers have fewer than 2^30 digits. -/
import Derived.Test.YtcfiemeknocgjaaDoorProg
import Derived.Test.YtcfiemeknocgjaaDoorRegG
import Derived.Test.YtcfiemeknocgjaaDoorBlk
import Derived.Test.YtcfiemeknocgjaaDoorDig
import Derived.Deep.QuietTactic
import Derived.BigQuiet
import Derived.BigRegion
import Derived.WalkSmall
import Derived.Lib.Hide
namespace Go.Proofs.YtcfiemeknocgjaaDoor
open Go.RowKit

/-- a slice of ints that holds these digits -/
structure Sl (w : World) (ao : Option Addr) (b : Nat) (cap : Nat) (ds : List Int) : Prop where
  ptr : 0 < ds.length → ao = some ⟨b, 0, none⟩
  nil : ao = none → cap = 0
  capl : ds.length ≤ cap
  len : ds.length < 1073741824
  capb : cap ≤ 9223372036854775807
  cell : ∀ i, i < ds.length → w.cell? ⟨b, i, none⟩ = some (.int .i64 (ds.getD i 0))
  blk : 0 < ds.length → b < w.heap.size
theorem Sl.of {w w' : World} {ao : Option Addr} {b cap : Nat} {ds : List Int} (h : Sl w ao b cap ds) (hb : Below w.heap.size w w') : Sl w' ao b cap ds :=
  ⟨h.ptr, h.nil, h.capl, h.len, h.capb, fun i hi => by rw [hb.cell (p := ⟨b, i, none⟩) (h.blk (by omega))]; exact h.cell i hi, fun hl => Nat.lt_of_lt_of_le (h.blk hl) hb.size⟩

/-- a Big that is the number n, of at most L digits -/
def Big (w : World) (v : Value) (n : Int) (L : Nat) : Prop :=
  ∃ (neg : Bool) (ao : Option Addr) (b cap : Nat) (ds : List Int), v = .agg #[.bool neg, .slice ao ds.length cap] ∧ Sl w ao b cap ds ∧ DigOk ds ∧ Norm ds ∧ (ds = [] → neg = false ∧ ao = none) ∧ n = (bif neg then -dval ds else dval ds) ∧ ds.length ≤ L
theorem Big.of {w w' : World} {v : Value} {n : Int} {L : Nat} (h : Big w v n L) (hb : Below w.heap.size w w') : Big w' v n L := by
  obtain ⟨neg, ao, b, cap, ds, h1, h2, h3⟩ := h
  exact ⟨neg, ao, b, cap, ds, h1, h2.of hb, h3⟩
theorem Big.drew {w : World} {v : Value} {n : Int} {L : Nat} (h : Big w v n L) : Big w.drew v n L := h.of (Below.refl _ _).drew
theorem Big.zero (w : World) (L : Nat) : Big w (.agg #[.bool false, .slice none 0 0]) 0 L :=
  ⟨false, none, 0, 0, [], rfl, ⟨fun h => absurd h (Nat.lt_irrefl 0), fun _ => rfl, Nat.le_refl _, by decide, by decide, fun i hi => absurd hi (Nat.not_lt_zero i), fun h => absurd h (Nat.lt_irrefl 0)⟩, DigOk.nil, .inl rfl, fun _ => ⟨rfl, rfl⟩, rfl, Nat.zero_le _⟩
theorem Big.mono {w : World} {v : Value} {n : Int} {L L' : Nat} (h : Big w v n L) (hl : L ≤ L') : Big w v n L' := by
  obtain ⟨neg, ao, b, cap, ds, h1, h2, h3, h4, h5, h6, h7⟩ := h
  exact ⟨neg, ao, b, cap, ds, h1, h2, h3, h4, h5, h6, Nat.le_trans h7 hl⟩


/-- it hands back some Big that is n -/
def GivesBig (w : World) (n : Int) (L : Nat) (e : Ending) (w' : World) : Prop := ∃ v, e = .returned v ∧ Big w' v n L ∧ Below w.heap.size w w'

set_option maxRecDepth 100000 in
theorem Minus_any (v : Value) (n : Int) (L : Nat) (w : World) (h : Big w v n L) : Calls Tryd.prog 18 #[v] w (GivesBig w (-n) L) := by
  obtain ⟨neg, ao, b, cap, ds, rfl, hs, hd, hn, hz, hv, hl⟩ := h
  by_cases h0 : ds = []
  · subst h0
    obtain ⟨rfl, rfl⟩ := hz rfl
    have hc := hs.nil rfl
    subst hc
    have HV := Lib.hid hv
    clear hv hz hn hd hs
    have hlen : ([] : List Int).length = 0 := rfl
    rw [hlen]
    clear hlen
    go_enter Tryd.func18, Tryd.ntmps18
    go_wp2
    simp [bodyPost, results, Tryd.results18, go_sem]
    refine ⟨_, rfl, ?_, ?_⟩
    · rw [HV.out]; exact Big.zero _ _
    · (repeat (first | exact Below.refl _ _ | refine below_drewN ?_ _ | refine Below.drew ?_ | refine Below.alloc ?_ (by simp) _ | refine Below.alloc ?_ (by simp; omega) _))
  · have hlp : 0 < ds.length := List.length_pos_iff.2 h0
    have hl0 : ((ds.length : Int) == 0) = false := by simp; omega
    have hlb := hs.len
    have HV := Lib.hid hv
    have HS := Lib.hid hs
    have HD := Lib.hid (And.intro hd (And.intro hn hl))
    clear hz hv hs hd hn hl
    go_enter Tryd.func18, Tryd.ntmps18
    go_wp2
    simp [bodyPost, results, Tryd.results18, go_sem]
    have hb : Below w.heap.size w ((w.alloc (Obj.cells #[Value.bool neg, Value.slice ao ds.length cap] 34)).alloc (Obj.cells #[Value.bool !neg, Value.slice ao ds.length cap] 34)) := by
      (repeat (first | exact Below.refl _ _ | refine below_drewN ?_ _ | refine Below.drew ?_ | refine Below.alloc ?_ (by simp) _ | refine Below.alloc ?_ (by simp; omega) _))
    exact ⟨_, rfl, ⟨!neg, ao, b, cap, ds, rfl, HS.out.of hb, HD.out.1, HD.out.2.1, fun h => absurd h h0, by rw [HV.out]; cases neg <;> simp, HD.out.2.2⟩, hb⟩

set_option maxRecDepth 100000 in
set_option maxHeartbeats 1000000 in
theorem sizes_any (ao bo : Option Addr) (b b' cap cap' : Nat) (xs ys : List Int) (w : World) (ha : Sl w ao b cap xs) (hb : Sl w bo b' cap' ys) (da : DigOk xs) (db : DigOk ys) (na : Norm xs) (nb : Norm ys) :
    Calls Tryd.prog 42 #[.slice ao xs.length cap, .slice bo ys.length cap'] w fun e w' => e = .returned (.int .i64 (cmpI (dval xs) (dval ys))) ∧ Below w.heap.size w w' := by
  have HA := Lib.hid ha
  have HB := Lib.hid hb
  have la := ha.len
  have lb := hb.len
  clear ha hb
  rcases Nat.lt_trichotomy xs.length ys.length with h | h | h
  · rw [cmpI_lt (len_lt da db nb h)]
    clear da db na nb
    go_enter Tryd.func42, Tryd.ntmps42
    go_wp2
    go_ret
    exact ⟨rfl, Below.refl _ _⟩
  · obtain ⟨n, hn⟩ : ∃ n, n = xs.length := ⟨_, rfl⟩
    have hn' : n = ys.length := hn.trans h
    have HN := Lib.hid hn
    have HN' := Lib.hid hn'
    have e1 : xs.length = n := hn.symm
    have e2 : ys.length = n := hn'.symm
    rw [e1, e2]
    rw [e1] at la
    clear e1 e2 hn hn' h lb
    have D := Lib.hid (And.intro da db)
    clear da db na nb
    go_enter Tryd.func42, Tryd.ntmps42
    go_wp2
    go_loopw [5] (fun i wr => ∃ k : Nat, k ≤ n ∧ i = .int .i64 ((k : Int) - 1) ∧ Hid (xs.drop k = ys.drop k) ∧ Below w.heap.size w wr) (fun i _ => (intOf i + 1).toNat)
    case atStart => exact ⟨n, Nat.le_refl _, rfl, (by rw [List.drop_eq_nil_of_le (by rw [HN.out]; exact Nat.le_refl _), List.drop_eq_nil_of_le (by rw [HN'.out]; exact Nat.le_refl _)] : xs.drop n = ys.drop n), Below.refl _ _⟩
    case round =>
      rename_i i0 wr
      obtain ⟨k, hk, rfl, hd, hbl⟩ := hrel
      cases k with
      | zero =>
        have e1 : ((0 : Nat) : Int) - 1 = -1 := by omega
        rw [e1]
        clear e1
        go_wp2
        go_ret
        have e : dval xs = dval ys := by have := hd.out; simp only [List.drop_zero] at this; rw [this]
        exact ⟨by rw [e, cmpI_eq]; rfl, hbl⟩
      | succ j =>
        have e1 : ((j + 1 : Nat) : Int) - 1 = (j : Int) := by omega
        rw [e1]
        clear e1
        have ja : j < xs.length := by rw [← HN.out]; omega
        have jb : j < ys.length := by rw [← HN'.out]; omega
        obtain rfl := HA.out.ptr (by omega)
        obtain rfl := HB.out.ptr (by omega)
        have ba := HA.out.blk (by omega)
        have bb := HB.out.blk (by omega)
        have c0 : wr.cell? ⟨b, j, none⟩ = some (.int .i64 (xs.getD j 0)) := by rw [hbl.cell (p := ⟨b, j, none⟩) ba]; exact HA.out.cell j ja
        have c1 : wr.cell? ⟨b', j, none⟩ = some (.int .i64 (ys.getD j 0)) := by rw [hbl.cell (p := ⟨b', j, none⟩) bb]; exact HB.out.cell j jb
        have JA := Lib.hid (And.intro ja (HN.out.symm.trans HN'.out))
        clear ja jb ba bb
        obtain ⟨x, hx⟩ : ∃ x, x = xs.getD j 0 := ⟨_, rfl⟩
        obtain ⟨y, hy⟩ : ∃ y, y = ys.getD j 0 := ⟨_, rfl⟩
        rw [← hx] at c0
        rw [← hy] at c1
        have HX := Lib.hid hx
        have HY := Lib.hid hy
        clear hx hy
        rcases Int.lt_trichotomy x y with hxy | hxy | hxy
        · go_wp2
          go_quiet (fail)
          go_wp2
          go_ret
          exact ⟨by rw [cmpI_lt (dig_lt D.out.1 D.out.2 JA.out.1 JA.out.2 hd.out (by rw [← HX.out, ← HY.out]; exact hxy))]; rfl, below_drewN hbl _⟩
        · subst hxy
          go_wp2
          go_quiet (fail)
          go_wp2
          go_quiet (fail)
          go_wp2
          go_roundw
          case rel => exact ⟨j, by omega, rfl, drop_eq JA.out.1 JA.out.2 hd.out (by rw [← HX.out, ← HY.out]), below_drewN hbl _⟩
          case measure => simp [intOf]
        · go_wp2
          go_quiet (fail)
          go_wp2
          go_quiet (fail)
          go_wp2
          go_ret
          exact ⟨by rw [cmpI_gt (dig_lt D.out.2 D.out.1 (by rw [← JA.out.2]; exact JA.out.1) JA.out.2.symm hd.out.symm (by rw [← HX.out, ← HY.out]; exact hxy))]; rfl, below_drewN (below_drewN hbl _) _⟩
  · have e : dval ys < dval xs := len_lt db da na h
    rw [cmpI_gt e]
    clear da db na nb e
    go_enter Tryd.func42, Tryd.ntmps42
    go_wp2
    go_ret
    exact ⟨rfl, Below.refl _ _⟩

theorem cmpI_neg (x y : Int) : cmpI (-y) (-x) = cmpI x y := by
  rcases Int.lt_trichotomy x y with h | h | h
  · rw [cmpI_lt h, cmpI_lt (by omega)]
  · subst h; rw [cmpI_eq, cmpI_eq]
  · rw [cmpI_gt h, cmpI_gt (by omega)]

set_option maxRecDepth 100000 in
set_option maxHeartbeats 1000000 in
theorem bigCmp_any (v v' : Value) (n m : Int) (L L' : Nat) (w : World) (h : Big w v n L) (h' : Big w v' m L') :
    Calls Tryd.prog 20 #[v, v'] w fun e w' => e = .returned (.int .i64 (cmpI n m)) ∧ Below w.heap.size w w' := by
  obtain ⟨neg, ao, b, cap, ds, rfl, hs, hd, hn, hz, hv, hl⟩ := h
  obtain ⟨neg', ao', b', cap', ds', rfl, hs', hd', hn', hz', hv', hl'⟩ := h'
  have HV := Lib.hid hv
  have HV' := Lib.hid hv'
  have HS := Lib.hid hs
  have HS' := Lib.hid hs'
  have HD := Lib.hid (And.intro hd (And.intro hn hz))
  have HD' := Lib.hid (And.intro hd' (And.intro hn' hz'))
  clear hz hv hs hd hn hl hz' hv' hs' hd' hn' hl'
  have b0 := (dval_bd HD.out.1).1
  have b0' := (dval_bd HD'.out.1).1
  have pos : neg = true → 0 < dval ds := fun hneg => by
    rcases Int.lt_or_eq_of_le b0 with h | h
    · exact h
    · have := (HD.out.2.2 (norm_zero HD.out.1 HD.out.2.1 h.symm)).1; rw [hneg] at this; cases this
  have pos' : neg' = true → 0 < dval ds' := fun hneg => by
    rcases Int.lt_or_eq_of_le b0' with h | h
    · exact h
    · have := (HD'.out.2.2 (norm_zero HD'.out.1 HD'.out.2.1 h.symm)).1; rw [hneg] at this; cases this
  have PO := Lib.hid pos
  have PO' := Lib.hid pos'
  clear pos pos' b0 b0'
  have bl2 : ∀ c1 c2 : Array Value, Below w.heap.size w ((w.alloc (.cells c1 34)).alloc (.cells c2 34)) := fun c1 c2 => ((Below.refl _ _).alloc (Nat.le_refl _) _).alloc (by simp) _
  have BL := Lib.hid bl2
  clear bl2
  cases neg <;> cases neg'
  · go_enter Tryd.func20, Tryd.ntmps20
    go_wp2_with fail
    refine (sizes_any ao ao' b b' cap cap' ds ds' _ (HS.out.of (BL.out _ _)) (HS'.out.of (BL.out _ _)) HD.out.1 HD'.out.1 HD.out.2.1 HD'.out.2.1).mono ?_
    rintro e w2 ⟨rfl, hn⟩
    go_wp2
    go_ret
    exact ⟨by rw [HV.out, HV'.out]; rfl, (BL.out _ _).trans (hn.mono (by simp; omega))⟩
  · go_enter Tryd.func20, Tryd.ntmps20
    go_wp2
    go_ret
    refine ⟨?_, BL.out _ _⟩
    have e : m < n := by
      have h1 := (dval_bd HD.out.1).1; have h2 := PO'.out (by trivial)
      rw [HV.out, HV'.out]; simp only [cond_true, cond_false]; omega
    rw [cmpI_gt e]; rfl
  · go_enter Tryd.func20, Tryd.ntmps20
    go_wp2
    go_ret
    refine ⟨?_, BL.out _ _⟩
    have e : n < m := by
      have h1 := (dval_bd HD'.out.1).1; have h2 := PO.out (by trivial)
      rw [HV.out, HV'.out]; simp only [cond_true, cond_false]; omega
    rw [cmpI_lt e]; rfl
  · go_enter Tryd.func20, Tryd.ntmps20
    go_wp2_with fail
    refine (sizes_any ao' ao b' b cap' cap ds' ds _ (HS'.out.of (BL.out _ _)) (HS.out.of (BL.out _ _)) HD'.out.1 HD.out.1 HD'.out.2.1 HD.out.2.1).mono ?_
    rintro e w2 ⟨rfl, hn⟩
    go_wp2
    go_ret
    exact ⟨by rw [HV.out, HV'.out]; simp only [cond_true, cmpI_neg]; rfl, (BL.out _ _).trans (hn.mono (by simp; omega))⟩

theorem cmpI_sign (x : Int) : cmpI x 0 = x.sign := by
  rcases Int.lt_trichotomy x 0 with h | h | h
  · rw [cmpI_lt h, Int.sign_eq_neg_one_of_neg h]
  · subst h; rw [cmpI_eq]; rfl
  · rw [cmpI_gt h, Int.sign_eq_one_of_pos h]

set_option maxRecDepth 100000 in
theorem bigSign_any (v : Value) (n : Int) (L : Nat) (w : World) (h : Big w v n L) :
    Calls Tryd.prog 17 #[v] w fun e w' => e = .returned (.int .i64 n.sign) ∧ Below w.heap.size w w' := by
  rw [← cmpI_sign]
  have HB := Lib.hid h
  obtain ⟨neg, ao, b, cap, ds, rfl, h⟩ := h
  clear h
  go_enter Tryd.func17, Tryd.ntmps17
  go_wp2_with fail
  refine (bigCmp_any _ _ n 0 L L _ (HB.out.of ((Below.refl _ _).alloc (Nat.le_refl _) _)) (Big.zero _ _)).mono ?_
  rintro e w2 ⟨rfl, hn⟩
  go_wp2
  go_ret
  exact ⟨rfl, ((Below.refl _ _).alloc (Nat.le_refl _) _).trans (hn.mono (by simp))⟩
end Go.Proofs.YtcfiemeknocgjaaDoor
