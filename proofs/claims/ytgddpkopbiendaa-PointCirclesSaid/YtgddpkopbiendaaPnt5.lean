/- The walks of package point: between, On. Conditions: none. -/
import Derived.Test.YtgddpkopbiendaaPnt4
namespace Go.Proofs.Ytgddpkopbiendaa
open Go.RowKit

/-- does a number lie from one to another one? -/
def btw (a b n : Int) : Bool := decide (min a b ≤ n) && decide (n ≤ max a b)
set_option maxRecDepth 100000 in
set_option maxHeartbeats 1000000 in
theorem between_any (a b n : Int) (w : World) :
    Calls Try.prog 83 #[.int .i64 a, .int .i64 b, .int .i64 n] w fun e w' => e = .returned (.bool (btw a b n)) ∧ Below w.heap.size w w' := by
  obtain ⟨t, ht⟩ : ∃ t, btw a b n = t := ⟨_, rfl⟩
  rw [ht]
  have HT := Lib.hid ht
  clear ht
  by_cases h0 : a < b <;> by_cases h1 : a ≤ n <;> by_cases h2 : b ≤ n
  all_goals
    go_enter Try.func83, Try.ntmps83
    go_wp2
    all_goals
      go_ret
      refine ⟨congrArg (fun t => Ending.returned (.bool t)) ?_, Below.refl _ _⟩
      rw [← HT.out]; unfold btw; rw [Bool.eq_iff_iff]; simp; omega

/-- does one lie on a segment? -/
def onB (ax ay bx b_y px py : Int) : Bool := rp3 ax ay bx b_y px py && (trn ax ay bx b_y px py).sign == 0 && btw ax bx px && btw ay b_y py

set_option maxRecDepth 100000 in
set_option maxHeartbeats 1000000 in
theorem On_any (ax ay bx b_y cx cy : Int) (w : World) :
    Calls Try.prog 45 #[pI ax ay, pI bx b_y, pI cx cy] w fun e w' => e = .returned (.bool (onB ax ay bx b_y cx cy)) ∧ Below w.heap.size w w' := by
  unfold onB
  obtain ⟨g, hg⟩ : ∃ g, rp3 ax ay bx b_y cx cy = g := ⟨_, rfl⟩
  obtain ⟨s, hs⟩ : ∃ s : Int, (trn ax ay bx b_y cx cy).sign = s := ⟨_, rfl⟩
  obtain ⟨z, hz⟩ : ∃ z : Bool, (s == 0) = z := ⟨_, rfl⟩
  obtain ⟨x, hx⟩ : ∃ x : Bool, btw ax bx cx = x := ⟨_, rfl⟩
  obtain ⟨y, hy⟩ : ∃ y : Bool, btw ay b_y cy = y := ⟨_, rfl⟩
  rw [hg, hs, hz, hx, hy]
  have HG := Lib.hid hg
  have HS := Lib.hid hs
  have HX := Lib.hid hx
  have HY := Lib.hid hy
  clear hg hs hx hy
  go_enter Try.func45, Try.ntmps45
  go_wp2_with fail
  refine calls_w ?_
  intro W hW
  have ka : PVar W w.heap.size ax ay := by rw [hW]; exact (Blk.new w _ _).alloc _ |>.alloc _ |>.alloc _
  have kb : PVar W (w.heap.size + 1) bx b_y := by rw [hW]; exact (Blk.new1 w _ _ _).alloc _ |>.alloc _
  have kc : PVar W (w.heap.size + 1 + 1) cx cy := by rw [hW]; exact (Blk.new2 w _ _ _ _).alloc _
  have kl : Blk W (w.heap.size + 1 + 1 + 1) #[.int .i64 ax, .int .i64 ay, .int .i64 bx, .int .i64 b_y, .int .i64 cx, .int .i64 cy] 57 := by rw [hW]; exact Blk.new3 w _ _ _ _ _
  have hb0 : Below w.heap.size w W := by rw [hW]; exact (below_a3 _ _ _ _).alloc (by simp; omega) _
  clear hW
  refine (right3_is ax ay bx b_y cx cy g HG.out _ _ _ kl).mono ?_
  rintro e u1 ⟨rfl, hn⟩
  replace ka : PVar u1 _ _ _ := ka.of hn
  replace kb : PVar u1 _ _ _ := kb.of hn
  replace kc : PVar u1 _ _ _ := kc.of hn
  replace hb0 := hb0.trans (hn.mono hb0.size)
  clear hn kl
  have ca := PVar.c ka
  have cb := PVar.c kb
  have cc := PVar.c kc
  cases g
  · go_wp2
    go_ret
    exact ⟨rfl, hb0⟩
  · obtain ⟨h1, h2, h3, h4, h5, h6⟩ := rp3_co HG.out
    have HT := trn_bd h1 h2 h3 h4 h5 h6
    go_wp2_with fail
    refine (turn_any ax ay bx b_y cx cy h1 h2 h3 h4 h5 h6 _).mono ?_
    rintro e u2 ⟨rfl, hn⟩
    replace ka : PVar u2 _ _ _ := ka.of hn
    replace kb : PVar u2 _ _ _ := kb.of hn
    replace kc : PVar u2 _ _ _ := kc.of hn
    replace hb0 := hb0.trans (hn.mono hb0.size)
    clear hn ca cb cc
    go_wp2_with fail
    refine (Sign_is _ s HS.out _ (by unfold InI b255; omega)).mono ?_
    rintro e u3 ⟨rfl, hn⟩
    replace ka : PVar u3 _ _ _ := ka.of hn
    replace kb : PVar u3 _ _ _ := kb.of hn
    replace kc : PVar u3 _ _ _ := kc.of hn
    replace hb0 := hb0.trans (hn.mono hb0.size)
    have ca := PVar.c ka
    have cb := PVar.c kb
    have cc := PVar.c kc
    clear hn
    cases z
    · go_wp2
      go_ret
      exact ⟨rfl, hb0⟩
    · go_wp2_with fail
      refine (between_any ax bx cx _).mono ?_
      rintro e u4 ⟨rfl, hn⟩
      rw [HX.out]
      replace ka : PVar u4 _ _ _ := ka.of hn
      replace kb : PVar u4 _ _ _ := kb.of hn
      replace kc : PVar u4 _ _ _ := kc.of hn
      replace hb0 := hb0.trans (hn.mono hb0.size)
      clear ca cb cc
      have ca := PVar.c ka
      have cb := PVar.c kb
      have cc := PVar.c kc
      clear hn
      cases x
      · go_wp2
        go_ret
        exact ⟨rfl, hb0⟩
      · go_wp2_with fail
        refine (between_any ay b_y cy _).mono ?_
        rintro e u5 ⟨rfl, hn⟩
        rw [HY.out]
        replace hb0 := hb0.trans (hn.mono hb0.size)
        clear hn
        go_wp2
        go_ret
        exact ⟨by simp, hb0⟩
end Go.Proofs.Ytgddpkopbiendaa
