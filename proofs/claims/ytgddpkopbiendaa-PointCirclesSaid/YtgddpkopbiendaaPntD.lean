/- The walks of gromaref03's Turn and Way. Conditions: Turn: the coordinates are right. -/
import Derived.Test.YtgddpkopbiendaaPntC
import Derived.Test.YtgddpkopbiendaaPntA
namespace Go.Proofs.Ytgddpkopbiendaa
open Go.RowKit

theorem rTurn_any (ax ay bx b_y cx cy : Int) (h1 : Co ax) (h2 : Co ay) (h3 : Co bx) (h4 : Co b_y) (h5 : Co cx) (h6 : Co cy) (w : World) :
    Calls Try.prog 49 #[pI ax ay, pI bx b_y, pI cx cy] w (GivesBig w (trn ax ay bx b_y cx cy) 11) := by
  refine rTurn_go ax ay bx b_y cx cy _ _ _ _ _ _ _ rfl rfl rfl rfl ?_ ?_ ?_ ?_ rfl rfl rfl w
  · have := co_sub h3 h1; unfold In64; omega
  · have := co_sub h6 h2; unfold In64; omega
  · have := co_sub h4 h2; unfold In64; omega
  · have := co_sub h5 h1; unfold In64; omega
/-- a variable that holds a point of the document's answer -/
abbrev QVar (w : World) (b : Nat) (x y : Int) : Prop := Blk w b (pC x y) 60
theorem QVar.c {w : World} {b : Nat} {x y : Int} (h : QVar w b x y) : w.cell? ⟨b, 0, none⟩ = some (.int .i64 x) ∧ w.cell? ⟨b, 1, none⟩ = some (.int .i64 y) := ⟨h.cell 0, h.cell 1⟩
theorem rR_is (x y : Int) (r : Bool) (h : rp x y = r) (w : World) : Calls Try.prog 44 #[pI x y] w fun e w' => e = .returned (.bool r) ∧ Below w.heap.size w w' := h ▸ rRight_any x y w
theorem bSign_is (v : Value) (n : Int) (L : Nat) (s : Int) (hs : n.sign = s) (w : World) (h : Big w v n L) :
    Calls Try.prog 28 #[v] w fun e w' => e = .returned (.int .i64 s) ∧ Below w.heap.size w w' := hs ▸ bigSign_any v n L w h

set_option maxRecDepth 100000 in
set_option maxHeartbeats 1000000 in
theorem Way_any (ax ay bx b_y cx cy : Int) (w : World) :
    Calls Try.prog 38 #[pI ax ay, pI bx b_y, pI cx cy] w fun e w' => e = .returned (.int .i64 (way ax ay bx b_y cx cy)) ∧ Below w.heap.size w w' := by
  unfold way rp3
  obtain ⟨x, hx⟩ : ∃ x, rp ax ay = x := ⟨_, rfl⟩
  obtain ⟨y, hy⟩ : ∃ y, rp bx b_y = y := ⟨_, rfl⟩
  obtain ⟨z, hz⟩ : ∃ z, rp cx cy = z := ⟨_, rfl⟩
  obtain ⟨s, hs⟩ : ∃ s, (trn ax ay bx b_y cx cy).sign = s := ⟨_, rfl⟩
  rw [hx, hy, hz, hs]
  have HX := Lib.hid hx
  have HY := Lib.hid hy
  have HZ := Lib.hid hz
  have HS := Lib.hid hs
  clear hx hy hz hs
  go_enter Try.func38, Try.ntmps38
  go_wp2_with fail
  first | refine calls_w ?_ | refine name_world ?_
  intro W hW
  have ka : QVar W (w.heap.size) ax ay := by rw [hW]; exact (Blk.new w _ _) |>.alloc _ |>.alloc _
  have kb : QVar W (w.heap.size + 1) bx b_y := by rw [hW]; exact (Blk.new1 w _ _ _) |>.alloc _
  have kc : QVar W (w.heap.size + 1 + 1) cx cy := by rw [hW]; exact (Blk.new2 w _ _ _ _)
  have hb0 : Below w.heap.size w W := by rw [hW]; exact below_a3 _ _ _ _
  clear hW
  refine (rR_is ax ay x HX.out _).mono ?_
  rintro e u1 ⟨rfl, hn⟩
  replace ka : QVar u1 _ _ _ := ka.of hn
  replace kb : QVar u1 _ _ _ := kb.of hn
  replace kc : QVar u1 _ _ _ := kc.of hn
  replace hb0 := hb0.trans (hn.mono hb0.size)
  clear hn 
  cases x
  · have ca := QVar.c ka
    have la := ka.lt
    have cb := QVar.c kb
    have lb := kb.lt
    have cc := QVar.c kc
    have lc := kc.lt
    go_wp2
    go_ret
    exact ⟨rfl, hb0⟩
  · have ca := QVar.c ka
    have la := ka.lt
    have cb := QVar.c kb
    have lb := kb.lt
    have cc := QVar.c kc
    have lc := kc.lt
    go_wp2_with fail
    clear ca la cb lb cc lc
    refine (rR_is bx b_y y HY.out _).mono ?_
    rintro e u2 ⟨rfl, hn⟩
    replace ka : QVar u2 _ _ _ := ka.of hn
    replace kb : QVar u2 _ _ _ := kb.of hn
    replace kc : QVar u2 _ _ _ := kc.of hn
    replace hb0 := hb0.trans (hn.mono hb0.size)
    clear hn 
    cases y
    · have ca := QVar.c ka
      have la := ka.lt
      have cb := QVar.c kb
      have lb := kb.lt
      have cc := QVar.c kc
      have lc := kc.lt
      go_wp2
      go_ret
      exact ⟨rfl, hb0⟩
    · have ca := QVar.c ka
      have la := ka.lt
      have cb := QVar.c kb
      have lb := kb.lt
      have cc := QVar.c kc
      have lc := kc.lt
      go_wp2_with fail
      clear ca la cb lb cc lc
      refine (rR_is cx cy z HZ.out _).mono ?_
      rintro e u3 ⟨rfl, hn⟩
      replace ka : QVar u3 _ _ _ := ka.of hn
      replace kb : QVar u3 _ _ _ := kb.of hn
      replace kc : QVar u3 _ _ _ := kc.of hn
      replace hb0 := hb0.trans (hn.mono hb0.size)
      clear hn 
      cases z
      · have ca := QVar.c ka
        have la := ka.lt
        have cb := QVar.c kb
        have lb := kb.lt
        have cc := QVar.c kc
        have lc := kc.lt
        go_wp2
        go_ret
        exact ⟨rfl, hb0⟩
      · have ca := QVar.c ka
        have la := ka.lt
        have cb := QVar.c kb
        have lb := kb.lt
        have cc := QVar.c kc
        have lc := kc.lt
        go_wp2_with fail
        clear ca la cb lb cc lc
        clear ka kb kc
        refine (rTurn_any ax ay bx b_y cx cy (rp_co HX.out).1 (rp_co HX.out).2 (rp_co HY.out).1 (rp_co HY.out).2 (rp_co HZ.out).1 (rp_co HZ.out).2 _).mono ?_
        rintro e u8 ⟨vm, rfl, hbm, hn⟩
        replace hb0 := hb0.trans (hn.mono hb0.size)
        have HM := Lib.hid hbm
        clear hn hbm
        go_wp2_with fail
        refine (bSign_is vm _ 11 s HS.out _ HM.out).mono ?_
        rintro e u9 ⟨rfl, hn⟩
        replace hb0 := hb0.trans (hn.mono hb0.size)
        clear hn
        go_wp2
        go_ret
        exact ⟨rfl, hb0⟩
end Go.Proofs.Ytgddpkopbiendaa
