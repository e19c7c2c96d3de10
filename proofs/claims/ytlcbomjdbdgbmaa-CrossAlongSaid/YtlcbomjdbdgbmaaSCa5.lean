/- My texts Cr9, AwE, AwL, joined: what the last one needs of them. Conditions: as each lemma says. -/
import Derived.Test.YtlcbomjdbdgbmaaSCa4
import Derived.KernelRfl
import Derived.StillTail
import Derived.OrdersHeld
import Derived.Deep.Quiet
import Derived.Below
import Derived.WalkKit
import Derived.Test.YtlcbomjdbdgbmaaProg
import Derived.WalkSpells
import Derived.StillTactics
import Derived.Laws.Pointers
import Derived.Deep.RegionHeld3
import Derived.RowKit3
import Derived.Deep.QuietTactic
import Derived.BigQuiet
import Derived.BigRegion
import Derived.Lib.Hide
import Derived.WalkSmall
import Derived.Laws.BitsAllLaws
import Derived.IntWalk
import Derived.Deep.OwnRows
import Derived.Deep.LoopGhost
import Derived.Shelf.Bits.Mul64
import Derived.ProofKit
import Derived.OpenShut
import Derived.ShutString
import Derived.ChangeOld
import Derived.Lib.SmallJoins
import Derived.Laws.IdiomArrays
namespace Go.Proofs.Ytlcbomjdbdgbmaa
open Go.RowKit

def mtk (ax : Int) (ay : Int) (bx : Int) (b_y : Int) (cx : Int) (cy : Int) (dx : Int) (dy : Int) : Int := (bif (sgR ax ay bx b_y) then (bif (sgR cx cy dx dy) then (bif (dotB ax ay bx b_y) then (bif (hldB cx cy dx dy (atx ax ay) (aty ax ay) (atw ax ay)) then 1 else (bif (dotB cx cy dx dy) then (bif (hldB ax ay bx b_y (atx cx cy) (aty cx cy) (atw cx cy)) then 1 else 0) else 0)) else (bif (dotB cx cy dx dy) then (bif (hldB ax ay bx b_y (atx cx cy) (aty cx cy) (atw cx cy)) then 1 else 0) else (bif ((slp ax ay bx b_y cx cy dx dy) == 0) then (bif ((way ax ay bx b_y cx cy) == 0) then (shk ax ay bx b_y cx cy dx dy) else 0) else (bif (spR (cgx ax ay bx b_y cx cy dx dy) (cgy ax ay bx b_y cx cy dx dy) (cgw ax ay bx b_y cx cy dx dy)) then (bif (hldB ax ay bx b_y (cgx ax ay bx b_y cx cy dx dy) (cgy ax ay bx b_y cx cy dx dy) (cgw ax ay bx b_y cx cy dx dy)) then (bif (hldB cx cy dx dy (cgx ax ay bx b_y cx cy dx dy) (cgy ax ay bx b_y cx cy dx dy) (cgw ax ay bx b_y cx cy dx dy)) then 1 else 0) else 0) else 0)))) else 0) else 0)

def mtx (ax : Int) (ay : Int) (bx : Int) (b_y : Int) (cx : Int) (cy : Int) (dx : Int) (dy : Int) : Int := (bif (sgR ax ay bx b_y) then (bif (sgR cx cy dx dy) then (bif (dotB ax ay bx b_y) then (bif (hldB cx cy dx dy (atx ax ay) (aty ax ay) (atw ax ay)) then (atx ax ay) else (bif (dotB cx cy dx dy) then (bif (hldB ax ay bx b_y (atx cx cy) (aty cx cy) (atw cx cy)) then (atx cx cy) else 0) else 0)) else (bif (dotB cx cy dx dy) then (bif (hldB ax ay bx b_y (atx cx cy) (aty cx cy) (atw cx cy)) then (atx cx cy) else 0) else (bif ((slp ax ay bx b_y cx cy dx dy) == 0) then (bif ((way ax ay bx b_y cx cy) == 0) then (shx ax ay bx b_y cx cy dx dy) else 0) else (bif (spR (cgx ax ay bx b_y cx cy dx dy) (cgy ax ay bx b_y cx cy dx dy) (cgw ax ay bx b_y cx cy dx dy)) then (bif (hldB ax ay bx b_y (cgx ax ay bx b_y cx cy dx dy) (cgy ax ay bx b_y cx cy dx dy) (cgw ax ay bx b_y cx cy dx dy)) then (bif (hldB cx cy dx dy (cgx ax ay bx b_y cx cy dx dy) (cgy ax ay bx b_y cx cy dx dy) (cgw ax ay bx b_y cx cy dx dy)) then (cgx ax ay bx b_y cx cy dx dy) else 0) else 0) else 0)))) else 0) else 0)

def mty (ax : Int) (ay : Int) (bx : Int) (b_y : Int) (cx : Int) (cy : Int) (dx : Int) (dy : Int) : Int := (bif (sgR ax ay bx b_y) then (bif (sgR cx cy dx dy) then (bif (dotB ax ay bx b_y) then (bif (hldB cx cy dx dy (atx ax ay) (aty ax ay) (atw ax ay)) then (aty ax ay) else (bif (dotB cx cy dx dy) then (bif (hldB ax ay bx b_y (atx cx cy) (aty cx cy) (atw cx cy)) then (aty cx cy) else 0) else 0)) else (bif (dotB cx cy dx dy) then (bif (hldB ax ay bx b_y (atx cx cy) (aty cx cy) (atw cx cy)) then (aty cx cy) else 0) else (bif ((slp ax ay bx b_y cx cy dx dy) == 0) then (bif ((way ax ay bx b_y cx cy) == 0) then (shy ax ay bx b_y cx cy dx dy) else 0) else (bif (spR (cgx ax ay bx b_y cx cy dx dy) (cgy ax ay bx b_y cx cy dx dy) (cgw ax ay bx b_y cx cy dx dy)) then (bif (hldB ax ay bx b_y (cgx ax ay bx b_y cx cy dx dy) (cgy ax ay bx b_y cx cy dx dy) (cgw ax ay bx b_y cx cy dx dy)) then (bif (hldB cx cy dx dy (cgx ax ay bx b_y cx cy dx dy) (cgy ax ay bx b_y cx cy dx dy) (cgw ax ay bx b_y cx cy dx dy)) then (cgy ax ay bx b_y cx cy dx dy) else 0) else 0) else 0)))) else 0) else 0)

def mtw (ax : Int) (ay : Int) (bx : Int) (b_y : Int) (cx : Int) (cy : Int) (dx : Int) (dy : Int) : Int := (bif (sgR ax ay bx b_y) then (bif (sgR cx cy dx dy) then (bif (dotB ax ay bx b_y) then (bif (hldB cx cy dx dy (atx ax ay) (aty ax ay) (atw ax ay)) then (atw ax ay) else (bif (dotB cx cy dx dy) then (bif (hldB ax ay bx b_y (atx cx cy) (aty cx cy) (atw cx cy)) then (atw cx cy) else 0) else 0)) else (bif (dotB cx cy dx dy) then (bif (hldB ax ay bx b_y (atx cx cy) (aty cx cy) (atw cx cy)) then (atw cx cy) else 0) else (bif ((slp ax ay bx b_y cx cy dx dy) == 0) then (bif ((way ax ay bx b_y cx cy) == 0) then (shw ax ay bx b_y cx cy dx dy) else 0) else (bif (spR (cgx ax ay bx b_y cx cy dx dy) (cgy ax ay bx b_y cx cy dx dy) (cgw ax ay bx b_y cx cy dx dy)) then (bif (hldB ax ay bx b_y (cgx ax ay bx b_y cx cy dx dy) (cgy ax ay bx b_y cx cy dx dy) (cgw ax ay bx b_y cx cy dx dy)) then (bif (hldB cx cy dx dy (cgx ax ay bx b_y cx cy dx dy) (cgy ax ay bx b_y cx cy dx dy) (cgw ax ay bx b_y cx cy dx dy)) then (cgw ax ay bx b_y cx cy dx dy) else 0) else 0) else 0)))) else 0) else 0)

theorem mtx_in (ax : Int) (ay : Int) (bx : Int) (b_y : Int) (cx : Int) (cy : Int) (dx : Int) (dy : Int) (_iax : In64 ax) (_iay : In64 ay) (_ibx : In64 bx) (_ib_y : In64 b_y) (_icx : In64 cx) (_icy : In64 cy) (_idx : In64 dx) (_idy : In64 dy) : InI (mtx ax ay bx b_y cx cy dx dy) := by
  unfold mtx
  exact (cond_in (cond_in (cond_in (cond_in (atx_in ax ay _iax _iay) (cond_in (cond_in (atx_in cx cy _icx _icy) in_0) in_0)) (cond_in (cond_in (atx_in cx cy _icx _icy) in_0) (cond_in (cond_in (shx_in ax ay bx b_y cx cy dx dy _iax _iay _ibx _ib_y _icx _icy _idx _idy) in_0) (cond_in (cond_in (cond_in (cgx_in ax ay bx b_y cx cy dx dy _iax _iay _ibx _ib_y _icx _icy _idx _idy) in_0) in_0) in_0)))) in_0) in_0)

theorem mty_in (ax : Int) (ay : Int) (bx : Int) (b_y : Int) (cx : Int) (cy : Int) (dx : Int) (dy : Int) (_iax : In64 ax) (_iay : In64 ay) (_ibx : In64 bx) (_ib_y : In64 b_y) (_icx : In64 cx) (_icy : In64 cy) (_idx : In64 dx) (_idy : In64 dy) : InI (mty ax ay bx b_y cx cy dx dy) := by
  unfold mty
  exact (cond_in (cond_in (cond_in (cond_in (aty_in ax ay _iax _iay) (cond_in (cond_in (aty_in cx cy _icx _icy) in_0) in_0)) (cond_in (cond_in (aty_in cx cy _icx _icy) in_0) (cond_in (cond_in (shy_in ax ay bx b_y cx cy dx dy _iax _iay _ibx _ib_y _icx _icy _idx _idy) in_0) (cond_in (cond_in (cond_in (cgy_in ax ay bx b_y cx cy dx dy _iax _iay _ibx _ib_y _icx _icy _idx _idy) in_0) in_0) in_0)))) in_0) in_0)

theorem mtw_in (ax : Int) (ay : Int) (bx : Int) (b_y : Int) (cx : Int) (cy : Int) (dx : Int) (dy : Int) (_iax : In64 ax) (_iay : In64 ay) (_ibx : In64 bx) (_ib_y : In64 b_y) (_icx : In64 cx) (_icy : In64 cy) (_idx : In64 dx) (_idy : In64 dy) : InI (mtw ax ay bx b_y cx cy dx dy) := by
  unfold mtw
  exact (cond_in (cond_in (cond_in (cond_in (atw_in ax ay _iax _iay) (cond_in (cond_in (atw_in cx cy _icx _icy) in_0) in_0)) (cond_in (cond_in (atw_in cx cy _icx _icy) in_0) (cond_in (cond_in (shw_in ax ay bx b_y cx cy dx dy _iax _iay _ibx _ib_y _icx _icy _idx _idy) in_0) (cond_in (cond_in (cond_in (cgw_in ax ay bx b_y cx cy dx dy _iax _iay _ibx _ib_y _icx _icy _idx _idy) in_0) in_0) in_0)))) in_0) in_0)

set_option maxRecDepth 100000 in
set_option maxHeartbeats 4000000 in

theorem Meet_is (ax : Int) (ay : Int) (bx : Int) (b_y : Int) (cx : Int) (cy : Int) (dx : Int) (dy : Int)  (R0 : Int) (R1 : Int) (R2 : Int) (R3 : Int) (hR0 : mtk ax ay bx b_y cx cy dx dy = R0) (hR1 : mtx ax ay bx b_y cx cy dx dy = R1) (hR2 : mty ax ay bx b_y cx cy dx dy = R2) (hR3 : mtw ax ay bx b_y cx cy dx dy = R3) (_iax : In64 ax) (_iay : In64 ay) (_ibx : In64 bx) (_ib_y : In64 b_y) (_icx : In64 cx) (_icy : In64 cy) (_idx : In64 dx) (_idy : In64 dy)  (w : World)  :
    Calls Try.prog 49 #[.agg #[.int .i64 ax, .int .i64 ay, .int .i64 bx, .int .i64 b_y], .agg #[.int .i64 cx, .int .i64 cy, .int .i64 dx, .int .i64 dy]] w fun e w' => e = .returned (.tuple #[.int .i64 R0, .agg #[.int .u64 (wd0 R1), .int .u64 (wd1 R1), .int .u64 (wd2 R1), .int .u64 (wd3 R1), .int .u64 (wd0 R2), .int .u64 (wd1 R2), .int .u64 (wd2 R2), .int .u64 (wd3 R2), .int .u64 (wd0 R3), .int .u64 (wd1 R3), .int .u64 (wd2 R3), .int .u64 (wd3 R3)]]) ∧ Below w.heap.size w w' := by

  have HR0 := Lib.hid hR0
  clear hR0
  have HR1 := Lib.hid hR1
  clear hR1
  have HR2 := Lib.hid hR2
  clear hR2
  have HR3 := Lib.hid hR3
  clear hR3
  go_enter Try.func49, Try.ntmps49
  go_wp2_with fail
  first | refine calls_w ?_ | refine name_world ?_ | refine list_world ?_ | refine post_world ?_
  intro V1 hV1
  have hn : Below w.heap.size w V1 := by rw [hV1]; exact below_a3 _ _ _ _
  have nhb0 := hn
  have k1 : Blk V1 w.heap.size #[.int .i64 ax, .int .i64 ay, .int .i64 bx, .int .i64 b_y] 50 := by rw [hV1]; exact (((Blk.new _ _ _).alloc _).alloc _)
  have k2 : Blk V1 (w.heap.size + 1) #[.int .i64 cx, .int .i64 cy, .int .i64 dx, .int .i64 dy] 50 := by rw [hV1]; exact ((Blk.new1 _ _ _ _).alloc _)
  have k3 : Blk V1 (w.heap.size + 1 + 1) #[.int .u64 0, .int .u64 0, .int .u64 0, .int .u64 0, .int .u64 0, .int .u64 0, .int .u64 0, .int .u64 0, .int .u64 0, .int .u64 0, .int .u64 0, .int .u64 0] 67 := by rw [hV1]; exact (Blk.new2 _ _ _ _ _)
  clear hV1
  have hb0 := nhb0
  clear nhb0
  obtain ⟨z1, hz1⟩ : ∃ o_o : Bool, sgR ax ay bx b_y = o_o := ⟨_, rfl⟩
  have Hz1 := Lib.hid hz1
  clear hz1
  refine (SegRight_is ax ay bx b_y z1 Hz1.out _iax _iay _ibx _ib_y  _).mono ?_
  rintro e U2 ⟨rfl, hn⟩
  replace k1 := k1.of hn
  replace k2 := k2.of hn
  replace k3 := k3.of hn
  replace hb0 := hb0.trans (hn.mono hb0.size)
  clear hn
  cases z1
  · have c3_0 : U2.cell? ⟨(w.heap.size + 1 + 1), 0, none⟩ = some (.int .u64 0) := k3.cell 0
    have c3_1 : U2.cell? ⟨(w.heap.size + 1 + 1), 1, none⟩ = some (.int .u64 0) := k3.cell 1
    have c3_2 : U2.cell? ⟨(w.heap.size + 1 + 1), 2, none⟩ = some (.int .u64 0) := k3.cell 2
    have c3_3 : U2.cell? ⟨(w.heap.size + 1 + 1), 3, none⟩ = some (.int .u64 0) := k3.cell 3
    have c3_4 : U2.cell? ⟨(w.heap.size + 1 + 1), 4, none⟩ = some (.int .u64 0) := k3.cell 4
    have c3_5 : U2.cell? ⟨(w.heap.size + 1 + 1), 5, none⟩ = some (.int .u64 0) := k3.cell 5
    have c3_6 : U2.cell? ⟨(w.heap.size + 1 + 1), 6, none⟩ = some (.int .u64 0) := k3.cell 6
    have c3_7 : U2.cell? ⟨(w.heap.size + 1 + 1), 7, none⟩ = some (.int .u64 0) := k3.cell 7
    have c3_8 : U2.cell? ⟨(w.heap.size + 1 + 1), 8, none⟩ = some (.int .u64 0) := k3.cell 8
    have c3_9 : U2.cell? ⟨(w.heap.size + 1 + 1), 9, none⟩ = some (.int .u64 0) := k3.cell 9
    have c3_10 : U2.cell? ⟨(w.heap.size + 1 + 1), 10, none⟩ = some (.int .u64 0) := k3.cell 10
    have c3_11 : U2.cell? ⟨(w.heap.size + 1 + 1), 11, none⟩ = some (.int .u64 0) := k3.cell 11
    have f3_0 := k3.free 0
    have f3_1 := k3.free 1
    have f3_2 := k3.free 2
    have f3_3 := k3.free 3
    have f3_4 := k3.free 4
    have f3_5 := k3.free 5
    have f3_6 := k3.free 6
    have f3_7 := k3.free 7
    have f3_8 := k3.free 8
    have f3_9 := k3.free 9
    have f3_10 := k3.free 10
    have f3_11 := k3.free 11
    have l3 := k3.lt
    have e0 : 0 = R0 := by rw [← HR0.out]; unfold mtk; (try rw [Hz1.out]); all_goals rfl
    have e1 : 0 = R1 := by rw [← HR1.out]; unfold mtx; (try rw [Hz1.out]); all_goals rfl
    have e2 : 0 = R2 := by rw [← HR2.out]; unfold mty; (try rw [Hz1.out]); all_goals rfl
    have e3 : 0 = R3 := by rw [← HR3.out]; unfold mtw; (try rw [Hz1.out]); all_goals rfl
    subst e0
    subst e1
    subst e2
    subst e3
    go_wp2
    clear c3_0 c3_1 c3_2 c3_3 c3_4 c3_5 c3_6 c3_7 c3_8 c3_9 c3_10 c3_11 f3_0 f3_1 f3_2 f3_3 f3_4 f3_5 f3_6 f3_7 f3_8 f3_9 f3_10 f3_11 l3
    first | refine post_world ?_
    intro V3 hV3
    have D1 := Lib.hid k1.lt
    have D2 := Lib.hid k2.lt
    have D3 := Lib.hid k3.lt
    have D4 := Lib.hid hb0.size
    clear k1 k2
    have nk3 : Blk V3 (w.heap.size + 1 + 1) #[.int .u64 0, .int .u64 0, .int .u64 0, .int .u64 0, .int .u64 0, .int .u64 0, .int .u64 0, .int .u64 0, .int .u64 0, .int .u64 0, .int .u64 0, .int .u64 0] 67 := by rw [hV3]; exact (blk_full _ [.int .u64 0, .int .u64 0, .int .u64 0, .int .u64 0, .int .u64 0, .int .u64 0, .int .u64 0, .int .u64 0, .int .u64 0, .int .u64 0, .int .u64 0, .int .u64 0] k3 rfl)
    have nhb0 : Below w.heap.size w V3 := by rw [hV3]; exact (blw_setL hb0 (by omega) 0 [.int .u64 0, .int .u64 0, .int .u64 0, .int .u64 0, .int .u64 0, .int .u64 0, .int .u64 0, .int .u64 0, .int .u64 0, .int .u64 0, .int .u64 0, .int .u64 0])
    clear k3
    clear hb0
    clear hV3
    have k3 := nk3
    clear nk3
    have hb0 := nhb0
    clear nhb0
    have g3_0 : V3.cell? ⟨(w.heap.size + 1 + 1), 0, none⟩ = some (.int .u64 0) := k3.cell 0
    have g3_1 : V3.cell? ⟨(w.heap.size + 1 + 1), 1, none⟩ = some (.int .u64 0) := k3.cell 1
    have g3_2 : V3.cell? ⟨(w.heap.size + 1 + 1), 2, none⟩ = some (.int .u64 0) := k3.cell 2
    have g3_3 : V3.cell? ⟨(w.heap.size + 1 + 1), 3, none⟩ = some (.int .u64 0) := k3.cell 3
    have g3_4 : V3.cell? ⟨(w.heap.size + 1 + 1), 4, none⟩ = some (.int .u64 0) := k3.cell 4
    have g3_5 : V3.cell? ⟨(w.heap.size + 1 + 1), 5, none⟩ = some (.int .u64 0) := k3.cell 5
    have g3_6 : V3.cell? ⟨(w.heap.size + 1 + 1), 6, none⟩ = some (.int .u64 0) := k3.cell 6
    have g3_7 : V3.cell? ⟨(w.heap.size + 1 + 1), 7, none⟩ = some (.int .u64 0) := k3.cell 7
    have g3_8 : V3.cell? ⟨(w.heap.size + 1 + 1), 8, none⟩ = some (.int .u64 0) := k3.cell 8
    have g3_9 : V3.cell? ⟨(w.heap.size + 1 + 1), 9, none⟩ = some (.int .u64 0) := k3.cell 9
    have g3_10 : V3.cell? ⟨(w.heap.size + 1 + 1), 10, none⟩ = some (.int .u64 0) := k3.cell 10
    have g3_11 : V3.cell? ⟨(w.heap.size + 1 + 1), 11, none⟩ = some (.int .u64 0) := k3.cell 11
    clear k3
    simp [bodyPost, results, Try.results49, go_sem, g3_0, g3_1, g3_2, g3_3, g3_4, g3_5, g3_6, g3_7, g3_8, g3_9, g3_10, g3_11, wd0_0, wd1_0, wd2_0, wd3_0]
    first | exact hb0 | exact ⟨rfl, hb0⟩
  · have c2_0 : U2.cell? ⟨(w.heap.size + 1), 0, none⟩ = some (.int .i64 cx) := k2.cell 0
    have c2_1 : U2.cell? ⟨(w.heap.size + 1), 1, none⟩ = some (.int .i64 cy) := k2.cell 1
    have c2_2 : U2.cell? ⟨(w.heap.size + 1), 2, none⟩ = some (.int .i64 dx) := k2.cell 2
    have c2_3 : U2.cell? ⟨(w.heap.size + 1), 3, none⟩ = some (.int .i64 dy) := k2.cell 3
    have l2 := k2.lt
    go_wp2_with fail
    clear c2_0 c2_1 c2_2 c2_3 l2
    obtain ⟨z2, hz2⟩ : ∃ o_o : Bool, sgR cx cy dx dy = o_o := ⟨_, rfl⟩
    have Hz2 := Lib.hid hz2
    clear hz2
    refine (SegRight_is cx cy dx dy z2 Hz2.out _icx _icy _idx _idy  _).mono ?_
    rintro e U4 ⟨rfl, hn⟩
    replace k1 := k1.of hn
    replace k2 := k2.of hn
    replace k3 := k3.of hn
    replace hb0 := hb0.trans (hn.mono hb0.size)
    clear hn
    cases z2
    · have c3_0 : U4.cell? ⟨(w.heap.size + 1 + 1), 0, none⟩ = some (.int .u64 0) := k3.cell 0
      have c3_1 : U4.cell? ⟨(w.heap.size + 1 + 1), 1, none⟩ = some (.int .u64 0) := k3.cell 1
      have c3_2 : U4.cell? ⟨(w.heap.size + 1 + 1), 2, none⟩ = some (.int .u64 0) := k3.cell 2
      have c3_3 : U4.cell? ⟨(w.heap.size + 1 + 1), 3, none⟩ = some (.int .u64 0) := k3.cell 3
      have c3_4 : U4.cell? ⟨(w.heap.size + 1 + 1), 4, none⟩ = some (.int .u64 0) := k3.cell 4
      have c3_5 : U4.cell? ⟨(w.heap.size + 1 + 1), 5, none⟩ = some (.int .u64 0) := k3.cell 5
      have c3_6 : U4.cell? ⟨(w.heap.size + 1 + 1), 6, none⟩ = some (.int .u64 0) := k3.cell 6
      have c3_7 : U4.cell? ⟨(w.heap.size + 1 + 1), 7, none⟩ = some (.int .u64 0) := k3.cell 7
      have c3_8 : U4.cell? ⟨(w.heap.size + 1 + 1), 8, none⟩ = some (.int .u64 0) := k3.cell 8
      have c3_9 : U4.cell? ⟨(w.heap.size + 1 + 1), 9, none⟩ = some (.int .u64 0) := k3.cell 9
      have c3_10 : U4.cell? ⟨(w.heap.size + 1 + 1), 10, none⟩ = some (.int .u64 0) := k3.cell 10
      have c3_11 : U4.cell? ⟨(w.heap.size + 1 + 1), 11, none⟩ = some (.int .u64 0) := k3.cell 11
      have f3_0 := k3.free 0
      have f3_1 := k3.free 1
      have f3_2 := k3.free 2
      have f3_3 := k3.free 3
      have f3_4 := k3.free 4
      have f3_5 := k3.free 5
      have f3_6 := k3.free 6
      have f3_7 := k3.free 7
      have f3_8 := k3.free 8
      have f3_9 := k3.free 9
      have f3_10 := k3.free 10
      have f3_11 := k3.free 11
      have l3 := k3.lt
      have e0 : 0 = R0 := by rw [← HR0.out]; unfold mtk; (try rw [Hz1.out]); (try rw [Hz2.out]); all_goals rfl
      have e1 : 0 = R1 := by rw [← HR1.out]; unfold mtx; (try rw [Hz1.out]); (try rw [Hz2.out]); all_goals rfl
      have e2 : 0 = R2 := by rw [← HR2.out]; unfold mty; (try rw [Hz1.out]); (try rw [Hz2.out]); all_goals rfl
      have e3 : 0 = R3 := by rw [← HR3.out]; unfold mtw; (try rw [Hz1.out]); (try rw [Hz2.out]); all_goals rfl
      subst e0
      subst e1
      subst e2
      subst e3
      go_wp2
      clear c3_0 c3_1 c3_2 c3_3 c3_4 c3_5 c3_6 c3_7 c3_8 c3_9 c3_10 c3_11 f3_0 f3_1 f3_2 f3_3 f3_4 f3_5 f3_6 f3_7 f3_8 f3_9 f3_10 f3_11 l3
      first | refine post_world ?_
      intro V5 hV5
      have D5 := Lib.hid k1.lt
      have D6 := Lib.hid k2.lt
      have D7 := Lib.hid k3.lt
      have D8 := Lib.hid hb0.size
      clear k1 k2
      have nk3 : Blk V5 (w.heap.size + 1 + 1) #[.int .u64 0, .int .u64 0, .int .u64 0, .int .u64 0, .int .u64 0, .int .u64 0, .int .u64 0, .int .u64 0, .int .u64 0, .int .u64 0, .int .u64 0, .int .u64 0] 67 := by rw [hV5]; exact (blk_full _ [.int .u64 0, .int .u64 0, .int .u64 0, .int .u64 0, .int .u64 0, .int .u64 0, .int .u64 0, .int .u64 0, .int .u64 0, .int .u64 0, .int .u64 0, .int .u64 0] k3 rfl)
      have nhb0 : Below w.heap.size w V5 := by rw [hV5]; exact (blw_setL hb0 (by omega) 0 [.int .u64 0, .int .u64 0, .int .u64 0, .int .u64 0, .int .u64 0, .int .u64 0, .int .u64 0, .int .u64 0, .int .u64 0, .int .u64 0, .int .u64 0, .int .u64 0])
      clear k3
      clear hb0
      clear hV5
      have k3 := nk3
      clear nk3
      have hb0 := nhb0
      clear nhb0
      have g3_0 : V5.cell? ⟨(w.heap.size + 1 + 1), 0, none⟩ = some (.int .u64 0) := k3.cell 0
      have g3_1 : V5.cell? ⟨(w.heap.size + 1 + 1), 1, none⟩ = some (.int .u64 0) := k3.cell 1
      have g3_2 : V5.cell? ⟨(w.heap.size + 1 + 1), 2, none⟩ = some (.int .u64 0) := k3.cell 2
      have g3_3 : V5.cell? ⟨(w.heap.size + 1 + 1), 3, none⟩ = some (.int .u64 0) := k3.cell 3
      have g3_4 : V5.cell? ⟨(w.heap.size + 1 + 1), 4, none⟩ = some (.int .u64 0) := k3.cell 4
      have g3_5 : V5.cell? ⟨(w.heap.size + 1 + 1), 5, none⟩ = some (.int .u64 0) := k3.cell 5
      have g3_6 : V5.cell? ⟨(w.heap.size + 1 + 1), 6, none⟩ = some (.int .u64 0) := k3.cell 6
      have g3_7 : V5.cell? ⟨(w.heap.size + 1 + 1), 7, none⟩ = some (.int .u64 0) := k3.cell 7
      have g3_8 : V5.cell? ⟨(w.heap.size + 1 + 1), 8, none⟩ = some (.int .u64 0) := k3.cell 8
      have g3_9 : V5.cell? ⟨(w.heap.size + 1 + 1), 9, none⟩ = some (.int .u64 0) := k3.cell 9
      have g3_10 : V5.cell? ⟨(w.heap.size + 1 + 1), 10, none⟩ = some (.int .u64 0) := k3.cell 10
      have g3_11 : V5.cell? ⟨(w.heap.size + 1 + 1), 11, none⟩ = some (.int .u64 0) := k3.cell 11
      clear k3
      simp [bodyPost, results, Try.results49, go_sem, g3_0, g3_1, g3_2, g3_3, g3_4, g3_5, g3_6, g3_7, g3_8, g3_9, g3_10, g3_11, wd0_0, wd1_0, wd2_0, wd3_0]
      first | exact hb0 | exact ⟨rfl, hb0⟩
    · go_wp2_with fail
      obtain ⟨z3, hz3⟩ : ∃ o_o : Bool, dotB ax ay bx b_y = o_o := ⟨_, rfl⟩
      have Hz3 := Lib.hid hz3
      clear hz3
      cases z3
      · have c1_0 : U4.cell? ⟨w.heap.size, 0, none⟩ = some (.int .i64 ax) := k1.cell 0
        have c1_1 : U4.cell? ⟨w.heap.size, 1, none⟩ = some (.int .i64 ay) := k1.cell 1
        have c1_2 : U4.cell? ⟨w.heap.size, 2, none⟩ = some (.int .i64 bx) := k1.cell 2
        have c1_3 : U4.cell? ⟨w.heap.size, 3, none⟩ = some (.int .i64 b_y) := k1.cell 3
        have l1 := k1.lt
        have Kk1 := Lib.hid k1
        clear k1
        have Kk2 := Lib.hid k2
        clear k2
        have Kk3 := Lib.hid k3
        clear k3
        refine wp_region_up U4.heap.size 7 [(true, 0), (false, 1), (true, 2), (true, 3), (true, 4), (true, 5), (false, 6)] (by kernel_rfl) (by kernel_rfl) (fun _ _ d _ _ h => by cases d <;> exact h) ?_
        have hb : Below U4.heap.size U4 U4.drew := (Below.refl _ _).drew
        refine wpS_takeL rfl rfl ?_
        go_big_quiet_step (rfl)
        refine wpQuiet_nil ?_
        refine wpS_doL rfl ?_
        intro K hK
        go_wp2_with ((go_at_call 101; (with_reducible refine (dot_is ax ay bx b_y false Hz3.out _iax _iay _ibx _ib_y  _).mono ?_); rintro e w2 ⟨rfl, hn⟩))
        replace hb := hb.trans (hn.mono hb.size)
        refine hK.out _ _ (up_iff.2 hb) ?_
        clear hK K
        clear hn
        iterate 4
          refine wpS_takeL rfl rfl ?_
          go_big_quiet_step (rfl)
          refine wpQuiet_nil ?_
        refine wpS_doL rfl ?_
        intro K hK
        go_wp2_with ((go_at_call 101; (with_reducible refine (dot_is ax ay bx b_y false Hz3.out _iax _iay _ibx _ib_y  _).mono ?_); rintro e w2 ⟨rfl, hn⟩))
        try replace hb := hb.trans (hn.mono hb.size)
        refine hK.out _ _ (up_iff.2 hb) ?_
        clear hK K
        try clear hn
        refine wpS_nil ?_
        simp only [List.drop_succ_cons, List.drop_zero]
        first | refine calls_w ?_ | refine name_world ?_ | refine list_world ?_ | refine post_world ?_
        intro U6 hU6
        first | subst hU6 | (rw [← hU6] at hb; clear hU6)
        clear c1_0 c1_1 c1_2 c1_3 l1
        have k1 := Kk1.out.of hb
        clear Kk1
        have k2 := Kk2.out.of hb
        clear Kk2
        have k3 := Kk3.out.of hb
        clear Kk3
        replace hb0 := hb0.trans (hb.mono hb0.size)
        clear hb
        go_wp2_with fail
        obtain ⟨z4, hz4⟩ : ∃ o_o : Bool, dotB cx cy dx dy = o_o := ⟨_, rfl⟩
        have Hz4 := Lib.hid hz4
        clear hz4
        cases z4
        · have c2_0 : U6.cell? ⟨(w.heap.size + 1), 0, none⟩ = some (.int .i64 cx) := k2.cell 0
          have c2_1 : U6.cell? ⟨(w.heap.size + 1), 1, none⟩ = some (.int .i64 cy) := k2.cell 1
          have c2_2 : U6.cell? ⟨(w.heap.size + 1), 2, none⟩ = some (.int .i64 dx) := k2.cell 2
          have c2_3 : U6.cell? ⟨(w.heap.size + 1), 3, none⟩ = some (.int .i64 dy) := k2.cell 3
          have l2 := k2.lt
          have Kk1 := Lib.hid k1
          clear k1
          have Kk2 := Lib.hid k2
          clear k2
          have Kk3 := Lib.hid k3
          clear k3
          refine wp_region_up U6.heap.size 7 [(true, 0), (false, 1), (true, 2), (true, 3), (true, 4), (true, 5), (false, 6)] (by kernel_rfl) (by kernel_rfl) (fun _ _ d _ _ h => by cases d <;> exact h) ?_
          have hb : Below U6.heap.size U6 U6.drew := (Below.refl _ _).drew
          refine wpS_takeL rfl rfl ?_
          go_big_quiet_step (rfl)
          refine wpQuiet_nil ?_
          refine wpS_doL rfl ?_
          intro K hK
          go_wp2_with ((go_at_call 101; (with_reducible refine (dot_is cx cy dx dy false Hz4.out _icx _icy _idx _idy  _).mono ?_); rintro e w2 ⟨rfl, hn⟩))
          replace hb := hb.trans (hn.mono hb.size)
          refine hK.out _ _ (up_iff.2 hb) ?_
          clear hK K
          clear hn
          iterate 4
            refine wpS_takeL rfl rfl ?_
            go_big_quiet_step (rfl)
            refine wpQuiet_nil ?_
          refine wpS_doL rfl ?_
          intro K hK
          go_wp2_with ((go_at_call 101; (with_reducible refine (dot_is cx cy dx dy false Hz4.out _icx _icy _idx _idy  _).mono ?_); rintro e w2 ⟨rfl, hn⟩))
          try replace hb := hb.trans (hn.mono hb.size)
          refine hK.out _ _ (up_iff.2 hb) ?_
          clear hK K
          try clear hn
          refine wpS_nil ?_
          simp only [List.drop_succ_cons, List.drop_zero]
          first | refine calls_w ?_ | refine name_world ?_ | refine list_world ?_ | refine post_world ?_
          intro U7 hU7
          first | subst hU7 | (rw [← hU7] at hb; clear hU7)
          clear c2_0 c2_1 c2_2 c2_3 l2
          have k1 := Kk1.out.of hb
          clear Kk1
          have k2 := Kk2.out.of hb
          clear Kk2
          have k3 := Kk3.out.of hb
          clear Kk3
          replace hb0 := hb0.trans (hb.mono hb0.size)
          clear hb
          have c1_0 : U7.cell? ⟨w.heap.size, 0, none⟩ = some (.int .i64 ax) := k1.cell 0
          have c1_1 : U7.cell? ⟨w.heap.size, 1, none⟩ = some (.int .i64 ay) := k1.cell 1
          have c1_2 : U7.cell? ⟨w.heap.size, 2, none⟩ = some (.int .i64 bx) := k1.cell 2
          have c1_3 : U7.cell? ⟨w.heap.size, 3, none⟩ = some (.int .i64 b_y) := k1.cell 3
          have l1 := k1.lt
          go_wp2_with fail
          clear c1_0 c1_1 c1_2 c1_3 l1
          refine (dot_is ax ay bx b_y false Hz3.out _iax _iay _ibx _ib_y  _).mono ?_
          rintro e U8 ⟨rfl, hn⟩
          replace k1 := k1.of hn
          replace k2 := k2.of hn
          replace k3 := k3.of hn
          replace hb0 := hb0.trans (hn.mono hb0.size)
          clear hn
          have c2_0 : U8.cell? ⟨(w.heap.size + 1), 0, none⟩ = some (.int .i64 cx) := k2.cell 0
          have c2_1 : U8.cell? ⟨(w.heap.size + 1), 1, none⟩ = some (.int .i64 cy) := k2.cell 1
          have c2_2 : U8.cell? ⟨(w.heap.size + 1), 2, none⟩ = some (.int .i64 dx) := k2.cell 2
          have c2_3 : U8.cell? ⟨(w.heap.size + 1), 3, none⟩ = some (.int .i64 dy) := k2.cell 3
          have l2 := k2.lt
          go_wp2_with fail
          clear c2_0 c2_1 c2_2 c2_3 l2
          refine (dot_is cx cy dx dy false Hz4.out _icx _icy _idx _idy  _).mono ?_
          rintro e U9 ⟨rfl, hn⟩
          replace k1 := k1.of hn
          replace k2 := k2.of hn
          replace k3 := k3.of hn
          replace hb0 := hb0.trans (hn.mono hb0.size)
          clear hn
          have c1_0 : U9.cell? ⟨w.heap.size, 0, none⟩ = some (.int .i64 ax) := k1.cell 0
          have c1_1 : U9.cell? ⟨w.heap.size, 1, none⟩ = some (.int .i64 ay) := k1.cell 1
          have c1_2 : U9.cell? ⟨w.heap.size, 2, none⟩ = some (.int .i64 bx) := k1.cell 2
          have c1_3 : U9.cell? ⟨w.heap.size, 3, none⟩ = some (.int .i64 b_y) := k1.cell 3
          have l1 := k1.lt
          have c2_0 : U9.cell? ⟨(w.heap.size + 1), 0, none⟩ = some (.int .i64 cx) := k2.cell 0
          have c2_1 : U9.cell? ⟨(w.heap.size + 1), 1, none⟩ = some (.int .i64 cy) := k2.cell 1
          have c2_2 : U9.cell? ⟨(w.heap.size + 1), 2, none⟩ = some (.int .i64 dx) := k2.cell 2
          have c2_3 : U9.cell? ⟨(w.heap.size + 1), 3, none⟩ = some (.int .i64 dy) := k2.cell 3
          have l2 := k2.lt
          go_wp2_with fail
          clear c1_0 c1_1 c1_2 c1_3 l1 c2_0 c2_1 c2_2 c2_3 l2
          obtain ⟨r5, hr5⟩ : ∃ o_o : Int, slp ax ay bx b_y cx cy dx dy = o_o := ⟨_, rfl⟩
          have Hr5 := Lib.hid hr5
          clear hr5
          refine (Slope_is ax ay bx b_y cx cy dx dy r5 Hr5.out _iax _iay _ibx _ib_y _icx _icy _idx _idy  _).mono ?_
          rintro e U10 ⟨rfl, hn⟩
          replace k1 := k1.of hn
          replace k2 := k2.of hn
          replace k3 := k3.of hn
          replace hb0 := hb0.trans (hn.mono hb0.size)
          clear hn
          obtain ⟨z6, hz6⟩ : ∃ o_o : Bool, (r5 == 0) = o_o := ⟨_, rfl⟩
          cases z6
          · have nz6 : ¬ r5 = 0 := by simpa using hz6
            have c1_0 : U10.cell? ⟨w.heap.size, 0, none⟩ = some (.int .i64 ax) := k1.cell 0
            have c1_1 : U10.cell? ⟨w.heap.size, 1, none⟩ = some (.int .i64 ay) := k1.cell 1
            have c1_2 : U10.cell? ⟨w.heap.size, 2, none⟩ = some (.int .i64 bx) := k1.cell 2
            have c1_3 : U10.cell? ⟨w.heap.size, 3, none⟩ = some (.int .i64 b_y) := k1.cell 3
            have l1 := k1.lt
            have c2_0 : U10.cell? ⟨(w.heap.size + 1), 0, none⟩ = some (.int .i64 cx) := k2.cell 0
            have c2_1 : U10.cell? ⟨(w.heap.size + 1), 1, none⟩ = some (.int .i64 cy) := k2.cell 1
            have c2_2 : U10.cell? ⟨(w.heap.size + 1), 2, none⟩ = some (.int .i64 dx) := k2.cell 2
            have c2_3 : U10.cell? ⟨(w.heap.size + 1), 3, none⟩ = some (.int .i64 dy) := k2.cell 3
            have l2 := k2.lt
            go_wp2_with fail
            clear c1_0 c1_1 c1_2 c1_3 l1 c2_0 c2_1 c2_2 c2_3 l2
            refine (Slope_is ax ay bx b_y cx cy dx dy r5 Hr5.out _iax _iay _ibx _ib_y _icx _icy _idx _idy  _).mono ?_
            rintro e U11 ⟨rfl, hn⟩
            replace k1 := k1.of hn
            replace k2 := k2.of hn
            replace k3 := k3.of hn
            replace hb0 := hb0.trans (hn.mono hb0.size)
            clear hn
            have c1_0 : U11.cell? ⟨w.heap.size, 0, none⟩ = some (.int .i64 ax) := k1.cell 0
            have c1_1 : U11.cell? ⟨w.heap.size, 1, none⟩ = some (.int .i64 ay) := k1.cell 1
            have c1_2 : U11.cell? ⟨w.heap.size, 2, none⟩ = some (.int .i64 bx) := k1.cell 2
            have c1_3 : U11.cell? ⟨w.heap.size, 3, none⟩ = some (.int .i64 b_y) := k1.cell 3
            have l1 := k1.lt
            have c2_0 : U11.cell? ⟨(w.heap.size + 1), 0, none⟩ = some (.int .i64 cx) := k2.cell 0
            have c2_1 : U11.cell? ⟨(w.heap.size + 1), 1, none⟩ = some (.int .i64 cy) := k2.cell 1
            have c2_2 : U11.cell? ⟨(w.heap.size + 1), 2, none⟩ = some (.int .i64 dx) := k2.cell 2
            have c2_3 : U11.cell? ⟨(w.heap.size + 1), 3, none⟩ = some (.int .i64 dy) := k2.cell 3
            have l2 := k2.lt
            go_wp2_with fail
            clear c1_0 c1_1 c1_2 c1_3 l1 c2_0 c2_1 c2_2 c2_3 l2
            obtain ⟨r7, hr7⟩ : ∃ o_o : Int, cgx ax ay bx b_y cx cy dx dy = o_o := ⟨_, rfl⟩
            have Hr7 := Lib.hid hr7
            clear hr7
            obtain ⟨r8, hr8⟩ : ∃ o_o : Int, cgy ax ay bx b_y cx cy dx dy = o_o := ⟨_, rfl⟩
            have Hr8 := Lib.hid hr8
            clear hr8
            obtain ⟨r9, hr9⟩ : ∃ o_o : Int, cgw ax ay bx b_y cx cy dx dy = o_o := ⟨_, rfl⟩
            have Hr9 := Lib.hid hr9
            clear hr9
            refine (crossing_is ax ay bx b_y cx cy dx dy r7 r8 r9 Hr7.out Hr8.out Hr9.out _iax _iay _ibx _ib_y _icx _icy _idx _idy  _).mono ?_
            rintro e U12 ⟨rfl, hn⟩
            replace k1 := k1.of hn
            replace k2 := k2.of hn
            replace k3 := k3.of hn
            replace hb0 := hb0.trans (hn.mono hb0.size)
            clear hn
            go_wp2_with fail
            first | refine calls_w ?_ | refine name_world ?_ | refine list_world ?_ | refine post_world ?_
            intro V13 hV13
            have D9 := Lib.hid k1.lt
            have D10 := Lib.hid k2.lt
            have D11 := Lib.hid k3.lt
            have D12 := Lib.hid hb0.size
            have hn : Below U12.heap.size U12 V13 := by rw [hV13]; exact below_a1 _ _
            have nk1 := k1.of hn
            have nk2 := k2.of hn
            have nk3 := k3.of hn
            have nhb0 := hb0.trans (hn.mono hb0.size)
            clear hn
            have k4 : Blk V13 U12.heap.size #[.int .u64 (wd0 r7), .int .u64 (wd1 r7), .int .u64 (wd2 r7), .int .u64 (wd3 r7), .int .u64 (wd0 r8), .int .u64 (wd1 r8), .int .u64 (wd2 r8), .int .u64 (wd3 r8), .int .u64 (wd0 r9), .int .u64 (wd1 r9), .int .u64 (wd2 r9), .int .u64 (wd3 r9)] 67 := by rw [hV13]; exact (Blk.new _ _ _)
            clear k1 k2 k3
            clear hb0
            clear hV13
            have k1 := nk1
            clear nk1
            have k2 := nk2
            clear nk2
            have k3 := nk3
            clear nk3
            have hb0 := nhb0
            clear nhb0
            obtain ⟨z10, hz10⟩ : ∃ o_o : Bool, spR r7 r8 r9 = o_o := ⟨_, rfl⟩
            have Hz10 := Lib.hid hz10
            clear hz10
            refine (SpRight_is r7 r8 r9 z10 Hz10.out (Hr7.out ▸ cgx_in ax ay bx b_y cx cy dx dy _iax _iay _ibx _ib_y _icx _icy _idx _idy) (Hr8.out ▸ cgy_in ax ay bx b_y cx cy dx dy _iax _iay _ibx _ib_y _icx _icy _idx _idy) (Hr9.out ▸ cgw_in ax ay bx b_y cx cy dx dy _iax _iay _ibx _ib_y _icx _icy _idx _idy)  _).mono ?_
            rintro e U14 ⟨rfl, hn⟩
            replace k1 := k1.of hn
            replace k2 := k2.of hn
            replace k3 := k3.of hn
            replace k4 := k4.of hn
            replace hb0 := hb0.trans (hn.mono hb0.size)
            clear hn
            cases z10
            · have c3_0 : U14.cell? ⟨(w.heap.size + 1 + 1), 0, none⟩ = some (.int .u64 0) := k3.cell 0
              have c3_1 : U14.cell? ⟨(w.heap.size + 1 + 1), 1, none⟩ = some (.int .u64 0) := k3.cell 1
              have c3_2 : U14.cell? ⟨(w.heap.size + 1 + 1), 2, none⟩ = some (.int .u64 0) := k3.cell 2
              have c3_3 : U14.cell? ⟨(w.heap.size + 1 + 1), 3, none⟩ = some (.int .u64 0) := k3.cell 3
              have c3_4 : U14.cell? ⟨(w.heap.size + 1 + 1), 4, none⟩ = some (.int .u64 0) := k3.cell 4
              have c3_5 : U14.cell? ⟨(w.heap.size + 1 + 1), 5, none⟩ = some (.int .u64 0) := k3.cell 5
              have c3_6 : U14.cell? ⟨(w.heap.size + 1 + 1), 6, none⟩ = some (.int .u64 0) := k3.cell 6
              have c3_7 : U14.cell? ⟨(w.heap.size + 1 + 1), 7, none⟩ = some (.int .u64 0) := k3.cell 7
              have c3_8 : U14.cell? ⟨(w.heap.size + 1 + 1), 8, none⟩ = some (.int .u64 0) := k3.cell 8
              have c3_9 : U14.cell? ⟨(w.heap.size + 1 + 1), 9, none⟩ = some (.int .u64 0) := k3.cell 9
              have c3_10 : U14.cell? ⟨(w.heap.size + 1 + 1), 10, none⟩ = some (.int .u64 0) := k3.cell 10
              have c3_11 : U14.cell? ⟨(w.heap.size + 1 + 1), 11, none⟩ = some (.int .u64 0) := k3.cell 11
              have f3_0 := k3.free 0
              have f3_1 := k3.free 1
              have f3_2 := k3.free 2
              have f3_3 := k3.free 3
              have f3_4 := k3.free 4
              have f3_5 := k3.free 5
              have f3_6 := k3.free 6
              have f3_7 := k3.free 7
              have f3_8 := k3.free 8
              have f3_9 := k3.free 9
              have f3_10 := k3.free 10
              have f3_11 := k3.free 11
              have l3 := k3.lt
              have e0 : 0 = R0 := by rw [← HR0.out]; unfold mtk; (try rw [Hz1.out]); (try rw [Hz2.out]); (try rw [Hz3.out]); (try rw [Hz4.out]); (try rw [Hr5.out]); (try rw [hz6]); (try rw [Hr7.out]); (try rw [Hr8.out]); (try rw [Hr9.out]); (try rw [Hz10.out]); all_goals rfl
              have e1 : 0 = R1 := by rw [← HR1.out]; unfold mtx; (try rw [Hz1.out]); (try rw [Hz2.out]); (try rw [Hz3.out]); (try rw [Hz4.out]); (try rw [Hr5.out]); (try rw [hz6]); (try rw [Hr7.out]); (try rw [Hr8.out]); (try rw [Hr9.out]); (try rw [Hz10.out]); all_goals rfl
              have e2 : 0 = R2 := by rw [← HR2.out]; unfold mty; (try rw [Hz1.out]); (try rw [Hz2.out]); (try rw [Hz3.out]); (try rw [Hz4.out]); (try rw [Hr5.out]); (try rw [hz6]); (try rw [Hr7.out]); (try rw [Hr8.out]); (try rw [Hr9.out]); (try rw [Hz10.out]); all_goals rfl
              have e3 : 0 = R3 := by rw [← HR3.out]; unfold mtw; (try rw [Hz1.out]); (try rw [Hz2.out]); (try rw [Hz3.out]); (try rw [Hz4.out]); (try rw [Hr5.out]); (try rw [hz6]); (try rw [Hr7.out]); (try rw [Hr8.out]); (try rw [Hr9.out]); (try rw [Hz10.out]); all_goals rfl
              subst e0
              subst e1
              subst e2
              subst e3
              go_wp2
              clear c3_0 c3_1 c3_2 c3_3 c3_4 c3_5 c3_6 c3_7 c3_8 c3_9 c3_10 c3_11 f3_0 f3_1 f3_2 f3_3 f3_4 f3_5 f3_6 f3_7 f3_8 f3_9 f3_10 f3_11 l3
              first | refine post_world ?_
              intro V15 hV15
              clear k1 k2
              have D13 := Lib.hid k3.lt
              have D14 := Lib.hid k4.lt
              have D15 := Lib.hid hb0.size
              clear k4
              have nk3 : Blk V15 (w.heap.size + 1 + 1) #[.int .u64 0, .int .u64 0, .int .u64 0, .int .u64 0, .int .u64 0, .int .u64 0, .int .u64 0, .int .u64 0, .int .u64 0, .int .u64 0, .int .u64 0, .int .u64 0] 67 := by rw [hV15]; exact (blk_full _ [.int .u64 0, .int .u64 0, .int .u64 0, .int .u64 0, .int .u64 0, .int .u64 0, .int .u64 0, .int .u64 0, .int .u64 0, .int .u64 0, .int .u64 0, .int .u64 0] k3 rfl)
              have nhb0 : Below w.heap.size w V15 := by rw [hV15]; exact (blw_setL hb0 (by omega) 0 [.int .u64 0, .int .u64 0, .int .u64 0, .int .u64 0, .int .u64 0, .int .u64 0, .int .u64 0, .int .u64 0, .int .u64 0, .int .u64 0, .int .u64 0, .int .u64 0])
              clear k3
              clear hb0
              clear hV15
              have k3 := nk3
              clear nk3
              have hb0 := nhb0
              clear nhb0
              have g3_0 : V15.cell? ⟨(w.heap.size + 1 + 1), 0, none⟩ = some (.int .u64 0) := k3.cell 0
              have g3_1 : V15.cell? ⟨(w.heap.size + 1 + 1), 1, none⟩ = some (.int .u64 0) := k3.cell 1
              have g3_2 : V15.cell? ⟨(w.heap.size + 1 + 1), 2, none⟩ = some (.int .u64 0) := k3.cell 2
              have g3_3 : V15.cell? ⟨(w.heap.size + 1 + 1), 3, none⟩ = some (.int .u64 0) := k3.cell 3
              have g3_4 : V15.cell? ⟨(w.heap.size + 1 + 1), 4, none⟩ = some (.int .u64 0) := k3.cell 4
              have g3_5 : V15.cell? ⟨(w.heap.size + 1 + 1), 5, none⟩ = some (.int .u64 0) := k3.cell 5
              have g3_6 : V15.cell? ⟨(w.heap.size + 1 + 1), 6, none⟩ = some (.int .u64 0) := k3.cell 6
              have g3_7 : V15.cell? ⟨(w.heap.size + 1 + 1), 7, none⟩ = some (.int .u64 0) := k3.cell 7
              have g3_8 : V15.cell? ⟨(w.heap.size + 1 + 1), 8, none⟩ = some (.int .u64 0) := k3.cell 8
              have g3_9 : V15.cell? ⟨(w.heap.size + 1 + 1), 9, none⟩ = some (.int .u64 0) := k3.cell 9
              have g3_10 : V15.cell? ⟨(w.heap.size + 1 + 1), 10, none⟩ = some (.int .u64 0) := k3.cell 10
              have g3_11 : V15.cell? ⟨(w.heap.size + 1 + 1), 11, none⟩ = some (.int .u64 0) := k3.cell 11
              clear k3
              simp [bodyPost, results, Try.results49, go_sem, g3_0, g3_1, g3_2, g3_3, g3_4, g3_5, g3_6, g3_7, g3_8, g3_9, g3_10, g3_11, wd0_0, wd1_0, wd2_0, wd3_0]
              first | exact hb0 | exact ⟨rfl, hb0⟩
            · have c1_0 : U14.cell? ⟨w.heap.size, 0, none⟩ = some (.int .i64 ax) := k1.cell 0
              have c1_1 : U14.cell? ⟨w.heap.size, 1, none⟩ = some (.int .i64 ay) := k1.cell 1
              have c1_2 : U14.cell? ⟨w.heap.size, 2, none⟩ = some (.int .i64 bx) := k1.cell 2
              have c1_3 : U14.cell? ⟨w.heap.size, 3, none⟩ = some (.int .i64 b_y) := k1.cell 3
              have l1 := k1.lt
              have c4_0 : U14.cell? ⟨U12.heap.size, 0, none⟩ = some (.int .u64 (wd0 r7)) := k4.cell 0
              have c4_1 : U14.cell? ⟨U12.heap.size, 1, none⟩ = some (.int .u64 (wd1 r7)) := k4.cell 1
              have c4_2 : U14.cell? ⟨U12.heap.size, 2, none⟩ = some (.int .u64 (wd2 r7)) := k4.cell 2
              have c4_3 : U14.cell? ⟨U12.heap.size, 3, none⟩ = some (.int .u64 (wd3 r7)) := k4.cell 3
              have c4_4 : U14.cell? ⟨U12.heap.size, 4, none⟩ = some (.int .u64 (wd0 r8)) := k4.cell 4
              have c4_5 : U14.cell? ⟨U12.heap.size, 5, none⟩ = some (.int .u64 (wd1 r8)) := k4.cell 5
              have c4_6 : U14.cell? ⟨U12.heap.size, 6, none⟩ = some (.int .u64 (wd2 r8)) := k4.cell 6
              have c4_7 : U14.cell? ⟨U12.heap.size, 7, none⟩ = some (.int .u64 (wd3 r8)) := k4.cell 7
              have c4_8 : U14.cell? ⟨U12.heap.size, 8, none⟩ = some (.int .u64 (wd0 r9)) := k4.cell 8
              have c4_9 : U14.cell? ⟨U12.heap.size, 9, none⟩ = some (.int .u64 (wd1 r9)) := k4.cell 9
              have c4_10 : U14.cell? ⟨U12.heap.size, 10, none⟩ = some (.int .u64 (wd2 r9)) := k4.cell 10
              have c4_11 : U14.cell? ⟨U12.heap.size, 11, none⟩ = some (.int .u64 (wd3 r9)) := k4.cell 11
              have l4 := k4.lt
              go_wp2_with fail
              clear c1_0 c1_1 c1_2 c1_3 l1 c4_0 c4_1 c4_2 c4_3 c4_4 c4_5 c4_6 c4_7 c4_8 c4_9 c4_10 c4_11 l4
              obtain ⟨z11, hz11⟩ : ∃ o_o : Bool, hldB ax ay bx b_y r7 r8 r9 = o_o := ⟨_, rfl⟩
              have Hz11 := Lib.hid hz11
              clear hz11
              refine (SegHolds_is ax ay bx b_y r7 r8 r9 z11 Hz11.out _iax _iay _ibx _ib_y (Hr7.out ▸ cgx_in ax ay bx b_y cx cy dx dy _iax _iay _ibx _ib_y _icx _icy _idx _idy) (Hr8.out ▸ cgy_in ax ay bx b_y cx cy dx dy _iax _iay _ibx _ib_y _icx _icy _idx _idy) (Hr9.out ▸ cgw_in ax ay bx b_y cx cy dx dy _iax _iay _ibx _ib_y _icx _icy _idx _idy)  _).mono ?_
              rintro e U16 ⟨rfl, hn⟩
              clear k1
              replace k2 := k2.of hn
              replace k3 := k3.of hn
              replace k4 := k4.of hn
              replace hb0 := hb0.trans (hn.mono hb0.size)
              clear hn
              cases z11
              · have c3_0 : U16.cell? ⟨(w.heap.size + 1 + 1), 0, none⟩ = some (.int .u64 0) := k3.cell 0
                have c3_1 : U16.cell? ⟨(w.heap.size + 1 + 1), 1, none⟩ = some (.int .u64 0) := k3.cell 1
                have c3_2 : U16.cell? ⟨(w.heap.size + 1 + 1), 2, none⟩ = some (.int .u64 0) := k3.cell 2
                have c3_3 : U16.cell? ⟨(w.heap.size + 1 + 1), 3, none⟩ = some (.int .u64 0) := k3.cell 3
                have c3_4 : U16.cell? ⟨(w.heap.size + 1 + 1), 4, none⟩ = some (.int .u64 0) := k3.cell 4
                have c3_5 : U16.cell? ⟨(w.heap.size + 1 + 1), 5, none⟩ = some (.int .u64 0) := k3.cell 5
                have c3_6 : U16.cell? ⟨(w.heap.size + 1 + 1), 6, none⟩ = some (.int .u64 0) := k3.cell 6
                have c3_7 : U16.cell? ⟨(w.heap.size + 1 + 1), 7, none⟩ = some (.int .u64 0) := k3.cell 7
                have c3_8 : U16.cell? ⟨(w.heap.size + 1 + 1), 8, none⟩ = some (.int .u64 0) := k3.cell 8
                have c3_9 : U16.cell? ⟨(w.heap.size + 1 + 1), 9, none⟩ = some (.int .u64 0) := k3.cell 9
                have c3_10 : U16.cell? ⟨(w.heap.size + 1 + 1), 10, none⟩ = some (.int .u64 0) := k3.cell 10
                have c3_11 : U16.cell? ⟨(w.heap.size + 1 + 1), 11, none⟩ = some (.int .u64 0) := k3.cell 11
                have f3_0 := k3.free 0
                have f3_1 := k3.free 1
                have f3_2 := k3.free 2
                have f3_3 := k3.free 3
                have f3_4 := k3.free 4
                have f3_5 := k3.free 5
                have f3_6 := k3.free 6
                have f3_7 := k3.free 7
                have f3_8 := k3.free 8
                have f3_9 := k3.free 9
                have f3_10 := k3.free 10
                have f3_11 := k3.free 11
                have l3 := k3.lt
                have e0 : 0 = R0 := by rw [← HR0.out]; unfold mtk; (try rw [Hz1.out]); (try rw [Hz2.out]); (try rw [Hz3.out]); (try rw [Hz4.out]); (try rw [Hr5.out]); (try rw [hz6]); (try rw [Hr7.out]); (try rw [Hr8.out]); (try rw [Hr9.out]); (try rw [Hz10.out]); (try rw [Hz11.out]); all_goals rfl
                have e1 : 0 = R1 := by rw [← HR1.out]; unfold mtx; (try rw [Hz1.out]); (try rw [Hz2.out]); (try rw [Hz3.out]); (try rw [Hz4.out]); (try rw [Hr5.out]); (try rw [hz6]); (try rw [Hr7.out]); (try rw [Hr8.out]); (try rw [Hr9.out]); (try rw [Hz10.out]); (try rw [Hz11.out]); all_goals rfl
                have e2 : 0 = R2 := by rw [← HR2.out]; unfold mty; (try rw [Hz1.out]); (try rw [Hz2.out]); (try rw [Hz3.out]); (try rw [Hz4.out]); (try rw [Hr5.out]); (try rw [hz6]); (try rw [Hr7.out]); (try rw [Hr8.out]); (try rw [Hr9.out]); (try rw [Hz10.out]); (try rw [Hz11.out]); all_goals rfl
                have e3 : 0 = R3 := by rw [← HR3.out]; unfold mtw; (try rw [Hz1.out]); (try rw [Hz2.out]); (try rw [Hz3.out]); (try rw [Hz4.out]); (try rw [Hr5.out]); (try rw [hz6]); (try rw [Hr7.out]); (try rw [Hr8.out]); (try rw [Hr9.out]); (try rw [Hz10.out]); (try rw [Hz11.out]); all_goals rfl
                subst e0
                subst e1
                subst e2
                subst e3
                go_wp2
                clear c3_0 c3_1 c3_2 c3_3 c3_4 c3_5 c3_6 c3_7 c3_8 c3_9 c3_10 c3_11 f3_0 f3_1 f3_2 f3_3 f3_4 f3_5 f3_6 f3_7 f3_8 f3_9 f3_10 f3_11 l3
                first | refine post_world ?_
                intro V17 hV17
                clear k2
                have D16 := Lib.hid k3.lt
                have D17 := Lib.hid k4.lt
                have D18 := Lib.hid hb0.size
                clear k4
                have nk3 : Blk V17 (w.heap.size + 1 + 1) #[.int .u64 0, .int .u64 0, .int .u64 0, .int .u64 0, .int .u64 0, .int .u64 0, .int .u64 0, .int .u64 0, .int .u64 0, .int .u64 0, .int .u64 0, .int .u64 0] 67 := by rw [hV17]; exact (blk_full _ [.int .u64 0, .int .u64 0, .int .u64 0, .int .u64 0, .int .u64 0, .int .u64 0, .int .u64 0, .int .u64 0, .int .u64 0, .int .u64 0, .int .u64 0, .int .u64 0] k3 rfl)
                have nhb0 : Below w.heap.size w V17 := by rw [hV17]; exact (blw_setL hb0 (by omega) 0 [.int .u64 0, .int .u64 0, .int .u64 0, .int .u64 0, .int .u64 0, .int .u64 0, .int .u64 0, .int .u64 0, .int .u64 0, .int .u64 0, .int .u64 0, .int .u64 0])
                clear k3
                clear hb0
                clear hV17
                have k3 := nk3
                clear nk3
                have hb0 := nhb0
                clear nhb0
                have g3_0 : V17.cell? ⟨(w.heap.size + 1 + 1), 0, none⟩ = some (.int .u64 0) := k3.cell 0
                have g3_1 : V17.cell? ⟨(w.heap.size + 1 + 1), 1, none⟩ = some (.int .u64 0) := k3.cell 1
                have g3_2 : V17.cell? ⟨(w.heap.size + 1 + 1), 2, none⟩ = some (.int .u64 0) := k3.cell 2
                have g3_3 : V17.cell? ⟨(w.heap.size + 1 + 1), 3, none⟩ = some (.int .u64 0) := k3.cell 3
                have g3_4 : V17.cell? ⟨(w.heap.size + 1 + 1), 4, none⟩ = some (.int .u64 0) := k3.cell 4
                have g3_5 : V17.cell? ⟨(w.heap.size + 1 + 1), 5, none⟩ = some (.int .u64 0) := k3.cell 5
                have g3_6 : V17.cell? ⟨(w.heap.size + 1 + 1), 6, none⟩ = some (.int .u64 0) := k3.cell 6
                have g3_7 : V17.cell? ⟨(w.heap.size + 1 + 1), 7, none⟩ = some (.int .u64 0) := k3.cell 7
                have g3_8 : V17.cell? ⟨(w.heap.size + 1 + 1), 8, none⟩ = some (.int .u64 0) := k3.cell 8
                have g3_9 : V17.cell? ⟨(w.heap.size + 1 + 1), 9, none⟩ = some (.int .u64 0) := k3.cell 9
                have g3_10 : V17.cell? ⟨(w.heap.size + 1 + 1), 10, none⟩ = some (.int .u64 0) := k3.cell 10
                have g3_11 : V17.cell? ⟨(w.heap.size + 1 + 1), 11, none⟩ = some (.int .u64 0) := k3.cell 11
                clear k3
                simp [bodyPost, results, Try.results49, go_sem, g3_0, g3_1, g3_2, g3_3, g3_4, g3_5, g3_6, g3_7, g3_8, g3_9, g3_10, g3_11, wd0_0, wd1_0, wd2_0, wd3_0]
                first | exact hb0 | exact ⟨rfl, hb0⟩
              · have c2_0 : U16.cell? ⟨(w.heap.size + 1), 0, none⟩ = some (.int .i64 cx) := k2.cell 0
                have c2_1 : U16.cell? ⟨(w.heap.size + 1), 1, none⟩ = some (.int .i64 cy) := k2.cell 1
                have c2_2 : U16.cell? ⟨(w.heap.size + 1), 2, none⟩ = some (.int .i64 dx) := k2.cell 2
                have c2_3 : U16.cell? ⟨(w.heap.size + 1), 3, none⟩ = some (.int .i64 dy) := k2.cell 3
                have l2 := k2.lt
                have c4_0 : U16.cell? ⟨U12.heap.size, 0, none⟩ = some (.int .u64 (wd0 r7)) := k4.cell 0
                have c4_1 : U16.cell? ⟨U12.heap.size, 1, none⟩ = some (.int .u64 (wd1 r7)) := k4.cell 1
                have c4_2 : U16.cell? ⟨U12.heap.size, 2, none⟩ = some (.int .u64 (wd2 r7)) := k4.cell 2
                have c4_3 : U16.cell? ⟨U12.heap.size, 3, none⟩ = some (.int .u64 (wd3 r7)) := k4.cell 3
                have c4_4 : U16.cell? ⟨U12.heap.size, 4, none⟩ = some (.int .u64 (wd0 r8)) := k4.cell 4
                have c4_5 : U16.cell? ⟨U12.heap.size, 5, none⟩ = some (.int .u64 (wd1 r8)) := k4.cell 5
                have c4_6 : U16.cell? ⟨U12.heap.size, 6, none⟩ = some (.int .u64 (wd2 r8)) := k4.cell 6
                have c4_7 : U16.cell? ⟨U12.heap.size, 7, none⟩ = some (.int .u64 (wd3 r8)) := k4.cell 7
                have c4_8 : U16.cell? ⟨U12.heap.size, 8, none⟩ = some (.int .u64 (wd0 r9)) := k4.cell 8
                have c4_9 : U16.cell? ⟨U12.heap.size, 9, none⟩ = some (.int .u64 (wd1 r9)) := k4.cell 9
                have c4_10 : U16.cell? ⟨U12.heap.size, 10, none⟩ = some (.int .u64 (wd2 r9)) := k4.cell 10
                have c4_11 : U16.cell? ⟨U12.heap.size, 11, none⟩ = some (.int .u64 (wd3 r9)) := k4.cell 11
                have l4 := k4.lt
                go_wp2_with fail
                clear c2_0 c2_1 c2_2 c2_3 l2 c4_0 c4_1 c4_2 c4_3 c4_4 c4_5 c4_6 c4_7 c4_8 c4_9 c4_10 c4_11 l4
                obtain ⟨z12, hz12⟩ : ∃ o_o : Bool, hldB cx cy dx dy r7 r8 r9 = o_o := ⟨_, rfl⟩
                have Hz12 := Lib.hid hz12
                clear hz12
                refine (SegHolds_is cx cy dx dy r7 r8 r9 z12 Hz12.out _icx _icy _idx _idy (Hr7.out ▸ cgx_in ax ay bx b_y cx cy dx dy _iax _iay _ibx _ib_y _icx _icy _idx _idy) (Hr8.out ▸ cgy_in ax ay bx b_y cx cy dx dy _iax _iay _ibx _ib_y _icx _icy _idx _idy) (Hr9.out ▸ cgw_in ax ay bx b_y cx cy dx dy _iax _iay _ibx _ib_y _icx _icy _idx _idy)  _).mono ?_
                rintro e U18 ⟨rfl, hn⟩
                clear k2
                replace k3 := k3.of hn
                replace k4 := k4.of hn
                replace hb0 := hb0.trans (hn.mono hb0.size)
                clear hn
                cases z12
                · have c3_0 : U18.cell? ⟨(w.heap.size + 1 + 1), 0, none⟩ = some (.int .u64 0) := k3.cell 0
                  have c3_1 : U18.cell? ⟨(w.heap.size + 1 + 1), 1, none⟩ = some (.int .u64 0) := k3.cell 1
                  have c3_2 : U18.cell? ⟨(w.heap.size + 1 + 1), 2, none⟩ = some (.int .u64 0) := k3.cell 2
                  have c3_3 : U18.cell? ⟨(w.heap.size + 1 + 1), 3, none⟩ = some (.int .u64 0) := k3.cell 3
                  have c3_4 : U18.cell? ⟨(w.heap.size + 1 + 1), 4, none⟩ = some (.int .u64 0) := k3.cell 4
                  have c3_5 : U18.cell? ⟨(w.heap.size + 1 + 1), 5, none⟩ = some (.int .u64 0) := k3.cell 5
                  have c3_6 : U18.cell? ⟨(w.heap.size + 1 + 1), 6, none⟩ = some (.int .u64 0) := k3.cell 6
                  have c3_7 : U18.cell? ⟨(w.heap.size + 1 + 1), 7, none⟩ = some (.int .u64 0) := k3.cell 7
                  have c3_8 : U18.cell? ⟨(w.heap.size + 1 + 1), 8, none⟩ = some (.int .u64 0) := k3.cell 8
                  have c3_9 : U18.cell? ⟨(w.heap.size + 1 + 1), 9, none⟩ = some (.int .u64 0) := k3.cell 9
                  have c3_10 : U18.cell? ⟨(w.heap.size + 1 + 1), 10, none⟩ = some (.int .u64 0) := k3.cell 10
                  have c3_11 : U18.cell? ⟨(w.heap.size + 1 + 1), 11, none⟩ = some (.int .u64 0) := k3.cell 11
                  have f3_0 := k3.free 0
                  have f3_1 := k3.free 1
                  have f3_2 := k3.free 2
                  have f3_3 := k3.free 3
                  have f3_4 := k3.free 4
                  have f3_5 := k3.free 5
                  have f3_6 := k3.free 6
                  have f3_7 := k3.free 7
                  have f3_8 := k3.free 8
                  have f3_9 := k3.free 9
                  have f3_10 := k3.free 10
                  have f3_11 := k3.free 11
                  have l3 := k3.lt
                  have e0 : 0 = R0 := by rw [← HR0.out]; unfold mtk; (try rw [Hz1.out]); (try rw [Hz2.out]); (try rw [Hz3.out]); (try rw [Hz4.out]); (try rw [Hr5.out]); (try rw [hz6]); (try rw [Hr7.out]); (try rw [Hr8.out]); (try rw [Hr9.out]); (try rw [Hz10.out]); (try rw [Hz11.out]); (try rw [Hz12.out]); all_goals rfl
                  have e1 : 0 = R1 := by rw [← HR1.out]; unfold mtx; (try rw [Hz1.out]); (try rw [Hz2.out]); (try rw [Hz3.out]); (try rw [Hz4.out]); (try rw [Hr5.out]); (try rw [hz6]); (try rw [Hr7.out]); (try rw [Hr8.out]); (try rw [Hr9.out]); (try rw [Hz10.out]); (try rw [Hz11.out]); (try rw [Hz12.out]); all_goals rfl
                  have e2 : 0 = R2 := by rw [← HR2.out]; unfold mty; (try rw [Hz1.out]); (try rw [Hz2.out]); (try rw [Hz3.out]); (try rw [Hz4.out]); (try rw [Hr5.out]); (try rw [hz6]); (try rw [Hr7.out]); (try rw [Hr8.out]); (try rw [Hr9.out]); (try rw [Hz10.out]); (try rw [Hz11.out]); (try rw [Hz12.out]); all_goals rfl
                  have e3 : 0 = R3 := by rw [← HR3.out]; unfold mtw; (try rw [Hz1.out]); (try rw [Hz2.out]); (try rw [Hz3.out]); (try rw [Hz4.out]); (try rw [Hr5.out]); (try rw [hz6]); (try rw [Hr7.out]); (try rw [Hr8.out]); (try rw [Hr9.out]); (try rw [Hz10.out]); (try rw [Hz11.out]); (try rw [Hz12.out]); all_goals rfl
                  subst e0
                  subst e1
                  subst e2
                  subst e3
                  go_wp2
                  clear c3_0 c3_1 c3_2 c3_3 c3_4 c3_5 c3_6 c3_7 c3_8 c3_9 c3_10 c3_11 f3_0 f3_1 f3_2 f3_3 f3_4 f3_5 f3_6 f3_7 f3_8 f3_9 f3_10 f3_11 l3
                  first | refine post_world ?_
                  intro V19 hV19
                  have D19 := Lib.hid k3.lt
                  have D20 := Lib.hid k4.lt
                  have D21 := Lib.hid hb0.size
                  clear k4
                  have nk3 : Blk V19 (w.heap.size + 1 + 1) #[.int .u64 0, .int .u64 0, .int .u64 0, .int .u64 0, .int .u64 0, .int .u64 0, .int .u64 0, .int .u64 0, .int .u64 0, .int .u64 0, .int .u64 0, .int .u64 0] 67 := by rw [hV19]; exact (blk_full _ [.int .u64 0, .int .u64 0, .int .u64 0, .int .u64 0, .int .u64 0, .int .u64 0, .int .u64 0, .int .u64 0, .int .u64 0, .int .u64 0, .int .u64 0, .int .u64 0] k3 rfl)
                  have nhb0 : Below w.heap.size w V19 := by rw [hV19]; exact (blw_setL hb0 (by omega) 0 [.int .u64 0, .int .u64 0, .int .u64 0, .int .u64 0, .int .u64 0, .int .u64 0, .int .u64 0, .int .u64 0, .int .u64 0, .int .u64 0, .int .u64 0, .int .u64 0])
                  clear k3
                  clear hb0
                  clear hV19
                  have k3 := nk3
                  clear nk3
                  have hb0 := nhb0
                  clear nhb0
                  have g3_0 : V19.cell? ⟨(w.heap.size + 1 + 1), 0, none⟩ = some (.int .u64 0) := k3.cell 0
                  have g3_1 : V19.cell? ⟨(w.heap.size + 1 + 1), 1, none⟩ = some (.int .u64 0) := k3.cell 1
                  have g3_2 : V19.cell? ⟨(w.heap.size + 1 + 1), 2, none⟩ = some (.int .u64 0) := k3.cell 2
                  have g3_3 : V19.cell? ⟨(w.heap.size + 1 + 1), 3, none⟩ = some (.int .u64 0) := k3.cell 3
                  have g3_4 : V19.cell? ⟨(w.heap.size + 1 + 1), 4, none⟩ = some (.int .u64 0) := k3.cell 4
                  have g3_5 : V19.cell? ⟨(w.heap.size + 1 + 1), 5, none⟩ = some (.int .u64 0) := k3.cell 5
                  have g3_6 : V19.cell? ⟨(w.heap.size + 1 + 1), 6, none⟩ = some (.int .u64 0) := k3.cell 6
                  have g3_7 : V19.cell? ⟨(w.heap.size + 1 + 1), 7, none⟩ = some (.int .u64 0) := k3.cell 7
                  have g3_8 : V19.cell? ⟨(w.heap.size + 1 + 1), 8, none⟩ = some (.int .u64 0) := k3.cell 8
                  have g3_9 : V19.cell? ⟨(w.heap.size + 1 + 1), 9, none⟩ = some (.int .u64 0) := k3.cell 9
                  have g3_10 : V19.cell? ⟨(w.heap.size + 1 + 1), 10, none⟩ = some (.int .u64 0) := k3.cell 10
                  have g3_11 : V19.cell? ⟨(w.heap.size + 1 + 1), 11, none⟩ = some (.int .u64 0) := k3.cell 11
                  clear k3
                  simp [bodyPost, results, Try.results49, go_sem, g3_0, g3_1, g3_2, g3_3, g3_4, g3_5, g3_6, g3_7, g3_8, g3_9, g3_10, g3_11, wd0_0, wd1_0, wd2_0, wd3_0]
                  first | exact hb0 | exact ⟨rfl, hb0⟩
                · go_wp2_with fail
                  have c3_0 : U18.cell? ⟨(w.heap.size + 1 + 1), 0, none⟩ = some (.int .u64 0) := k3.cell 0
                  have c3_1 : U18.cell? ⟨(w.heap.size + 1 + 1), 1, none⟩ = some (.int .u64 0) := k3.cell 1
                  have c3_2 : U18.cell? ⟨(w.heap.size + 1 + 1), 2, none⟩ = some (.int .u64 0) := k3.cell 2
                  have c3_3 : U18.cell? ⟨(w.heap.size + 1 + 1), 3, none⟩ = some (.int .u64 0) := k3.cell 3
                  have c3_4 : U18.cell? ⟨(w.heap.size + 1 + 1), 4, none⟩ = some (.int .u64 0) := k3.cell 4
                  have c3_5 : U18.cell? ⟨(w.heap.size + 1 + 1), 5, none⟩ = some (.int .u64 0) := k3.cell 5
                  have c3_6 : U18.cell? ⟨(w.heap.size + 1 + 1), 6, none⟩ = some (.int .u64 0) := k3.cell 6
                  have c3_7 : U18.cell? ⟨(w.heap.size + 1 + 1), 7, none⟩ = some (.int .u64 0) := k3.cell 7
                  have c3_8 : U18.cell? ⟨(w.heap.size + 1 + 1), 8, none⟩ = some (.int .u64 0) := k3.cell 8
                  have c3_9 : U18.cell? ⟨(w.heap.size + 1 + 1), 9, none⟩ = some (.int .u64 0) := k3.cell 9
                  have c3_10 : U18.cell? ⟨(w.heap.size + 1 + 1), 10, none⟩ = some (.int .u64 0) := k3.cell 10
                  have c3_11 : U18.cell? ⟨(w.heap.size + 1 + 1), 11, none⟩ = some (.int .u64 0) := k3.cell 11
                  have f3_0 := k3.free 0
                  have f3_1 := k3.free 1
                  have f3_2 := k3.free 2
                  have f3_3 := k3.free 3
                  have f3_4 := k3.free 4
                  have f3_5 := k3.free 5
                  have f3_6 := k3.free 6
                  have f3_7 := k3.free 7
                  have f3_8 := k3.free 8
                  have f3_9 := k3.free 9
                  have f3_10 := k3.free 10
                  have f3_11 := k3.free 11
                  have l3 := k3.lt
                  have c4_0 : U18.cell? ⟨U12.heap.size, 0, none⟩ = some (.int .u64 (wd0 r7)) := k4.cell 0
                  have c4_1 : U18.cell? ⟨U12.heap.size, 1, none⟩ = some (.int .u64 (wd1 r7)) := k4.cell 1
                  have c4_2 : U18.cell? ⟨U12.heap.size, 2, none⟩ = some (.int .u64 (wd2 r7)) := k4.cell 2
                  have c4_3 : U18.cell? ⟨U12.heap.size, 3, none⟩ = some (.int .u64 (wd3 r7)) := k4.cell 3
                  have c4_4 : U18.cell? ⟨U12.heap.size, 4, none⟩ = some (.int .u64 (wd0 r8)) := k4.cell 4
                  have c4_5 : U18.cell? ⟨U12.heap.size, 5, none⟩ = some (.int .u64 (wd1 r8)) := k4.cell 5
                  have c4_6 : U18.cell? ⟨U12.heap.size, 6, none⟩ = some (.int .u64 (wd2 r8)) := k4.cell 6
                  have c4_7 : U18.cell? ⟨U12.heap.size, 7, none⟩ = some (.int .u64 (wd3 r8)) := k4.cell 7
                  have c4_8 : U18.cell? ⟨U12.heap.size, 8, none⟩ = some (.int .u64 (wd0 r9)) := k4.cell 8
                  have c4_9 : U18.cell? ⟨U12.heap.size, 9, none⟩ = some (.int .u64 (wd1 r9)) := k4.cell 9
                  have c4_10 : U18.cell? ⟨U12.heap.size, 10, none⟩ = some (.int .u64 (wd2 r9)) := k4.cell 10
                  have c4_11 : U18.cell? ⟨U12.heap.size, 11, none⟩ = some (.int .u64 (wd3 r9)) := k4.cell 11
                  have l4 := k4.lt
                  have p4_3 : U12.heap.size ≠ (w.heap.size + 1 + 1) := (by have := D11.out; omega)
                  have Kk3 := Lib.hid k3
                  clear k3
                  have Kk4 := Lib.hid k4
                  clear k4
                  go_region
                  first | refine name_q ?_ | refine calls_w ?_ | refine name_world ?_ | refine list_world ?_ | refine post_world ?_
                  intro U20 hU20
                  clear c3_0 c3_1 c3_2 c3_3 c3_4 c3_5 c3_6 c3_7 c3_8 c3_9 c3_10 c3_11 f3_0 f3_1 f3_2 f3_3 f3_4 f3_5 f3_6 f3_7 f3_8 f3_9 f3_10 f3_11 l3 c4_0 c4_1 c4_2 c4_3 c4_4 c4_5 c4_6 c4_7 c4_8 c4_9 c4_10 c4_11 l4 p4_3
                  have k3 : Blk U20 (w.heap.size + 1 + 1) #[.int .u64 (wd0 r7), .int .u64 (wd1 r7), .int .u64 (wd2 r7), .int .u64 (wd3 r7), .int .u64 (wd0 r8), .int .u64 (wd1 r8), .int .u64 (wd2 r8), .int .u64 (wd3 r8), .int .u64 (wd0 r9), .int .u64 (wd1 r9), .int .u64 (wd2 r9), .int .u64 (wd3 r9)] 67 := by rw [hU20]; exact Blk.drew (blk_full _ [.int .u64 (wd0 r7), .int .u64 (wd1 r7), .int .u64 (wd2 r7), .int .u64 (wd3 r7), .int .u64 (wd0 r8), .int .u64 (wd1 r8), .int .u64 (wd2 r8), .int .u64 (wd3 r8), .int .u64 (wd0 r9), .int .u64 (wd1 r9), .int .u64 (wd2 r9), .int .u64 (wd3 r9)] Kk3.out rfl)
                  clear Kk3
                  have k4 : Blk U20 U12.heap.size #[.int .u64 (wd0 r7), .int .u64 (wd1 r7), .int .u64 (wd2 r7), .int .u64 (wd3 r7), .int .u64 (wd0 r8), .int .u64 (wd1 r8), .int .u64 (wd2 r8), .int .u64 (wd3 r8), .int .u64 (wd0 r9), .int .u64 (wd1 r9), .int .u64 (wd2 r9), .int .u64 (wd3 r9)] 67 := by rw [hU20]; exact Blk.drew (blk_setL Kk4.out (by have := D11.out; omega) 0 [.int .u64 (wd0 r7), .int .u64 (wd1 r7), .int .u64 (wd2 r7), .int .u64 (wd3 r7), .int .u64 (wd0 r8), .int .u64 (wd1 r8), .int .u64 (wd2 r8), .int .u64 (wd3 r8), .int .u64 (wd0 r9), .int .u64 (wd1 r9), .int .u64 (wd2 r9), .int .u64 (wd3 r9)])
                  clear Kk4
                  replace hb0 : Below w.heap.size w U20 := by rw [hU20]; exact Below.drew (blw_setL hb0 (by omega) 0 [.int .u64 (wd0 r7), .int .u64 (wd1 r7), .int .u64 (wd2 r7), .int .u64 (wd3 r7), .int .u64 (wd0 r8), .int .u64 (wd1 r8), .int .u64 (wd2 r8), .int .u64 (wd3 r8), .int .u64 (wd0 r9), .int .u64 (wd1 r9), .int .u64 (wd2 r9), .int .u64 (wd3 r9)])
                  clear hU20
                  have e0 : 1 = R0 := by rw [← HR0.out]; unfold mtk; (try rw [Hz1.out]); (try rw [Hz2.out]); (try rw [Hz3.out]); (try rw [Hz4.out]); (try rw [Hr5.out]); (try rw [hz6]); (try rw [Hr7.out]); (try rw [Hr8.out]); (try rw [Hr9.out]); (try rw [Hz10.out]); (try rw [Hz11.out]); (try rw [Hz12.out]); all_goals rfl
                  have e1 : r7 = R1 := by rw [← HR1.out]; unfold mtx; (try rw [Hz1.out]); (try rw [Hz2.out]); (try rw [Hz3.out]); (try rw [Hz4.out]); (try rw [Hr5.out]); (try rw [hz6]); (try rw [Hr7.out]); (try rw [Hr8.out]); (try rw [Hr9.out]); (try rw [Hz10.out]); (try rw [Hz11.out]); (try rw [Hz12.out]); all_goals rfl
                  have e2 : r8 = R2 := by rw [← HR2.out]; unfold mty; (try rw [Hz1.out]); (try rw [Hz2.out]); (try rw [Hz3.out]); (try rw [Hz4.out]); (try rw [Hr5.out]); (try rw [hz6]); (try rw [Hr7.out]); (try rw [Hr8.out]); (try rw [Hr9.out]); (try rw [Hz10.out]); (try rw [Hz11.out]); (try rw [Hz12.out]); all_goals rfl
                  have e3 : r9 = R3 := by rw [← HR3.out]; unfold mtw; (try rw [Hz1.out]); (try rw [Hz2.out]); (try rw [Hz3.out]); (try rw [Hz4.out]); (try rw [Hr5.out]); (try rw [hz6]); (try rw [Hr7.out]); (try rw [Hr8.out]); (try rw [Hr9.out]); (try rw [Hz10.out]); (try rw [Hz11.out]); (try rw [Hz12.out]); all_goals rfl
                  subst e0
                  subst e1
                  subst e2
                  subst e3
                  go_wp2
                  have g3_0 : U20.cell? ⟨(w.heap.size + 1 + 1), 0, none⟩ = some (.int .u64 (wd0 r7)) := k3.cell 0
                  have g3_1 : U20.cell? ⟨(w.heap.size + 1 + 1), 1, none⟩ = some (.int .u64 (wd1 r7)) := k3.cell 1
                  have g3_2 : U20.cell? ⟨(w.heap.size + 1 + 1), 2, none⟩ = some (.int .u64 (wd2 r7)) := k3.cell 2
                  have g3_3 : U20.cell? ⟨(w.heap.size + 1 + 1), 3, none⟩ = some (.int .u64 (wd3 r7)) := k3.cell 3
                  have g3_4 : U20.cell? ⟨(w.heap.size + 1 + 1), 4, none⟩ = some (.int .u64 (wd0 r8)) := k3.cell 4
                  have g3_5 : U20.cell? ⟨(w.heap.size + 1 + 1), 5, none⟩ = some (.int .u64 (wd1 r8)) := k3.cell 5
                  have g3_6 : U20.cell? ⟨(w.heap.size + 1 + 1), 6, none⟩ = some (.int .u64 (wd2 r8)) := k3.cell 6
                  have g3_7 : U20.cell? ⟨(w.heap.size + 1 + 1), 7, none⟩ = some (.int .u64 (wd3 r8)) := k3.cell 7
                  have g3_8 : U20.cell? ⟨(w.heap.size + 1 + 1), 8, none⟩ = some (.int .u64 (wd0 r9)) := k3.cell 8
                  have g3_9 : U20.cell? ⟨(w.heap.size + 1 + 1), 9, none⟩ = some (.int .u64 (wd1 r9)) := k3.cell 9
                  have g3_10 : U20.cell? ⟨(w.heap.size + 1 + 1), 10, none⟩ = some (.int .u64 (wd2 r9)) := k3.cell 10
                  have g3_11 : U20.cell? ⟨(w.heap.size + 1 + 1), 11, none⟩ = some (.int .u64 (wd3 r9)) := k3.cell 11
                  clear k3 k4
                  simp [bodyPost, results, Try.results49, go_sem, g3_0, g3_1, g3_2, g3_3, g3_4, g3_5, g3_6, g3_7, g3_8, g3_9, g3_10, g3_11]
                  first | exact hb0 | exact ⟨rfl, hb0⟩
          · obtain rfl : r5 = 0 := by simpa using hz6
            clear hz6
            have c1_0 : U10.cell? ⟨w.heap.size, 0, none⟩ = some (.int .i64 ax) := k1.cell 0
            have c1_1 : U10.cell? ⟨w.heap.size, 1, none⟩ = some (.int .i64 ay) := k1.cell 1
            have c1_2 : U10.cell? ⟨w.heap.size, 2, none⟩ = some (.int .i64 bx) := k1.cell 2
            have c1_3 : U10.cell? ⟨w.heap.size, 3, none⟩ = some (.int .i64 b_y) := k1.cell 3
            have l1 := k1.lt
            have c2_0 : U10.cell? ⟨(w.heap.size + 1), 0, none⟩ = some (.int .i64 cx) := k2.cell 0
            have c2_1 : U10.cell? ⟨(w.heap.size + 1), 1, none⟩ = some (.int .i64 cy) := k2.cell 1
            have l2 := k2.lt
            go_wp2_with fail
            clear c1_0 c1_1 c1_2 c1_3 l1 c2_0 c2_1 l2
            obtain ⟨r13, hr13⟩ : ∃ o_o : Int, way ax ay bx b_y cx cy = o_o := ⟨_, rfl⟩
            have Hr13 := Lib.hid hr13
            clear hr13
            refine (Turn_v ax ay bx b_y cx cy r13 Hr13.out _).mono ?_
            rintro e U21 ⟨rfl, hn⟩
            replace k1 := k1.of hn
            replace k2 := k2.of hn
            replace k3 := k3.of hn
            replace hb0 := hb0.trans (hn.mono hb0.size)
            clear hn
            obtain ⟨z14, hz14⟩ : ∃ o_o : Bool, (r13 == 0) = o_o := ⟨_, rfl⟩
            cases z14
            · have nz14 : ¬ r13 = 0 := by simpa using hz14
              have c3_0 : U21.cell? ⟨(w.heap.size + 1 + 1), 0, none⟩ = some (.int .u64 0) := k3.cell 0
              have c3_1 : U21.cell? ⟨(w.heap.size + 1 + 1), 1, none⟩ = some (.int .u64 0) := k3.cell 1
              have c3_2 : U21.cell? ⟨(w.heap.size + 1 + 1), 2, none⟩ = some (.int .u64 0) := k3.cell 2
              have c3_3 : U21.cell? ⟨(w.heap.size + 1 + 1), 3, none⟩ = some (.int .u64 0) := k3.cell 3
              have c3_4 : U21.cell? ⟨(w.heap.size + 1 + 1), 4, none⟩ = some (.int .u64 0) := k3.cell 4
              have c3_5 : U21.cell? ⟨(w.heap.size + 1 + 1), 5, none⟩ = some (.int .u64 0) := k3.cell 5
              have c3_6 : U21.cell? ⟨(w.heap.size + 1 + 1), 6, none⟩ = some (.int .u64 0) := k3.cell 6
              have c3_7 : U21.cell? ⟨(w.heap.size + 1 + 1), 7, none⟩ = some (.int .u64 0) := k3.cell 7
              have c3_8 : U21.cell? ⟨(w.heap.size + 1 + 1), 8, none⟩ = some (.int .u64 0) := k3.cell 8
              have c3_9 : U21.cell? ⟨(w.heap.size + 1 + 1), 9, none⟩ = some (.int .u64 0) := k3.cell 9
              have c3_10 : U21.cell? ⟨(w.heap.size + 1 + 1), 10, none⟩ = some (.int .u64 0) := k3.cell 10
              have c3_11 : U21.cell? ⟨(w.heap.size + 1 + 1), 11, none⟩ = some (.int .u64 0) := k3.cell 11
              have f3_0 := k3.free 0
              have f3_1 := k3.free 1
              have f3_2 := k3.free 2
              have f3_3 := k3.free 3
              have f3_4 := k3.free 4
              have f3_5 := k3.free 5
              have f3_6 := k3.free 6
              have f3_7 := k3.free 7
              have f3_8 := k3.free 8
              have f3_9 := k3.free 9
              have f3_10 := k3.free 10
              have f3_11 := k3.free 11
              have l3 := k3.lt
              have e0 : 0 = R0 := by rw [← HR0.out]; unfold mtk; (try rw [Hz1.out]); (try rw [Hz2.out]); (try rw [Hz3.out]); (try rw [Hz4.out]); (try rw [Hr5.out]); (try rw [Hr13.out]); (try rw [hz14]); all_goals rfl
              have e1 : 0 = R1 := by rw [← HR1.out]; unfold mtx; (try rw [Hz1.out]); (try rw [Hz2.out]); (try rw [Hz3.out]); (try rw [Hz4.out]); (try rw [Hr5.out]); (try rw [Hr13.out]); (try rw [hz14]); all_goals rfl
              have e2 : 0 = R2 := by rw [← HR2.out]; unfold mty; (try rw [Hz1.out]); (try rw [Hz2.out]); (try rw [Hz3.out]); (try rw [Hz4.out]); (try rw [Hr5.out]); (try rw [Hr13.out]); (try rw [hz14]); all_goals rfl
              have e3 : 0 = R3 := by rw [← HR3.out]; unfold mtw; (try rw [Hz1.out]); (try rw [Hz2.out]); (try rw [Hz3.out]); (try rw [Hz4.out]); (try rw [Hr5.out]); (try rw [Hr13.out]); (try rw [hz14]); all_goals rfl
              subst e0
              subst e1
              subst e2
              subst e3
              go_wp2
              clear c3_0 c3_1 c3_2 c3_3 c3_4 c3_5 c3_6 c3_7 c3_8 c3_9 c3_10 c3_11 f3_0 f3_1 f3_2 f3_3 f3_4 f3_5 f3_6 f3_7 f3_8 f3_9 f3_10 f3_11 l3
              first | refine post_world ?_
              intro V22 hV22
              have D22 := Lib.hid k1.lt
              have D23 := Lib.hid k2.lt
              have D24 := Lib.hid k3.lt
              have D25 := Lib.hid hb0.size
              clear k1 k2
              have nk3 : Blk V22 (w.heap.size + 1 + 1) #[.int .u64 0, .int .u64 0, .int .u64 0, .int .u64 0, .int .u64 0, .int .u64 0, .int .u64 0, .int .u64 0, .int .u64 0, .int .u64 0, .int .u64 0, .int .u64 0] 67 := by rw [hV22]; exact (blk_full _ [.int .u64 0, .int .u64 0, .int .u64 0, .int .u64 0, .int .u64 0, .int .u64 0, .int .u64 0, .int .u64 0, .int .u64 0, .int .u64 0, .int .u64 0, .int .u64 0] k3 rfl)
              have nhb0 : Below w.heap.size w V22 := by rw [hV22]; exact (blw_setL hb0 (by omega) 0 [.int .u64 0, .int .u64 0, .int .u64 0, .int .u64 0, .int .u64 0, .int .u64 0, .int .u64 0, .int .u64 0, .int .u64 0, .int .u64 0, .int .u64 0, .int .u64 0])
              clear k3
              clear hb0
              clear hV22
              have k3 := nk3
              clear nk3
              have hb0 := nhb0
              clear nhb0
              have g3_0 : V22.cell? ⟨(w.heap.size + 1 + 1), 0, none⟩ = some (.int .u64 0) := k3.cell 0
              have g3_1 : V22.cell? ⟨(w.heap.size + 1 + 1), 1, none⟩ = some (.int .u64 0) := k3.cell 1
              have g3_2 : V22.cell? ⟨(w.heap.size + 1 + 1), 2, none⟩ = some (.int .u64 0) := k3.cell 2
              have g3_3 : V22.cell? ⟨(w.heap.size + 1 + 1), 3, none⟩ = some (.int .u64 0) := k3.cell 3
              have g3_4 : V22.cell? ⟨(w.heap.size + 1 + 1), 4, none⟩ = some (.int .u64 0) := k3.cell 4
              have g3_5 : V22.cell? ⟨(w.heap.size + 1 + 1), 5, none⟩ = some (.int .u64 0) := k3.cell 5
              have g3_6 : V22.cell? ⟨(w.heap.size + 1 + 1), 6, none⟩ = some (.int .u64 0) := k3.cell 6
              have g3_7 : V22.cell? ⟨(w.heap.size + 1 + 1), 7, none⟩ = some (.int .u64 0) := k3.cell 7
              have g3_8 : V22.cell? ⟨(w.heap.size + 1 + 1), 8, none⟩ = some (.int .u64 0) := k3.cell 8
              have g3_9 : V22.cell? ⟨(w.heap.size + 1 + 1), 9, none⟩ = some (.int .u64 0) := k3.cell 9
              have g3_10 : V22.cell? ⟨(w.heap.size + 1 + 1), 10, none⟩ = some (.int .u64 0) := k3.cell 10
              have g3_11 : V22.cell? ⟨(w.heap.size + 1 + 1), 11, none⟩ = some (.int .u64 0) := k3.cell 11
              clear k3
              simp [bodyPost, results, Try.results49, go_sem, g3_0, g3_1, g3_2, g3_3, g3_4, g3_5, g3_6, g3_7, g3_8, g3_9, g3_10, g3_11, wd0_0, wd1_0, wd2_0, wd3_0]
              first | exact hb0 | exact ⟨rfl, hb0⟩
            · obtain rfl : r13 = 0 := by simpa using hz14
              clear hz14
              have c1_0 : U21.cell? ⟨w.heap.size, 0, none⟩ = some (.int .i64 ax) := k1.cell 0
              have c1_1 : U21.cell? ⟨w.heap.size, 1, none⟩ = some (.int .i64 ay) := k1.cell 1
              have c1_2 : U21.cell? ⟨w.heap.size, 2, none⟩ = some (.int .i64 bx) := k1.cell 2
              have c1_3 : U21.cell? ⟨w.heap.size, 3, none⟩ = some (.int .i64 b_y) := k1.cell 3
              have l1 := k1.lt
              have c2_0 : U21.cell? ⟨(w.heap.size + 1), 0, none⟩ = some (.int .i64 cx) := k2.cell 0
              have c2_1 : U21.cell? ⟨(w.heap.size + 1), 1, none⟩ = some (.int .i64 cy) := k2.cell 1
              have c2_2 : U21.cell? ⟨(w.heap.size + 1), 2, none⟩ = some (.int .i64 dx) := k2.cell 2
              have c2_3 : U21.cell? ⟨(w.heap.size + 1), 3, none⟩ = some (.int .i64 dy) := k2.cell 3
              have l2 := k2.lt
              go_wp2_with fail
              clear c1_0 c1_1 c1_2 c1_3 l1 c2_0 c2_1 c2_2 c2_3 l2
              refine (Slope_is ax ay bx b_y cx cy dx dy 0 Hr5.out _iax _iay _ibx _ib_y _icx _icy _idx _idy  _).mono ?_
              rintro e U23 ⟨rfl, hn⟩
              replace k1 := k1.of hn
              replace k2 := k2.of hn
              replace k3 := k3.of hn
              replace hb0 := hb0.trans (hn.mono hb0.size)
              clear hn
              have c1_0 : U23.cell? ⟨w.heap.size, 0, none⟩ = some (.int .i64 ax) := k1.cell 0
              have c1_1 : U23.cell? ⟨w.heap.size, 1, none⟩ = some (.int .i64 ay) := k1.cell 1
              have c1_2 : U23.cell? ⟨w.heap.size, 2, none⟩ = some (.int .i64 bx) := k1.cell 2
              have c1_3 : U23.cell? ⟨w.heap.size, 3, none⟩ = some (.int .i64 b_y) := k1.cell 3
              have l1 := k1.lt
              have c2_0 : U23.cell? ⟨(w.heap.size + 1), 0, none⟩ = some (.int .i64 cx) := k2.cell 0
              have c2_1 : U23.cell? ⟨(w.heap.size + 1), 1, none⟩ = some (.int .i64 cy) := k2.cell 1
              have c2_2 : U23.cell? ⟨(w.heap.size + 1), 2, none⟩ = some (.int .i64 dx) := k2.cell 2
              have c2_3 : U23.cell? ⟨(w.heap.size + 1), 3, none⟩ = some (.int .i64 dy) := k2.cell 3
              have l2 := k2.lt
              go_wp2_with fail
              clear c1_0 c1_1 c1_2 c1_3 l1 c2_0 c2_1 c2_2 c2_3 l2
              obtain ⟨r15, hr15⟩ : ∃ o_o : Int, shk ax ay bx b_y cx cy dx dy = o_o := ⟨_, rfl⟩
              have Hr15 := Lib.hid hr15
              clear hr15
              obtain ⟨r16, hr16⟩ : ∃ o_o : Int, shx ax ay bx b_y cx cy dx dy = o_o := ⟨_, rfl⟩
              have Hr16 := Lib.hid hr16
              clear hr16
              obtain ⟨r17, hr17⟩ : ∃ o_o : Int, shy ax ay bx b_y cx cy dx dy = o_o := ⟨_, rfl⟩
              have Hr17 := Lib.hid hr17
              clear hr17
              obtain ⟨r18, hr18⟩ : ∃ o_o : Int, shw ax ay bx b_y cx cy dx dy = o_o := ⟨_, rfl⟩
              have Hr18 := Lib.hid hr18
              clear hr18
              refine (shared_is ax ay bx b_y cx cy dx dy r15 r16 r17 r18 Hr15.out Hr16.out Hr17.out Hr18.out _iax _iay _ibx _ib_y _icx _icy _idx _idy  _).mono ?_
              rintro e U24 ⟨rfl, hn⟩
              replace k1 := k1.of hn
              replace k2 := k2.of hn
              replace k3 := k3.of hn
              replace hb0 := hb0.trans (hn.mono hb0.size)
              clear hn
              have c3_0 : U24.cell? ⟨(w.heap.size + 1 + 1), 0, none⟩ = some (.int .u64 0) := k3.cell 0
              have c3_1 : U24.cell? ⟨(w.heap.size + 1 + 1), 1, none⟩ = some (.int .u64 0) := k3.cell 1
              have c3_2 : U24.cell? ⟨(w.heap.size + 1 + 1), 2, none⟩ = some (.int .u64 0) := k3.cell 2
              have c3_3 : U24.cell? ⟨(w.heap.size + 1 + 1), 3, none⟩ = some (.int .u64 0) := k3.cell 3
              have c3_4 : U24.cell? ⟨(w.heap.size + 1 + 1), 4, none⟩ = some (.int .u64 0) := k3.cell 4
              have c3_5 : U24.cell? ⟨(w.heap.size + 1 + 1), 5, none⟩ = some (.int .u64 0) := k3.cell 5
              have c3_6 : U24.cell? ⟨(w.heap.size + 1 + 1), 6, none⟩ = some (.int .u64 0) := k3.cell 6
              have c3_7 : U24.cell? ⟨(w.heap.size + 1 + 1), 7, none⟩ = some (.int .u64 0) := k3.cell 7
              have c3_8 : U24.cell? ⟨(w.heap.size + 1 + 1), 8, none⟩ = some (.int .u64 0) := k3.cell 8
              have c3_9 : U24.cell? ⟨(w.heap.size + 1 + 1), 9, none⟩ = some (.int .u64 0) := k3.cell 9
              have c3_10 : U24.cell? ⟨(w.heap.size + 1 + 1), 10, none⟩ = some (.int .u64 0) := k3.cell 10
              have c3_11 : U24.cell? ⟨(w.heap.size + 1 + 1), 11, none⟩ = some (.int .u64 0) := k3.cell 11
              have f3_0 := k3.free 0
              have f3_1 := k3.free 1
              have f3_2 := k3.free 2
              have f3_3 := k3.free 3
              have f3_4 := k3.free 4
              have f3_5 := k3.free 5
              have f3_6 := k3.free 6
              have f3_7 := k3.free 7
              have f3_8 := k3.free 8
              have f3_9 := k3.free 9
              have f3_10 := k3.free 10
              have f3_11 := k3.free 11
              have l3 := k3.lt
              have e0 : r15 = R0 := by rw [← HR0.out]; unfold mtk; (try rw [Hz1.out]); (try rw [Hz2.out]); (try rw [Hz3.out]); (try rw [Hz4.out]); (try rw [Hr5.out]); (try rw [Hr13.out]); (try rw [Hr15.out]); (try rw [Hr16.out]); (try rw [Hr17.out]); (try rw [Hr18.out]); all_goals rfl
              have e1 : r16 = R1 := by rw [← HR1.out]; unfold mtx; (try rw [Hz1.out]); (try rw [Hz2.out]); (try rw [Hz3.out]); (try rw [Hz4.out]); (try rw [Hr5.out]); (try rw [Hr13.out]); (try rw [Hr15.out]); (try rw [Hr16.out]); (try rw [Hr17.out]); (try rw [Hr18.out]); all_goals rfl
              have e2 : r17 = R2 := by rw [← HR2.out]; unfold mty; (try rw [Hz1.out]); (try rw [Hz2.out]); (try rw [Hz3.out]); (try rw [Hz4.out]); (try rw [Hr5.out]); (try rw [Hr13.out]); (try rw [Hr15.out]); (try rw [Hr16.out]); (try rw [Hr17.out]); (try rw [Hr18.out]); all_goals rfl
              have e3 : r18 = R3 := by rw [← HR3.out]; unfold mtw; (try rw [Hz1.out]); (try rw [Hz2.out]); (try rw [Hz3.out]); (try rw [Hz4.out]); (try rw [Hr5.out]); (try rw [Hr13.out]); (try rw [Hr15.out]); (try rw [Hr16.out]); (try rw [Hr17.out]); (try rw [Hr18.out]); all_goals rfl
              subst e0
              subst e1
              subst e2
              subst e3
              go_wp2
              clear c3_0 c3_1 c3_2 c3_3 c3_4 c3_5 c3_6 c3_7 c3_8 c3_9 c3_10 c3_11 f3_0 f3_1 f3_2 f3_3 f3_4 f3_5 f3_6 f3_7 f3_8 f3_9 f3_10 f3_11 l3
              first | refine post_world ?_
              intro V25 hV25
              have D26 := Lib.hid k1.lt
              have D27 := Lib.hid k2.lt
              have D28 := Lib.hid k3.lt
              have D29 := Lib.hid hb0.size
              clear k1 k2
              have nk3 : Blk V25 (w.heap.size + 1 + 1) #[.int .u64 (wd0 r16), .int .u64 (wd1 r16), .int .u64 (wd2 r16), .int .u64 (wd3 r16), .int .u64 (wd0 r17), .int .u64 (wd1 r17), .int .u64 (wd2 r17), .int .u64 (wd3 r17), .int .u64 (wd0 r18), .int .u64 (wd1 r18), .int .u64 (wd2 r18), .int .u64 (wd3 r18)] 67 := by rw [hV25]; exact (blk_full _ [.int .u64 (wd0 r16), .int .u64 (wd1 r16), .int .u64 (wd2 r16), .int .u64 (wd3 r16), .int .u64 (wd0 r17), .int .u64 (wd1 r17), .int .u64 (wd2 r17), .int .u64 (wd3 r17), .int .u64 (wd0 r18), .int .u64 (wd1 r18), .int .u64 (wd2 r18), .int .u64 (wd3 r18)] k3 rfl)
              have nhb0 : Below w.heap.size w V25 := by rw [hV25]; exact (blw_setL hb0 (by omega) 0 [.int .u64 (wd0 r16), .int .u64 (wd1 r16), .int .u64 (wd2 r16), .int .u64 (wd3 r16), .int .u64 (wd0 r17), .int .u64 (wd1 r17), .int .u64 (wd2 r17), .int .u64 (wd3 r17), .int .u64 (wd0 r18), .int .u64 (wd1 r18), .int .u64 (wd2 r18), .int .u64 (wd3 r18)])
              clear k3
              clear hb0
              clear hV25
              have k3 := nk3
              clear nk3
              have hb0 := nhb0
              clear nhb0
              have g3_0 : V25.cell? ⟨(w.heap.size + 1 + 1), 0, none⟩ = some (.int .u64 (wd0 r16)) := k3.cell 0
              have g3_1 : V25.cell? ⟨(w.heap.size + 1 + 1), 1, none⟩ = some (.int .u64 (wd1 r16)) := k3.cell 1
              have g3_2 : V25.cell? ⟨(w.heap.size + 1 + 1), 2, none⟩ = some (.int .u64 (wd2 r16)) := k3.cell 2
              have g3_3 : V25.cell? ⟨(w.heap.size + 1 + 1), 3, none⟩ = some (.int .u64 (wd3 r16)) := k3.cell 3
              have g3_4 : V25.cell? ⟨(w.heap.size + 1 + 1), 4, none⟩ = some (.int .u64 (wd0 r17)) := k3.cell 4
              have g3_5 : V25.cell? ⟨(w.heap.size + 1 + 1), 5, none⟩ = some (.int .u64 (wd1 r17)) := k3.cell 5
              have g3_6 : V25.cell? ⟨(w.heap.size + 1 + 1), 6, none⟩ = some (.int .u64 (wd2 r17)) := k3.cell 6
              have g3_7 : V25.cell? ⟨(w.heap.size + 1 + 1), 7, none⟩ = some (.int .u64 (wd3 r17)) := k3.cell 7
              have g3_8 : V25.cell? ⟨(w.heap.size + 1 + 1), 8, none⟩ = some (.int .u64 (wd0 r18)) := k3.cell 8
              have g3_9 : V25.cell? ⟨(w.heap.size + 1 + 1), 9, none⟩ = some (.int .u64 (wd1 r18)) := k3.cell 9
              have g3_10 : V25.cell? ⟨(w.heap.size + 1 + 1), 10, none⟩ = some (.int .u64 (wd2 r18)) := k3.cell 10
              have g3_11 : V25.cell? ⟨(w.heap.size + 1 + 1), 11, none⟩ = some (.int .u64 (wd3 r18)) := k3.cell 11
              clear k3
              simp [bodyPost, results, Try.results49, go_sem, g3_0, g3_1, g3_2, g3_3, g3_4, g3_5, g3_6, g3_7, g3_8, g3_9, g3_10, g3_11]
              first | exact hb0 | exact ⟨rfl, hb0⟩
        · obtain ⟨r19, hr19⟩ : ∃ o_o : Int, atx cx cy = o_o := ⟨_, rfl⟩
          have Hr19 := Lib.hid hr19
          clear hr19
          obtain ⟨r20, hr20⟩ : ∃ o_o : Int, aty cx cy = o_o := ⟨_, rfl⟩
          have Hr20 := Lib.hid hr20
          clear hr20
          obtain ⟨r21, hr21⟩ : ∃ o_o : Int, atw cx cy = o_o := ⟨_, rfl⟩
          have Hr21 := Lib.hid hr21
          clear hr21
          have c1_0 : U6.cell? ⟨w.heap.size, 0, none⟩ = some (.int .i64 ax) := k1.cell 0
          have c1_1 : U6.cell? ⟨w.heap.size, 1, none⟩ = some (.int .i64 ay) := k1.cell 1
          have c1_2 : U6.cell? ⟨w.heap.size, 2, none⟩ = some (.int .i64 bx) := k1.cell 2
          have c1_3 : U6.cell? ⟨w.heap.size, 3, none⟩ = some (.int .i64 b_y) := k1.cell 3
          have l1 := k1.lt
          have c2_0 : U6.cell? ⟨(w.heap.size + 1), 0, none⟩ = some (.int .i64 cx) := k2.cell 0
          have c2_1 : U6.cell? ⟨(w.heap.size + 1), 1, none⟩ = some (.int .i64 cy) := k2.cell 1
          have c2_2 : U6.cell? ⟨(w.heap.size + 1), 2, none⟩ = some (.int .i64 dx) := k2.cell 2
          have c2_3 : U6.cell? ⟨(w.heap.size + 1), 3, none⟩ = some (.int .i64 dy) := k2.cell 3
          have l2 := k2.lt
          have Kk1 := Lib.hid k1
          clear k1
          have Kk2 := Lib.hid k2
          clear k2
          have Kk3 := Lib.hid k3
          clear k3
          refine wp_region_up U6.heap.size 7 [(true, 0), (false, 1), (true, 2), (true, 3), (true, 4), (true, 5), (false, 6)] (by kernel_rfl) (by kernel_rfl) (fun _ _ d _ _ h => by cases d <;> exact h) ?_
          have hb : Below U6.heap.size U6 U6.drew := (Below.refl _ _).drew
          refine wpS_takeL rfl rfl ?_
          go_big_quiet_step (rfl)
          refine wpQuiet_nil ?_
          refine wpS_doL rfl ?_
          intro K hK
          go_wp2_with ((first | (go_at_call 101; (with_reducible refine (dot_is cx cy dx dy true Hz4.out _icx _icy _idx _idy  _).mono ?_); rintro e w2 ⟨rfl, hn⟩) | (go_at_call 47; (with_reducible refine (crAt_is cx cy r19 r20 r21 Hr19.out Hr20.out Hr21.out _icx _icy  _).mono ?_); rintro e w2 ⟨rfl, hn⟩)))
          replace hb := hb.trans (hn.mono hb.size)
          refine hK.out _ _ (up_iff.2 hb) ?_
          clear hK K
          clear hn
          iterate 4
            refine wpS_takeL rfl rfl ?_
            go_big_quiet_step (rfl)
            refine wpQuiet_nil ?_
          refine wpS_doL rfl ?_
          intro K hK
          go_wp2_with ((first | (go_at_call 101; (with_reducible refine (dot_is cx cy dx dy true Hz4.out _icx _icy _idx _idy  _).mono ?_); rintro e w2 ⟨rfl, hn⟩) | (go_at_call 47; (with_reducible refine (crAt_is cx cy r19 r20 r21 Hr19.out Hr20.out Hr21.out _icx _icy  _).mono ?_); rintro e w2 ⟨rfl, hn⟩)))
          try replace hb := hb.trans (hn.mono hb.size)
          refine hK.out _ _ (up_iff.2 hb) ?_
          clear hK K
          try clear hn
          refine wpS_nil ?_
          simp only [List.drop_succ_cons, List.drop_zero]
          first | refine calls_w ?_ | refine name_world ?_ | refine list_world ?_ | refine post_world ?_
          intro U26 hU26
          first | subst hU26 | (rw [← hU26] at hb; clear hU26)
          clear c1_0 c1_1 c1_2 c1_3 l1 c2_0 c2_1 c2_2 c2_3 l2
          have k1 := Kk1.out.of hb
          clear Kk1
          have k2 := Kk2.out.of hb
          clear Kk2
          have k3 := Kk3.out.of hb
          clear Kk3
          replace hb0 := hb0.trans (hb.mono hb0.size)
          clear hb
          go_wp2_with fail
          obtain ⟨z22, hz22⟩ : ∃ o_o : Bool, hldB ax ay bx b_y r19 r20 r21 = o_o := ⟨_, rfl⟩
          have Hz22 := Lib.hid hz22
          clear hz22
          refine (SegHolds_is ax ay bx b_y r19 r20 r21 z22 Hz22.out _iax _iay _ibx _ib_y (Hr19.out ▸ atx_in cx cy _icx _icy) (Hr20.out ▸ aty_in cx cy _icx _icy) (Hr21.out ▸ atw_in cx cy _icx _icy)  _).mono ?_
          rintro e U27 ⟨rfl, hn⟩
          replace k1 := k1.of hn
          replace k2 := k2.of hn
          replace k3 := k3.of hn
          replace hb0 := hb0.trans (hn.mono hb0.size)
          clear hn
          cases z22
          · have c1_0 : U27.cell? ⟨w.heap.size, 0, none⟩ = some (.int .i64 ax) := k1.cell 0
            have c1_1 : U27.cell? ⟨w.heap.size, 1, none⟩ = some (.int .i64 ay) := k1.cell 1
            have c1_2 : U27.cell? ⟨w.heap.size, 2, none⟩ = some (.int .i64 bx) := k1.cell 2
            have c1_3 : U27.cell? ⟨w.heap.size, 3, none⟩ = some (.int .i64 b_y) := k1.cell 3
            have l1 := k1.lt
            go_wp2_with fail
            clear c1_0 c1_1 c1_2 c1_3 l1
            refine (dot_is ax ay bx b_y false Hz3.out _iax _iay _ibx _ib_y  _).mono ?_
            rintro e U28 ⟨rfl, hn⟩
            replace k1 := k1.of hn
            replace k2 := k2.of hn
            replace k3 := k3.of hn
            replace hb0 := hb0.trans (hn.mono hb0.size)
            clear hn
            have c2_0 : U28.cell? ⟨(w.heap.size + 1), 0, none⟩ = some (.int .i64 cx) := k2.cell 0
            have c2_1 : U28.cell? ⟨(w.heap.size + 1), 1, none⟩ = some (.int .i64 cy) := k2.cell 1
            have c2_2 : U28.cell? ⟨(w.heap.size + 1), 2, none⟩ = some (.int .i64 dx) := k2.cell 2
            have c2_3 : U28.cell? ⟨(w.heap.size + 1), 3, none⟩ = some (.int .i64 dy) := k2.cell 3
            have l2 := k2.lt
            go_wp2_with fail
            clear c2_0 c2_1 c2_2 c2_3 l2
            refine (dot_is cx cy dx dy true Hz4.out _icx _icy _idx _idy  _).mono ?_
            rintro e U29 ⟨rfl, hn⟩
            replace k1 := k1.of hn
            replace k2 := k2.of hn
            replace k3 := k3.of hn
            replace hb0 := hb0.trans (hn.mono hb0.size)
            clear hn
            have c3_0 : U29.cell? ⟨(w.heap.size + 1 + 1), 0, none⟩ = some (.int .u64 0) := k3.cell 0
            have c3_1 : U29.cell? ⟨(w.heap.size + 1 + 1), 1, none⟩ = some (.int .u64 0) := k3.cell 1
            have c3_2 : U29.cell? ⟨(w.heap.size + 1 + 1), 2, none⟩ = some (.int .u64 0) := k3.cell 2
            have c3_3 : U29.cell? ⟨(w.heap.size + 1 + 1), 3, none⟩ = some (.int .u64 0) := k3.cell 3
            have c3_4 : U29.cell? ⟨(w.heap.size + 1 + 1), 4, none⟩ = some (.int .u64 0) := k3.cell 4
            have c3_5 : U29.cell? ⟨(w.heap.size + 1 + 1), 5, none⟩ = some (.int .u64 0) := k3.cell 5
            have c3_6 : U29.cell? ⟨(w.heap.size + 1 + 1), 6, none⟩ = some (.int .u64 0) := k3.cell 6
            have c3_7 : U29.cell? ⟨(w.heap.size + 1 + 1), 7, none⟩ = some (.int .u64 0) := k3.cell 7
            have c3_8 : U29.cell? ⟨(w.heap.size + 1 + 1), 8, none⟩ = some (.int .u64 0) := k3.cell 8
            have c3_9 : U29.cell? ⟨(w.heap.size + 1 + 1), 9, none⟩ = some (.int .u64 0) := k3.cell 9
            have c3_10 : U29.cell? ⟨(w.heap.size + 1 + 1), 10, none⟩ = some (.int .u64 0) := k3.cell 10
            have c3_11 : U29.cell? ⟨(w.heap.size + 1 + 1), 11, none⟩ = some (.int .u64 0) := k3.cell 11
            have f3_0 := k3.free 0
            have f3_1 := k3.free 1
            have f3_2 := k3.free 2
            have f3_3 := k3.free 3
            have f3_4 := k3.free 4
            have f3_5 := k3.free 5
            have f3_6 := k3.free 6
            have f3_7 := k3.free 7
            have f3_8 := k3.free 8
            have f3_9 := k3.free 9
            have f3_10 := k3.free 10
            have f3_11 := k3.free 11
            have l3 := k3.lt
            have e0 : 0 = R0 := by rw [← HR0.out]; unfold mtk; (try rw [Hz1.out]); (try rw [Hz2.out]); (try rw [Hz3.out]); (try rw [Hz4.out]); (try rw [Hr19.out]); (try rw [Hr20.out]); (try rw [Hr21.out]); (try rw [Hz22.out]); all_goals rfl
            have e1 : 0 = R1 := by rw [← HR1.out]; unfold mtx; (try rw [Hz1.out]); (try rw [Hz2.out]); (try rw [Hz3.out]); (try rw [Hz4.out]); (try rw [Hr19.out]); (try rw [Hr20.out]); (try rw [Hr21.out]); (try rw [Hz22.out]); all_goals rfl
            have e2 : 0 = R2 := by rw [← HR2.out]; unfold mty; (try rw [Hz1.out]); (try rw [Hz2.out]); (try rw [Hz3.out]); (try rw [Hz4.out]); (try rw [Hr19.out]); (try rw [Hr20.out]); (try rw [Hr21.out]); (try rw [Hz22.out]); all_goals rfl
            have e3 : 0 = R3 := by rw [← HR3.out]; unfold mtw; (try rw [Hz1.out]); (try rw [Hz2.out]); (try rw [Hz3.out]); (try rw [Hz4.out]); (try rw [Hr19.out]); (try rw [Hr20.out]); (try rw [Hr21.out]); (try rw [Hz22.out]); all_goals rfl
            subst e0
            subst e1
            subst e2
            subst e3
            go_wp2
            clear c3_0 c3_1 c3_2 c3_3 c3_4 c3_5 c3_6 c3_7 c3_8 c3_9 c3_10 c3_11 f3_0 f3_1 f3_2 f3_3 f3_4 f3_5 f3_6 f3_7 f3_8 f3_9 f3_10 f3_11 l3
            first | refine post_world ?_
            intro V30 hV30
            have D30 := Lib.hid k1.lt
            have D31 := Lib.hid k2.lt
            have D32 := Lib.hid k3.lt
            have D33 := Lib.hid hb0.size
            clear k1 k2
            have nk3 : Blk V30 (w.heap.size + 1 + 1) #[.int .u64 0, .int .u64 0, .int .u64 0, .int .u64 0, .int .u64 0, .int .u64 0, .int .u64 0, .int .u64 0, .int .u64 0, .int .u64 0, .int .u64 0, .int .u64 0] 67 := by rw [hV30]; exact (blk_full _ [.int .u64 0, .int .u64 0, .int .u64 0, .int .u64 0, .int .u64 0, .int .u64 0, .int .u64 0, .int .u64 0, .int .u64 0, .int .u64 0, .int .u64 0, .int .u64 0] k3 rfl)
            have nhb0 : Below w.heap.size w V30 := by rw [hV30]; exact (blw_setL hb0 (by omega) 0 [.int .u64 0, .int .u64 0, .int .u64 0, .int .u64 0, .int .u64 0, .int .u64 0, .int .u64 0, .int .u64 0, .int .u64 0, .int .u64 0, .int .u64 0, .int .u64 0])
            clear k3
            clear hb0
            clear hV30
            have k3 := nk3
            clear nk3
            have hb0 := nhb0
            clear nhb0
            have g3_0 : V30.cell? ⟨(w.heap.size + 1 + 1), 0, none⟩ = some (.int .u64 0) := k3.cell 0
            have g3_1 : V30.cell? ⟨(w.heap.size + 1 + 1), 1, none⟩ = some (.int .u64 0) := k3.cell 1
            have g3_2 : V30.cell? ⟨(w.heap.size + 1 + 1), 2, none⟩ = some (.int .u64 0) := k3.cell 2
            have g3_3 : V30.cell? ⟨(w.heap.size + 1 + 1), 3, none⟩ = some (.int .u64 0) := k3.cell 3
            have g3_4 : V30.cell? ⟨(w.heap.size + 1 + 1), 4, none⟩ = some (.int .u64 0) := k3.cell 4
            have g3_5 : V30.cell? ⟨(w.heap.size + 1 + 1), 5, none⟩ = some (.int .u64 0) := k3.cell 5
            have g3_6 : V30.cell? ⟨(w.heap.size + 1 + 1), 6, none⟩ = some (.int .u64 0) := k3.cell 6
            have g3_7 : V30.cell? ⟨(w.heap.size + 1 + 1), 7, none⟩ = some (.int .u64 0) := k3.cell 7
            have g3_8 : V30.cell? ⟨(w.heap.size + 1 + 1), 8, none⟩ = some (.int .u64 0) := k3.cell 8
            have g3_9 : V30.cell? ⟨(w.heap.size + 1 + 1), 9, none⟩ = some (.int .u64 0) := k3.cell 9
            have g3_10 : V30.cell? ⟨(w.heap.size + 1 + 1), 10, none⟩ = some (.int .u64 0) := k3.cell 10
            have g3_11 : V30.cell? ⟨(w.heap.size + 1 + 1), 11, none⟩ = some (.int .u64 0) := k3.cell 11
            clear k3
            simp [bodyPost, results, Try.results49, go_sem, g3_0, g3_1, g3_2, g3_3, g3_4, g3_5, g3_6, g3_7, g3_8, g3_9, g3_10, g3_11, wd0_0, wd1_0, wd2_0, wd3_0]
            first | exact hb0 | exact ⟨rfl, hb0⟩
          · have c2_0 : U27.cell? ⟨(w.heap.size + 1), 0, none⟩ = some (.int .i64 cx) := k2.cell 0
            have c2_1 : U27.cell? ⟨(w.heap.size + 1), 1, none⟩ = some (.int .i64 cy) := k2.cell 1
            have l2 := k2.lt
            go_wp2_with fail
            clear c2_0 c2_1 l2
            refine (crAt_is cx cy r19 r20 r21 Hr19.out Hr20.out Hr21.out _icx _icy  _).mono ?_
            rintro e U31 ⟨rfl, hn⟩
            replace k1 := k1.of hn
            replace k2 := k2.of hn
            replace k3 := k3.of hn
            replace hb0 := hb0.trans (hn.mono hb0.size)
            clear hn
            have c3_0 : U31.cell? ⟨(w.heap.size + 1 + 1), 0, none⟩ = some (.int .u64 0) := k3.cell 0
            have c3_1 : U31.cell? ⟨(w.heap.size + 1 + 1), 1, none⟩ = some (.int .u64 0) := k3.cell 1
            have c3_2 : U31.cell? ⟨(w.heap.size + 1 + 1), 2, none⟩ = some (.int .u64 0) := k3.cell 2
            have c3_3 : U31.cell? ⟨(w.heap.size + 1 + 1), 3, none⟩ = some (.int .u64 0) := k3.cell 3
            have c3_4 : U31.cell? ⟨(w.heap.size + 1 + 1), 4, none⟩ = some (.int .u64 0) := k3.cell 4
            have c3_5 : U31.cell? ⟨(w.heap.size + 1 + 1), 5, none⟩ = some (.int .u64 0) := k3.cell 5
            have c3_6 : U31.cell? ⟨(w.heap.size + 1 + 1), 6, none⟩ = some (.int .u64 0) := k3.cell 6
            have c3_7 : U31.cell? ⟨(w.heap.size + 1 + 1), 7, none⟩ = some (.int .u64 0) := k3.cell 7
            have c3_8 : U31.cell? ⟨(w.heap.size + 1 + 1), 8, none⟩ = some (.int .u64 0) := k3.cell 8
            have c3_9 : U31.cell? ⟨(w.heap.size + 1 + 1), 9, none⟩ = some (.int .u64 0) := k3.cell 9
            have c3_10 : U31.cell? ⟨(w.heap.size + 1 + 1), 10, none⟩ = some (.int .u64 0) := k3.cell 10
            have c3_11 : U31.cell? ⟨(w.heap.size + 1 + 1), 11, none⟩ = some (.int .u64 0) := k3.cell 11
            have f3_0 := k3.free 0
            have f3_1 := k3.free 1
            have f3_2 := k3.free 2
            have f3_3 := k3.free 3
            have f3_4 := k3.free 4
            have f3_5 := k3.free 5
            have f3_6 := k3.free 6
            have f3_7 := k3.free 7
            have f3_8 := k3.free 8
            have f3_9 := k3.free 9
            have f3_10 := k3.free 10
            have f3_11 := k3.free 11
            have l3 := k3.lt
            have e0 : 1 = R0 := by rw [← HR0.out]; unfold mtk; (try rw [Hz1.out]); (try rw [Hz2.out]); (try rw [Hz3.out]); (try rw [Hz4.out]); (try rw [Hr19.out]); (try rw [Hr20.out]); (try rw [Hr21.out]); (try rw [Hz22.out]); all_goals rfl
            have e1 : r19 = R1 := by rw [← HR1.out]; unfold mtx; (try rw [Hz1.out]); (try rw [Hz2.out]); (try rw [Hz3.out]); (try rw [Hz4.out]); (try rw [Hr19.out]); (try rw [Hr20.out]); (try rw [Hr21.out]); (try rw [Hz22.out]); all_goals rfl
            have e2 : r20 = R2 := by rw [← HR2.out]; unfold mty; (try rw [Hz1.out]); (try rw [Hz2.out]); (try rw [Hz3.out]); (try rw [Hz4.out]); (try rw [Hr19.out]); (try rw [Hr20.out]); (try rw [Hr21.out]); (try rw [Hz22.out]); all_goals rfl
            have e3 : r21 = R3 := by rw [← HR3.out]; unfold mtw; (try rw [Hz1.out]); (try rw [Hz2.out]); (try rw [Hz3.out]); (try rw [Hz4.out]); (try rw [Hr19.out]); (try rw [Hr20.out]); (try rw [Hr21.out]); (try rw [Hz22.out]); all_goals rfl
            subst e0
            subst e1
            subst e2
            subst e3
            go_wp2
            clear c3_0 c3_1 c3_2 c3_3 c3_4 c3_5 c3_6 c3_7 c3_8 c3_9 c3_10 c3_11 f3_0 f3_1 f3_2 f3_3 f3_4 f3_5 f3_6 f3_7 f3_8 f3_9 f3_10 f3_11 l3
            first | refine post_world ?_
            intro V32 hV32
            have D34 := Lib.hid k1.lt
            have D35 := Lib.hid k2.lt
            have D36 := Lib.hid k3.lt
            have D37 := Lib.hid hb0.size
            clear k1 k2
            have nk3 : Blk V32 (w.heap.size + 1 + 1) #[.int .u64 (wd0 r19), .int .u64 (wd1 r19), .int .u64 (wd2 r19), .int .u64 (wd3 r19), .int .u64 (wd0 r20), .int .u64 (wd1 r20), .int .u64 (wd2 r20), .int .u64 (wd3 r20), .int .u64 (wd0 r21), .int .u64 (wd1 r21), .int .u64 (wd2 r21), .int .u64 (wd3 r21)] 67 := by rw [hV32]; exact (blk_full _ [.int .u64 (wd0 r19), .int .u64 (wd1 r19), .int .u64 (wd2 r19), .int .u64 (wd3 r19), .int .u64 (wd0 r20), .int .u64 (wd1 r20), .int .u64 (wd2 r20), .int .u64 (wd3 r20), .int .u64 (wd0 r21), .int .u64 (wd1 r21), .int .u64 (wd2 r21), .int .u64 (wd3 r21)] k3 rfl)
            have nhb0 : Below w.heap.size w V32 := by rw [hV32]; exact (blw_setL hb0 (by omega) 0 [.int .u64 (wd0 r19), .int .u64 (wd1 r19), .int .u64 (wd2 r19), .int .u64 (wd3 r19), .int .u64 (wd0 r20), .int .u64 (wd1 r20), .int .u64 (wd2 r20), .int .u64 (wd3 r20), .int .u64 (wd0 r21), .int .u64 (wd1 r21), .int .u64 (wd2 r21), .int .u64 (wd3 r21)])
            clear k3
            clear hb0
            clear hV32
            have k3 := nk3
            clear nk3
            have hb0 := nhb0
            clear nhb0
            have g3_0 : V32.cell? ⟨(w.heap.size + 1 + 1), 0, none⟩ = some (.int .u64 (wd0 r19)) := k3.cell 0
            have g3_1 : V32.cell? ⟨(w.heap.size + 1 + 1), 1, none⟩ = some (.int .u64 (wd1 r19)) := k3.cell 1
            have g3_2 : V32.cell? ⟨(w.heap.size + 1 + 1), 2, none⟩ = some (.int .u64 (wd2 r19)) := k3.cell 2
            have g3_3 : V32.cell? ⟨(w.heap.size + 1 + 1), 3, none⟩ = some (.int .u64 (wd3 r19)) := k3.cell 3
            have g3_4 : V32.cell? ⟨(w.heap.size + 1 + 1), 4, none⟩ = some (.int .u64 (wd0 r20)) := k3.cell 4
            have g3_5 : V32.cell? ⟨(w.heap.size + 1 + 1), 5, none⟩ = some (.int .u64 (wd1 r20)) := k3.cell 5
            have g3_6 : V32.cell? ⟨(w.heap.size + 1 + 1), 6, none⟩ = some (.int .u64 (wd2 r20)) := k3.cell 6
            have g3_7 : V32.cell? ⟨(w.heap.size + 1 + 1), 7, none⟩ = some (.int .u64 (wd3 r20)) := k3.cell 7
            have g3_8 : V32.cell? ⟨(w.heap.size + 1 + 1), 8, none⟩ = some (.int .u64 (wd0 r21)) := k3.cell 8
            have g3_9 : V32.cell? ⟨(w.heap.size + 1 + 1), 9, none⟩ = some (.int .u64 (wd1 r21)) := k3.cell 9
            have g3_10 : V32.cell? ⟨(w.heap.size + 1 + 1), 10, none⟩ = some (.int .u64 (wd2 r21)) := k3.cell 10
            have g3_11 : V32.cell? ⟨(w.heap.size + 1 + 1), 11, none⟩ = some (.int .u64 (wd3 r21)) := k3.cell 11
            clear k3
            simp [bodyPost, results, Try.results49, go_sem, g3_0, g3_1, g3_2, g3_3, g3_4, g3_5, g3_6, g3_7, g3_8, g3_9, g3_10, g3_11]
            first | exact hb0 | exact ⟨rfl, hb0⟩
      · obtain ⟨r23, hr23⟩ : ∃ o_o : Int, atx ax ay = o_o := ⟨_, rfl⟩
        have Hr23 := Lib.hid hr23
        clear hr23
        obtain ⟨r24, hr24⟩ : ∃ o_o : Int, aty ax ay = o_o := ⟨_, rfl⟩
        have Hr24 := Lib.hid hr24
        clear hr24
        obtain ⟨r25, hr25⟩ : ∃ o_o : Int, atw ax ay = o_o := ⟨_, rfl⟩
        have Hr25 := Lib.hid hr25
        clear hr25
        have c1_0 : U4.cell? ⟨w.heap.size, 0, none⟩ = some (.int .i64 ax) := k1.cell 0
        have c1_1 : U4.cell? ⟨w.heap.size, 1, none⟩ = some (.int .i64 ay) := k1.cell 1
        have c1_2 : U4.cell? ⟨w.heap.size, 2, none⟩ = some (.int .i64 bx) := k1.cell 2
        have c1_3 : U4.cell? ⟨w.heap.size, 3, none⟩ = some (.int .i64 b_y) := k1.cell 3
        have l1 := k1.lt
        have c2_0 : U4.cell? ⟨(w.heap.size + 1), 0, none⟩ = some (.int .i64 cx) := k2.cell 0
        have c2_1 : U4.cell? ⟨(w.heap.size + 1), 1, none⟩ = some (.int .i64 cy) := k2.cell 1
        have c2_2 : U4.cell? ⟨(w.heap.size + 1), 2, none⟩ = some (.int .i64 dx) := k2.cell 2
        have c2_3 : U4.cell? ⟨(w.heap.size + 1), 3, none⟩ = some (.int .i64 dy) := k2.cell 3
        have l2 := k2.lt
        have Kk1 := Lib.hid k1
        clear k1
        have Kk2 := Lib.hid k2
        clear k2
        have Kk3 := Lib.hid k3
        clear k3
        refine wp_region_up U4.heap.size 7 [(true, 0), (false, 1), (true, 2), (true, 3), (true, 4), (true, 5), (false, 6)] (by kernel_rfl) (by kernel_rfl) (fun _ _ d _ _ h => by cases d <;> exact h) ?_
        have hb : Below U4.heap.size U4 U4.drew := (Below.refl _ _).drew
        refine wpS_takeL rfl rfl ?_
        go_big_quiet_step (rfl)
        refine wpQuiet_nil ?_
        refine wpS_doL rfl ?_
        intro K hK
        go_wp2_with ((first | (go_at_call 101; (with_reducible refine (dot_is ax ay bx b_y true Hz3.out _iax _iay _ibx _ib_y  _).mono ?_); rintro e w2 ⟨rfl, hn⟩) | (go_at_call 47; (with_reducible refine (crAt_is ax ay r23 r24 r25 Hr23.out Hr24.out Hr25.out _iax _iay  _).mono ?_); rintro e w2 ⟨rfl, hn⟩)))
        replace hb := hb.trans (hn.mono hb.size)
        refine hK.out _ _ (up_iff.2 hb) ?_
        clear hK K
        clear hn
        iterate 4
          refine wpS_takeL rfl rfl ?_
          go_big_quiet_step (rfl)
          refine wpQuiet_nil ?_
        refine wpS_doL rfl ?_
        intro K hK
        go_wp2_with ((first | (go_at_call 101; (with_reducible refine (dot_is ax ay bx b_y true Hz3.out _iax _iay _ibx _ib_y  _).mono ?_); rintro e w2 ⟨rfl, hn⟩) | (go_at_call 47; (with_reducible refine (crAt_is ax ay r23 r24 r25 Hr23.out Hr24.out Hr25.out _iax _iay  _).mono ?_); rintro e w2 ⟨rfl, hn⟩)))
        try replace hb := hb.trans (hn.mono hb.size)
        refine hK.out _ _ (up_iff.2 hb) ?_
        clear hK K
        try clear hn
        refine wpS_nil ?_
        simp only [List.drop_succ_cons, List.drop_zero]
        first | refine calls_w ?_ | refine name_world ?_ | refine list_world ?_ | refine post_world ?_
        intro U33 hU33
        first | subst hU33 | (rw [← hU33] at hb; clear hU33)
        clear c1_0 c1_1 c1_2 c1_3 l1 c2_0 c2_1 c2_2 c2_3 l2
        have k1 := Kk1.out.of hb
        clear Kk1
        have k2 := Kk2.out.of hb
        clear Kk2
        have k3 := Kk3.out.of hb
        clear Kk3
        replace hb0 := hb0.trans (hb.mono hb0.size)
        clear hb
        go_wp2_with fail
        obtain ⟨z26, hz26⟩ : ∃ o_o : Bool, hldB cx cy dx dy r23 r24 r25 = o_o := ⟨_, rfl⟩
        have Hz26 := Lib.hid hz26
        clear hz26
        refine (SegHolds_is cx cy dx dy r23 r24 r25 z26 Hz26.out _icx _icy _idx _idy (Hr23.out ▸ atx_in ax ay _iax _iay) (Hr24.out ▸ aty_in ax ay _iax _iay) (Hr25.out ▸ atw_in ax ay _iax _iay)  _).mono ?_
        rintro e U34 ⟨rfl, hn⟩
        replace k1 := k1.of hn
        replace k2 := k2.of hn
        replace k3 := k3.of hn
        replace hb0 := hb0.trans (hn.mono hb0.size)
        clear hn
        cases z26
        · go_wp2_with fail
          obtain ⟨z27, hz27⟩ : ∃ o_o : Bool, dotB cx cy dx dy = o_o := ⟨_, rfl⟩
          have Hz27 := Lib.hid hz27
          clear hz27
          cases z27
          · have c2_0 : U34.cell? ⟨(w.heap.size + 1), 0, none⟩ = some (.int .i64 cx) := k2.cell 0
            have c2_1 : U34.cell? ⟨(w.heap.size + 1), 1, none⟩ = some (.int .i64 cy) := k2.cell 1
            have c2_2 : U34.cell? ⟨(w.heap.size + 1), 2, none⟩ = some (.int .i64 dx) := k2.cell 2
            have c2_3 : U34.cell? ⟨(w.heap.size + 1), 3, none⟩ = some (.int .i64 dy) := k2.cell 3
            have l2 := k2.lt
            have Kk1 := Lib.hid k1
            clear k1
            have Kk2 := Lib.hid k2
            clear k2
            have Kk3 := Lib.hid k3
            clear k3
            refine wp_region_up U34.heap.size 7 [(true, 0), (false, 1), (true, 2), (true, 3), (true, 4), (true, 5), (false, 6)] (by kernel_rfl) (by kernel_rfl) (fun _ _ d _ _ h => by cases d <;> exact h) ?_
            have hb : Below U34.heap.size U34 U34.drew := (Below.refl _ _).drew
            refine wpS_takeL rfl rfl ?_
            go_big_quiet_step (rfl)
            refine wpQuiet_nil ?_
            refine wpS_doL rfl ?_
            intro K hK
            go_wp2_with ((go_at_call 101; (with_reducible refine (dot_is cx cy dx dy false Hz27.out _icx _icy _idx _idy  _).mono ?_); rintro e w2 ⟨rfl, hn⟩))
            replace hb := hb.trans (hn.mono hb.size)
            refine hK.out _ _ (up_iff.2 hb) ?_
            clear hK K
            clear hn
            iterate 4
              refine wpS_takeL rfl rfl ?_
              go_big_quiet_step (rfl)
              refine wpQuiet_nil ?_
            refine wpS_doL rfl ?_
            intro K hK
            go_wp2_with ((go_at_call 101; (with_reducible refine (dot_is cx cy dx dy false Hz27.out _icx _icy _idx _idy  _).mono ?_); rintro e w2 ⟨rfl, hn⟩))
            try replace hb := hb.trans (hn.mono hb.size)
            refine hK.out _ _ (up_iff.2 hb) ?_
            clear hK K
            try clear hn
            refine wpS_nil ?_
            simp only [List.drop_succ_cons, List.drop_zero]
            first | refine calls_w ?_ | refine name_world ?_ | refine list_world ?_ | refine post_world ?_
            intro U35 hU35
            first | subst hU35 | (rw [← hU35] at hb; clear hU35)
            clear c2_0 c2_1 c2_2 c2_3 l2
            have k1 := Kk1.out.of hb
            clear Kk1
            have k2 := Kk2.out.of hb
            clear Kk2
            have k3 := Kk3.out.of hb
            clear Kk3
            replace hb0 := hb0.trans (hb.mono hb0.size)
            clear hb
            have c1_0 : U35.cell? ⟨w.heap.size, 0, none⟩ = some (.int .i64 ax) := k1.cell 0
            have c1_1 : U35.cell? ⟨w.heap.size, 1, none⟩ = some (.int .i64 ay) := k1.cell 1
            have c1_2 : U35.cell? ⟨w.heap.size, 2, none⟩ = some (.int .i64 bx) := k1.cell 2
            have c1_3 : U35.cell? ⟨w.heap.size, 3, none⟩ = some (.int .i64 b_y) := k1.cell 3
            have l1 := k1.lt
            go_wp2_with fail
            clear c1_0 c1_1 c1_2 c1_3 l1
            refine (dot_is ax ay bx b_y true Hz3.out _iax _iay _ibx _ib_y  _).mono ?_
            rintro e U36 ⟨rfl, hn⟩
            replace k1 := k1.of hn
            replace k2 := k2.of hn
            replace k3 := k3.of hn
            replace hb0 := hb0.trans (hn.mono hb0.size)
            clear hn
            have c3_0 : U36.cell? ⟨(w.heap.size + 1 + 1), 0, none⟩ = some (.int .u64 0) := k3.cell 0
            have c3_1 : U36.cell? ⟨(w.heap.size + 1 + 1), 1, none⟩ = some (.int .u64 0) := k3.cell 1
            have c3_2 : U36.cell? ⟨(w.heap.size + 1 + 1), 2, none⟩ = some (.int .u64 0) := k3.cell 2
            have c3_3 : U36.cell? ⟨(w.heap.size + 1 + 1), 3, none⟩ = some (.int .u64 0) := k3.cell 3
            have c3_4 : U36.cell? ⟨(w.heap.size + 1 + 1), 4, none⟩ = some (.int .u64 0) := k3.cell 4
            have c3_5 : U36.cell? ⟨(w.heap.size + 1 + 1), 5, none⟩ = some (.int .u64 0) := k3.cell 5
            have c3_6 : U36.cell? ⟨(w.heap.size + 1 + 1), 6, none⟩ = some (.int .u64 0) := k3.cell 6
            have c3_7 : U36.cell? ⟨(w.heap.size + 1 + 1), 7, none⟩ = some (.int .u64 0) := k3.cell 7
            have c3_8 : U36.cell? ⟨(w.heap.size + 1 + 1), 8, none⟩ = some (.int .u64 0) := k3.cell 8
            have c3_9 : U36.cell? ⟨(w.heap.size + 1 + 1), 9, none⟩ = some (.int .u64 0) := k3.cell 9
            have c3_10 : U36.cell? ⟨(w.heap.size + 1 + 1), 10, none⟩ = some (.int .u64 0) := k3.cell 10
            have c3_11 : U36.cell? ⟨(w.heap.size + 1 + 1), 11, none⟩ = some (.int .u64 0) := k3.cell 11
            have f3_0 := k3.free 0
            have f3_1 := k3.free 1
            have f3_2 := k3.free 2
            have f3_3 := k3.free 3
            have f3_4 := k3.free 4
            have f3_5 := k3.free 5
            have f3_6 := k3.free 6
            have f3_7 := k3.free 7
            have f3_8 := k3.free 8
            have f3_9 := k3.free 9
            have f3_10 := k3.free 10
            have f3_11 := k3.free 11
            have l3 := k3.lt
            have e0 : 0 = R0 := by rw [← HR0.out]; unfold mtk; (try rw [Hz1.out]); (try rw [Hz2.out]); (try rw [Hz3.out]); (try rw [Hr23.out]); (try rw [Hr24.out]); (try rw [Hr25.out]); (try rw [Hz26.out]); (try rw [Hz27.out]); all_goals rfl
            have e1 : 0 = R1 := by rw [← HR1.out]; unfold mtx; (try rw [Hz1.out]); (try rw [Hz2.out]); (try rw [Hz3.out]); (try rw [Hr23.out]); (try rw [Hr24.out]); (try rw [Hr25.out]); (try rw [Hz26.out]); (try rw [Hz27.out]); all_goals rfl
            have e2 : 0 = R2 := by rw [← HR2.out]; unfold mty; (try rw [Hz1.out]); (try rw [Hz2.out]); (try rw [Hz3.out]); (try rw [Hr23.out]); (try rw [Hr24.out]); (try rw [Hr25.out]); (try rw [Hz26.out]); (try rw [Hz27.out]); all_goals rfl
            have e3 : 0 = R3 := by rw [← HR3.out]; unfold mtw; (try rw [Hz1.out]); (try rw [Hz2.out]); (try rw [Hz3.out]); (try rw [Hr23.out]); (try rw [Hr24.out]); (try rw [Hr25.out]); (try rw [Hz26.out]); (try rw [Hz27.out]); all_goals rfl
            subst e0
            subst e1
            subst e2
            subst e3
            go_wp2
            clear c3_0 c3_1 c3_2 c3_3 c3_4 c3_5 c3_6 c3_7 c3_8 c3_9 c3_10 c3_11 f3_0 f3_1 f3_2 f3_3 f3_4 f3_5 f3_6 f3_7 f3_8 f3_9 f3_10 f3_11 l3
            first | refine post_world ?_
            intro V37 hV37
            have D38 := Lib.hid k1.lt
            have D39 := Lib.hid k2.lt
            have D40 := Lib.hid k3.lt
            have D41 := Lib.hid hb0.size
            clear k1 k2
            have nk3 : Blk V37 (w.heap.size + 1 + 1) #[.int .u64 0, .int .u64 0, .int .u64 0, .int .u64 0, .int .u64 0, .int .u64 0, .int .u64 0, .int .u64 0, .int .u64 0, .int .u64 0, .int .u64 0, .int .u64 0] 67 := by rw [hV37]; exact (blk_full _ [.int .u64 0, .int .u64 0, .int .u64 0, .int .u64 0, .int .u64 0, .int .u64 0, .int .u64 0, .int .u64 0, .int .u64 0, .int .u64 0, .int .u64 0, .int .u64 0] k3 rfl)
            have nhb0 : Below w.heap.size w V37 := by rw [hV37]; exact (blw_setL hb0 (by omega) 0 [.int .u64 0, .int .u64 0, .int .u64 0, .int .u64 0, .int .u64 0, .int .u64 0, .int .u64 0, .int .u64 0, .int .u64 0, .int .u64 0, .int .u64 0, .int .u64 0])
            clear k3
            clear hb0
            clear hV37
            have k3 := nk3
            clear nk3
            have hb0 := nhb0
            clear nhb0
            have g3_0 : V37.cell? ⟨(w.heap.size + 1 + 1), 0, none⟩ = some (.int .u64 0) := k3.cell 0
            have g3_1 : V37.cell? ⟨(w.heap.size + 1 + 1), 1, none⟩ = some (.int .u64 0) := k3.cell 1
            have g3_2 : V37.cell? ⟨(w.heap.size + 1 + 1), 2, none⟩ = some (.int .u64 0) := k3.cell 2
            have g3_3 : V37.cell? ⟨(w.heap.size + 1 + 1), 3, none⟩ = some (.int .u64 0) := k3.cell 3
            have g3_4 : V37.cell? ⟨(w.heap.size + 1 + 1), 4, none⟩ = some (.int .u64 0) := k3.cell 4
            have g3_5 : V37.cell? ⟨(w.heap.size + 1 + 1), 5, none⟩ = some (.int .u64 0) := k3.cell 5
            have g3_6 : V37.cell? ⟨(w.heap.size + 1 + 1), 6, none⟩ = some (.int .u64 0) := k3.cell 6
            have g3_7 : V37.cell? ⟨(w.heap.size + 1 + 1), 7, none⟩ = some (.int .u64 0) := k3.cell 7
            have g3_8 : V37.cell? ⟨(w.heap.size + 1 + 1), 8, none⟩ = some (.int .u64 0) := k3.cell 8
            have g3_9 : V37.cell? ⟨(w.heap.size + 1 + 1), 9, none⟩ = some (.int .u64 0) := k3.cell 9
            have g3_10 : V37.cell? ⟨(w.heap.size + 1 + 1), 10, none⟩ = some (.int .u64 0) := k3.cell 10
            have g3_11 : V37.cell? ⟨(w.heap.size + 1 + 1), 11, none⟩ = some (.int .u64 0) := k3.cell 11
            clear k3
            simp [bodyPost, results, Try.results49, go_sem, g3_0, g3_1, g3_2, g3_3, g3_4, g3_5, g3_6, g3_7, g3_8, g3_9, g3_10, g3_11, wd0_0, wd1_0, wd2_0, wd3_0]
            first | exact hb0 | exact ⟨rfl, hb0⟩
          · obtain ⟨r28, hr28⟩ : ∃ o_o : Int, atx cx cy = o_o := ⟨_, rfl⟩
            have Hr28 := Lib.hid hr28
            clear hr28
            obtain ⟨r29, hr29⟩ : ∃ o_o : Int, aty cx cy = o_o := ⟨_, rfl⟩
            have Hr29 := Lib.hid hr29
            clear hr29
            obtain ⟨r30, hr30⟩ : ∃ o_o : Int, atw cx cy = o_o := ⟨_, rfl⟩
            have Hr30 := Lib.hid hr30
            clear hr30
            have c1_0 : U34.cell? ⟨w.heap.size, 0, none⟩ = some (.int .i64 ax) := k1.cell 0
            have c1_1 : U34.cell? ⟨w.heap.size, 1, none⟩ = some (.int .i64 ay) := k1.cell 1
            have c1_2 : U34.cell? ⟨w.heap.size, 2, none⟩ = some (.int .i64 bx) := k1.cell 2
            have c1_3 : U34.cell? ⟨w.heap.size, 3, none⟩ = some (.int .i64 b_y) := k1.cell 3
            have l1 := k1.lt
            have c2_0 : U34.cell? ⟨(w.heap.size + 1), 0, none⟩ = some (.int .i64 cx) := k2.cell 0
            have c2_1 : U34.cell? ⟨(w.heap.size + 1), 1, none⟩ = some (.int .i64 cy) := k2.cell 1
            have c2_2 : U34.cell? ⟨(w.heap.size + 1), 2, none⟩ = some (.int .i64 dx) := k2.cell 2
            have c2_3 : U34.cell? ⟨(w.heap.size + 1), 3, none⟩ = some (.int .i64 dy) := k2.cell 3
            have l2 := k2.lt
            have Kk1 := Lib.hid k1
            clear k1
            have Kk2 := Lib.hid k2
            clear k2
            have Kk3 := Lib.hid k3
            clear k3
            refine wp_region_up U34.heap.size 7 [(true, 0), (false, 1), (true, 2), (true, 3), (true, 4), (true, 5), (false, 6)] (by kernel_rfl) (by kernel_rfl) (fun _ _ d _ _ h => by cases d <;> exact h) ?_
            have hb : Below U34.heap.size U34 U34.drew := (Below.refl _ _).drew
            refine wpS_takeL rfl rfl ?_
            go_big_quiet_step (rfl)
            refine wpQuiet_nil ?_
            refine wpS_doL rfl ?_
            intro K hK
            go_wp2_with ((first | (go_at_call 101; (with_reducible refine (dot_is cx cy dx dy true Hz27.out _icx _icy _idx _idy  _).mono ?_); rintro e w2 ⟨rfl, hn⟩) | (go_at_call 47; (with_reducible refine (crAt_is cx cy r28 r29 r30 Hr28.out Hr29.out Hr30.out _icx _icy  _).mono ?_); rintro e w2 ⟨rfl, hn⟩)))
            replace hb := hb.trans (hn.mono hb.size)
            refine hK.out _ _ (up_iff.2 hb) ?_
            clear hK K
            clear hn
            iterate 4
              refine wpS_takeL rfl rfl ?_
              go_big_quiet_step (rfl)
              refine wpQuiet_nil ?_
            refine wpS_doL rfl ?_
            intro K hK
            go_wp2_with ((first | (go_at_call 101; (with_reducible refine (dot_is cx cy dx dy true Hz27.out _icx _icy _idx _idy  _).mono ?_); rintro e w2 ⟨rfl, hn⟩) | (go_at_call 47; (with_reducible refine (crAt_is cx cy r28 r29 r30 Hr28.out Hr29.out Hr30.out _icx _icy  _).mono ?_); rintro e w2 ⟨rfl, hn⟩)))
            try replace hb := hb.trans (hn.mono hb.size)
            refine hK.out _ _ (up_iff.2 hb) ?_
            clear hK K
            try clear hn
            refine wpS_nil ?_
            simp only [List.drop_succ_cons, List.drop_zero]
            first | refine calls_w ?_ | refine name_world ?_ | refine list_world ?_ | refine post_world ?_
            intro U38 hU38
            first | subst hU38 | (rw [← hU38] at hb; clear hU38)
            clear c1_0 c1_1 c1_2 c1_3 l1 c2_0 c2_1 c2_2 c2_3 l2
            have k1 := Kk1.out.of hb
            clear Kk1
            have k2 := Kk2.out.of hb
            clear Kk2
            have k3 := Kk3.out.of hb
            clear Kk3
            replace hb0 := hb0.trans (hb.mono hb0.size)
            clear hb
            go_wp2_with fail
            obtain ⟨z31, hz31⟩ : ∃ o_o : Bool, hldB ax ay bx b_y r28 r29 r30 = o_o := ⟨_, rfl⟩
            have Hz31 := Lib.hid hz31
            clear hz31
            refine (SegHolds_is ax ay bx b_y r28 r29 r30 z31 Hz31.out _iax _iay _ibx _ib_y (Hr28.out ▸ atx_in cx cy _icx _icy) (Hr29.out ▸ aty_in cx cy _icx _icy) (Hr30.out ▸ atw_in cx cy _icx _icy)  _).mono ?_
            rintro e U39 ⟨rfl, hn⟩
            replace k1 := k1.of hn
            replace k2 := k2.of hn
            replace k3 := k3.of hn
            replace hb0 := hb0.trans (hn.mono hb0.size)
            clear hn
            cases z31
            · have c1_0 : U39.cell? ⟨w.heap.size, 0, none⟩ = some (.int .i64 ax) := k1.cell 0
              have c1_1 : U39.cell? ⟨w.heap.size, 1, none⟩ = some (.int .i64 ay) := k1.cell 1
              have c1_2 : U39.cell? ⟨w.heap.size, 2, none⟩ = some (.int .i64 bx) := k1.cell 2
              have c1_3 : U39.cell? ⟨w.heap.size, 3, none⟩ = some (.int .i64 b_y) := k1.cell 3
              have l1 := k1.lt
              go_wp2_with fail
              clear c1_0 c1_1 c1_2 c1_3 l1
              refine (dot_is ax ay bx b_y true Hz3.out _iax _iay _ibx _ib_y  _).mono ?_
              rintro e U40 ⟨rfl, hn⟩
              replace k1 := k1.of hn
              replace k2 := k2.of hn
              replace k3 := k3.of hn
              replace hb0 := hb0.trans (hn.mono hb0.size)
              clear hn
              have c3_0 : U40.cell? ⟨(w.heap.size + 1 + 1), 0, none⟩ = some (.int .u64 0) := k3.cell 0
              have c3_1 : U40.cell? ⟨(w.heap.size + 1 + 1), 1, none⟩ = some (.int .u64 0) := k3.cell 1
              have c3_2 : U40.cell? ⟨(w.heap.size + 1 + 1), 2, none⟩ = some (.int .u64 0) := k3.cell 2
              have c3_3 : U40.cell? ⟨(w.heap.size + 1 + 1), 3, none⟩ = some (.int .u64 0) := k3.cell 3
              have c3_4 : U40.cell? ⟨(w.heap.size + 1 + 1), 4, none⟩ = some (.int .u64 0) := k3.cell 4
              have c3_5 : U40.cell? ⟨(w.heap.size + 1 + 1), 5, none⟩ = some (.int .u64 0) := k3.cell 5
              have c3_6 : U40.cell? ⟨(w.heap.size + 1 + 1), 6, none⟩ = some (.int .u64 0) := k3.cell 6
              have c3_7 : U40.cell? ⟨(w.heap.size + 1 + 1), 7, none⟩ = some (.int .u64 0) := k3.cell 7
              have c3_8 : U40.cell? ⟨(w.heap.size + 1 + 1), 8, none⟩ = some (.int .u64 0) := k3.cell 8
              have c3_9 : U40.cell? ⟨(w.heap.size + 1 + 1), 9, none⟩ = some (.int .u64 0) := k3.cell 9
              have c3_10 : U40.cell? ⟨(w.heap.size + 1 + 1), 10, none⟩ = some (.int .u64 0) := k3.cell 10
              have c3_11 : U40.cell? ⟨(w.heap.size + 1 + 1), 11, none⟩ = some (.int .u64 0) := k3.cell 11
              have f3_0 := k3.free 0
              have f3_1 := k3.free 1
              have f3_2 := k3.free 2
              have f3_3 := k3.free 3
              have f3_4 := k3.free 4
              have f3_5 := k3.free 5
              have f3_6 := k3.free 6
              have f3_7 := k3.free 7
              have f3_8 := k3.free 8
              have f3_9 := k3.free 9
              have f3_10 := k3.free 10
              have f3_11 := k3.free 11
              have l3 := k3.lt
              have e0 : 0 = R0 := by rw [← HR0.out]; unfold mtk; (try rw [Hz1.out]); (try rw [Hz2.out]); (try rw [Hz3.out]); (try rw [Hr23.out]); (try rw [Hr24.out]); (try rw [Hr25.out]); (try rw [Hz26.out]); (try rw [Hz27.out]); (try rw [Hr28.out]); (try rw [Hr29.out]); (try rw [Hr30.out]); (try rw [Hz31.out]); all_goals rfl
              have e1 : 0 = R1 := by rw [← HR1.out]; unfold mtx; (try rw [Hz1.out]); (try rw [Hz2.out]); (try rw [Hz3.out]); (try rw [Hr23.out]); (try rw [Hr24.out]); (try rw [Hr25.out]); (try rw [Hz26.out]); (try rw [Hz27.out]); (try rw [Hr28.out]); (try rw [Hr29.out]); (try rw [Hr30.out]); (try rw [Hz31.out]); all_goals rfl
              have e2 : 0 = R2 := by rw [← HR2.out]; unfold mty; (try rw [Hz1.out]); (try rw [Hz2.out]); (try rw [Hz3.out]); (try rw [Hr23.out]); (try rw [Hr24.out]); (try rw [Hr25.out]); (try rw [Hz26.out]); (try rw [Hz27.out]); (try rw [Hr28.out]); (try rw [Hr29.out]); (try rw [Hr30.out]); (try rw [Hz31.out]); all_goals rfl
              have e3 : 0 = R3 := by rw [← HR3.out]; unfold mtw; (try rw [Hz1.out]); (try rw [Hz2.out]); (try rw [Hz3.out]); (try rw [Hr23.out]); (try rw [Hr24.out]); (try rw [Hr25.out]); (try rw [Hz26.out]); (try rw [Hz27.out]); (try rw [Hr28.out]); (try rw [Hr29.out]); (try rw [Hr30.out]); (try rw [Hz31.out]); all_goals rfl
              subst e0
              subst e1
              subst e2
              subst e3
              go_wp2
              clear c3_0 c3_1 c3_2 c3_3 c3_4 c3_5 c3_6 c3_7 c3_8 c3_9 c3_10 c3_11 f3_0 f3_1 f3_2 f3_3 f3_4 f3_5 f3_6 f3_7 f3_8 f3_9 f3_10 f3_11 l3
              first | refine post_world ?_
              intro V41 hV41
              have D42 := Lib.hid k1.lt
              have D43 := Lib.hid k2.lt
              have D44 := Lib.hid k3.lt
              have D45 := Lib.hid hb0.size
              clear k1 k2
              have nk3 : Blk V41 (w.heap.size + 1 + 1) #[.int .u64 0, .int .u64 0, .int .u64 0, .int .u64 0, .int .u64 0, .int .u64 0, .int .u64 0, .int .u64 0, .int .u64 0, .int .u64 0, .int .u64 0, .int .u64 0] 67 := by rw [hV41]; exact (blk_full _ [.int .u64 0, .int .u64 0, .int .u64 0, .int .u64 0, .int .u64 0, .int .u64 0, .int .u64 0, .int .u64 0, .int .u64 0, .int .u64 0, .int .u64 0, .int .u64 0] k3 rfl)
              have nhb0 : Below w.heap.size w V41 := by rw [hV41]; exact (blw_setL hb0 (by omega) 0 [.int .u64 0, .int .u64 0, .int .u64 0, .int .u64 0, .int .u64 0, .int .u64 0, .int .u64 0, .int .u64 0, .int .u64 0, .int .u64 0, .int .u64 0, .int .u64 0])
              clear k3
              clear hb0
              clear hV41
              have k3 := nk3
              clear nk3
              have hb0 := nhb0
              clear nhb0
              have g3_0 : V41.cell? ⟨(w.heap.size + 1 + 1), 0, none⟩ = some (.int .u64 0) := k3.cell 0
              have g3_1 : V41.cell? ⟨(w.heap.size + 1 + 1), 1, none⟩ = some (.int .u64 0) := k3.cell 1
              have g3_2 : V41.cell? ⟨(w.heap.size + 1 + 1), 2, none⟩ = some (.int .u64 0) := k3.cell 2
              have g3_3 : V41.cell? ⟨(w.heap.size + 1 + 1), 3, none⟩ = some (.int .u64 0) := k3.cell 3
              have g3_4 : V41.cell? ⟨(w.heap.size + 1 + 1), 4, none⟩ = some (.int .u64 0) := k3.cell 4
              have g3_5 : V41.cell? ⟨(w.heap.size + 1 + 1), 5, none⟩ = some (.int .u64 0) := k3.cell 5
              have g3_6 : V41.cell? ⟨(w.heap.size + 1 + 1), 6, none⟩ = some (.int .u64 0) := k3.cell 6
              have g3_7 : V41.cell? ⟨(w.heap.size + 1 + 1), 7, none⟩ = some (.int .u64 0) := k3.cell 7
              have g3_8 : V41.cell? ⟨(w.heap.size + 1 + 1), 8, none⟩ = some (.int .u64 0) := k3.cell 8
              have g3_9 : V41.cell? ⟨(w.heap.size + 1 + 1), 9, none⟩ = some (.int .u64 0) := k3.cell 9
              have g3_10 : V41.cell? ⟨(w.heap.size + 1 + 1), 10, none⟩ = some (.int .u64 0) := k3.cell 10
              have g3_11 : V41.cell? ⟨(w.heap.size + 1 + 1), 11, none⟩ = some (.int .u64 0) := k3.cell 11
              clear k3
              simp [bodyPost, results, Try.results49, go_sem, g3_0, g3_1, g3_2, g3_3, g3_4, g3_5, g3_6, g3_7, g3_8, g3_9, g3_10, g3_11, wd0_0, wd1_0, wd2_0, wd3_0]
              first | exact hb0 | exact ⟨rfl, hb0⟩
            · have c2_0 : U39.cell? ⟨(w.heap.size + 1), 0, none⟩ = some (.int .i64 cx) := k2.cell 0
              have c2_1 : U39.cell? ⟨(w.heap.size + 1), 1, none⟩ = some (.int .i64 cy) := k2.cell 1
              have l2 := k2.lt
              go_wp2_with fail
              clear c2_0 c2_1 l2
              refine (crAt_is cx cy r28 r29 r30 Hr28.out Hr29.out Hr30.out _icx _icy  _).mono ?_
              rintro e U42 ⟨rfl, hn⟩
              replace k1 := k1.of hn
              replace k2 := k2.of hn
              replace k3 := k3.of hn
              replace hb0 := hb0.trans (hn.mono hb0.size)
              clear hn
              have c3_0 : U42.cell? ⟨(w.heap.size + 1 + 1), 0, none⟩ = some (.int .u64 0) := k3.cell 0
              have c3_1 : U42.cell? ⟨(w.heap.size + 1 + 1), 1, none⟩ = some (.int .u64 0) := k3.cell 1
              have c3_2 : U42.cell? ⟨(w.heap.size + 1 + 1), 2, none⟩ = some (.int .u64 0) := k3.cell 2
              have c3_3 : U42.cell? ⟨(w.heap.size + 1 + 1), 3, none⟩ = some (.int .u64 0) := k3.cell 3
              have c3_4 : U42.cell? ⟨(w.heap.size + 1 + 1), 4, none⟩ = some (.int .u64 0) := k3.cell 4
              have c3_5 : U42.cell? ⟨(w.heap.size + 1 + 1), 5, none⟩ = some (.int .u64 0) := k3.cell 5
              have c3_6 : U42.cell? ⟨(w.heap.size + 1 + 1), 6, none⟩ = some (.int .u64 0) := k3.cell 6
              have c3_7 : U42.cell? ⟨(w.heap.size + 1 + 1), 7, none⟩ = some (.int .u64 0) := k3.cell 7
              have c3_8 : U42.cell? ⟨(w.heap.size + 1 + 1), 8, none⟩ = some (.int .u64 0) := k3.cell 8
              have c3_9 : U42.cell? ⟨(w.heap.size + 1 + 1), 9, none⟩ = some (.int .u64 0) := k3.cell 9
              have c3_10 : U42.cell? ⟨(w.heap.size + 1 + 1), 10, none⟩ = some (.int .u64 0) := k3.cell 10
              have c3_11 : U42.cell? ⟨(w.heap.size + 1 + 1), 11, none⟩ = some (.int .u64 0) := k3.cell 11
              have f3_0 := k3.free 0
              have f3_1 := k3.free 1
              have f3_2 := k3.free 2
              have f3_3 := k3.free 3
              have f3_4 := k3.free 4
              have f3_5 := k3.free 5
              have f3_6 := k3.free 6
              have f3_7 := k3.free 7
              have f3_8 := k3.free 8
              have f3_9 := k3.free 9
              have f3_10 := k3.free 10
              have f3_11 := k3.free 11
              have l3 := k3.lt
              have e0 : 1 = R0 := by rw [← HR0.out]; unfold mtk; (try rw [Hz1.out]); (try rw [Hz2.out]); (try rw [Hz3.out]); (try rw [Hr23.out]); (try rw [Hr24.out]); (try rw [Hr25.out]); (try rw [Hz26.out]); (try rw [Hz27.out]); (try rw [Hr28.out]); (try rw [Hr29.out]); (try rw [Hr30.out]); (try rw [Hz31.out]); all_goals rfl
              have e1 : r28 = R1 := by rw [← HR1.out]; unfold mtx; (try rw [Hz1.out]); (try rw [Hz2.out]); (try rw [Hz3.out]); (try rw [Hr23.out]); (try rw [Hr24.out]); (try rw [Hr25.out]); (try rw [Hz26.out]); (try rw [Hz27.out]); (try rw [Hr28.out]); (try rw [Hr29.out]); (try rw [Hr30.out]); (try rw [Hz31.out]); all_goals rfl
              have e2 : r29 = R2 := by rw [← HR2.out]; unfold mty; (try rw [Hz1.out]); (try rw [Hz2.out]); (try rw [Hz3.out]); (try rw [Hr23.out]); (try rw [Hr24.out]); (try rw [Hr25.out]); (try rw [Hz26.out]); (try rw [Hz27.out]); (try rw [Hr28.out]); (try rw [Hr29.out]); (try rw [Hr30.out]); (try rw [Hz31.out]); all_goals rfl
              have e3 : r30 = R3 := by rw [← HR3.out]; unfold mtw; (try rw [Hz1.out]); (try rw [Hz2.out]); (try rw [Hz3.out]); (try rw [Hr23.out]); (try rw [Hr24.out]); (try rw [Hr25.out]); (try rw [Hz26.out]); (try rw [Hz27.out]); (try rw [Hr28.out]); (try rw [Hr29.out]); (try rw [Hr30.out]); (try rw [Hz31.out]); all_goals rfl
              subst e0
              subst e1
              subst e2
              subst e3
              go_wp2
              clear c3_0 c3_1 c3_2 c3_3 c3_4 c3_5 c3_6 c3_7 c3_8 c3_9 c3_10 c3_11 f3_0 f3_1 f3_2 f3_3 f3_4 f3_5 f3_6 f3_7 f3_8 f3_9 f3_10 f3_11 l3
              first | refine post_world ?_
              intro V43 hV43
              have D46 := Lib.hid k1.lt
              have D47 := Lib.hid k2.lt
              have D48 := Lib.hid k3.lt
              have D49 := Lib.hid hb0.size
              clear k1 k2
              have nk3 : Blk V43 (w.heap.size + 1 + 1) #[.int .u64 (wd0 r28), .int .u64 (wd1 r28), .int .u64 (wd2 r28), .int .u64 (wd3 r28), .int .u64 (wd0 r29), .int .u64 (wd1 r29), .int .u64 (wd2 r29), .int .u64 (wd3 r29), .int .u64 (wd0 r30), .int .u64 (wd1 r30), .int .u64 (wd2 r30), .int .u64 (wd3 r30)] 67 := by rw [hV43]; exact (blk_full _ [.int .u64 (wd0 r28), .int .u64 (wd1 r28), .int .u64 (wd2 r28), .int .u64 (wd3 r28), .int .u64 (wd0 r29), .int .u64 (wd1 r29), .int .u64 (wd2 r29), .int .u64 (wd3 r29), .int .u64 (wd0 r30), .int .u64 (wd1 r30), .int .u64 (wd2 r30), .int .u64 (wd3 r30)] k3 rfl)
              have nhb0 : Below w.heap.size w V43 := by rw [hV43]; exact (blw_setL hb0 (by omega) 0 [.int .u64 (wd0 r28), .int .u64 (wd1 r28), .int .u64 (wd2 r28), .int .u64 (wd3 r28), .int .u64 (wd0 r29), .int .u64 (wd1 r29), .int .u64 (wd2 r29), .int .u64 (wd3 r29), .int .u64 (wd0 r30), .int .u64 (wd1 r30), .int .u64 (wd2 r30), .int .u64 (wd3 r30)])
              clear k3
              clear hb0
              clear hV43
              have k3 := nk3
              clear nk3
              have hb0 := nhb0
              clear nhb0
              have g3_0 : V43.cell? ⟨(w.heap.size + 1 + 1), 0, none⟩ = some (.int .u64 (wd0 r28)) := k3.cell 0
              have g3_1 : V43.cell? ⟨(w.heap.size + 1 + 1), 1, none⟩ = some (.int .u64 (wd1 r28)) := k3.cell 1
              have g3_2 : V43.cell? ⟨(w.heap.size + 1 + 1), 2, none⟩ = some (.int .u64 (wd2 r28)) := k3.cell 2
              have g3_3 : V43.cell? ⟨(w.heap.size + 1 + 1), 3, none⟩ = some (.int .u64 (wd3 r28)) := k3.cell 3
              have g3_4 : V43.cell? ⟨(w.heap.size + 1 + 1), 4, none⟩ = some (.int .u64 (wd0 r29)) := k3.cell 4
              have g3_5 : V43.cell? ⟨(w.heap.size + 1 + 1), 5, none⟩ = some (.int .u64 (wd1 r29)) := k3.cell 5
              have g3_6 : V43.cell? ⟨(w.heap.size + 1 + 1), 6, none⟩ = some (.int .u64 (wd2 r29)) := k3.cell 6
              have g3_7 : V43.cell? ⟨(w.heap.size + 1 + 1), 7, none⟩ = some (.int .u64 (wd3 r29)) := k3.cell 7
              have g3_8 : V43.cell? ⟨(w.heap.size + 1 + 1), 8, none⟩ = some (.int .u64 (wd0 r30)) := k3.cell 8
              have g3_9 : V43.cell? ⟨(w.heap.size + 1 + 1), 9, none⟩ = some (.int .u64 (wd1 r30)) := k3.cell 9
              have g3_10 : V43.cell? ⟨(w.heap.size + 1 + 1), 10, none⟩ = some (.int .u64 (wd2 r30)) := k3.cell 10
              have g3_11 : V43.cell? ⟨(w.heap.size + 1 + 1), 11, none⟩ = some (.int .u64 (wd3 r30)) := k3.cell 11
              clear k3
              simp [bodyPost, results, Try.results49, go_sem, g3_0, g3_1, g3_2, g3_3, g3_4, g3_5, g3_6, g3_7, g3_8, g3_9, g3_10, g3_11]
              first | exact hb0 | exact ⟨rfl, hb0⟩
        · have c1_0 : U34.cell? ⟨w.heap.size, 0, none⟩ = some (.int .i64 ax) := k1.cell 0
          have c1_1 : U34.cell? ⟨w.heap.size, 1, none⟩ = some (.int .i64 ay) := k1.cell 1
          have l1 := k1.lt
          go_wp2_with fail
          clear c1_0 c1_1 l1
          refine (crAt_is ax ay r23 r24 r25 Hr23.out Hr24.out Hr25.out _iax _iay  _).mono ?_
          rintro e U44 ⟨rfl, hn⟩
          replace k1 := k1.of hn
          replace k2 := k2.of hn
          replace k3 := k3.of hn
          replace hb0 := hb0.trans (hn.mono hb0.size)
          clear hn
          have c3_0 : U44.cell? ⟨(w.heap.size + 1 + 1), 0, none⟩ = some (.int .u64 0) := k3.cell 0
          have c3_1 : U44.cell? ⟨(w.heap.size + 1 + 1), 1, none⟩ = some (.int .u64 0) := k3.cell 1
          have c3_2 : U44.cell? ⟨(w.heap.size + 1 + 1), 2, none⟩ = some (.int .u64 0) := k3.cell 2
          have c3_3 : U44.cell? ⟨(w.heap.size + 1 + 1), 3, none⟩ = some (.int .u64 0) := k3.cell 3
          have c3_4 : U44.cell? ⟨(w.heap.size + 1 + 1), 4, none⟩ = some (.int .u64 0) := k3.cell 4
          have c3_5 : U44.cell? ⟨(w.heap.size + 1 + 1), 5, none⟩ = some (.int .u64 0) := k3.cell 5
          have c3_6 : U44.cell? ⟨(w.heap.size + 1 + 1), 6, none⟩ = some (.int .u64 0) := k3.cell 6
          have c3_7 : U44.cell? ⟨(w.heap.size + 1 + 1), 7, none⟩ = some (.int .u64 0) := k3.cell 7
          have c3_8 : U44.cell? ⟨(w.heap.size + 1 + 1), 8, none⟩ = some (.int .u64 0) := k3.cell 8
          have c3_9 : U44.cell? ⟨(w.heap.size + 1 + 1), 9, none⟩ = some (.int .u64 0) := k3.cell 9
          have c3_10 : U44.cell? ⟨(w.heap.size + 1 + 1), 10, none⟩ = some (.int .u64 0) := k3.cell 10
          have c3_11 : U44.cell? ⟨(w.heap.size + 1 + 1), 11, none⟩ = some (.int .u64 0) := k3.cell 11
          have f3_0 := k3.free 0
          have f3_1 := k3.free 1
          have f3_2 := k3.free 2
          have f3_3 := k3.free 3
          have f3_4 := k3.free 4
          have f3_5 := k3.free 5
          have f3_6 := k3.free 6
          have f3_7 := k3.free 7
          have f3_8 := k3.free 8
          have f3_9 := k3.free 9
          have f3_10 := k3.free 10
          have f3_11 := k3.free 11
          have l3 := k3.lt
          have e0 : 1 = R0 := by rw [← HR0.out]; unfold mtk; (try rw [Hz1.out]); (try rw [Hz2.out]); (try rw [Hz3.out]); (try rw [Hr23.out]); (try rw [Hr24.out]); (try rw [Hr25.out]); (try rw [Hz26.out]); all_goals rfl
          have e1 : r23 = R1 := by rw [← HR1.out]; unfold mtx; (try rw [Hz1.out]); (try rw [Hz2.out]); (try rw [Hz3.out]); (try rw [Hr23.out]); (try rw [Hr24.out]); (try rw [Hr25.out]); (try rw [Hz26.out]); all_goals rfl
          have e2 : r24 = R2 := by rw [← HR2.out]; unfold mty; (try rw [Hz1.out]); (try rw [Hz2.out]); (try rw [Hz3.out]); (try rw [Hr23.out]); (try rw [Hr24.out]); (try rw [Hr25.out]); (try rw [Hz26.out]); all_goals rfl
          have e3 : r25 = R3 := by rw [← HR3.out]; unfold mtw; (try rw [Hz1.out]); (try rw [Hz2.out]); (try rw [Hz3.out]); (try rw [Hr23.out]); (try rw [Hr24.out]); (try rw [Hr25.out]); (try rw [Hz26.out]); all_goals rfl
          subst e0
          subst e1
          subst e2
          subst e3
          go_wp2
          clear c3_0 c3_1 c3_2 c3_3 c3_4 c3_5 c3_6 c3_7 c3_8 c3_9 c3_10 c3_11 f3_0 f3_1 f3_2 f3_3 f3_4 f3_5 f3_6 f3_7 f3_8 f3_9 f3_10 f3_11 l3
          first | refine post_world ?_
          intro V45 hV45
          have D50 := Lib.hid k1.lt
          have D51 := Lib.hid k2.lt
          have D52 := Lib.hid k3.lt
          have D53 := Lib.hid hb0.size
          clear k1 k2
          have nk3 : Blk V45 (w.heap.size + 1 + 1) #[.int .u64 (wd0 r23), .int .u64 (wd1 r23), .int .u64 (wd2 r23), .int .u64 (wd3 r23), .int .u64 (wd0 r24), .int .u64 (wd1 r24), .int .u64 (wd2 r24), .int .u64 (wd3 r24), .int .u64 (wd0 r25), .int .u64 (wd1 r25), .int .u64 (wd2 r25), .int .u64 (wd3 r25)] 67 := by rw [hV45]; exact (blk_full _ [.int .u64 (wd0 r23), .int .u64 (wd1 r23), .int .u64 (wd2 r23), .int .u64 (wd3 r23), .int .u64 (wd0 r24), .int .u64 (wd1 r24), .int .u64 (wd2 r24), .int .u64 (wd3 r24), .int .u64 (wd0 r25), .int .u64 (wd1 r25), .int .u64 (wd2 r25), .int .u64 (wd3 r25)] k3 rfl)
          have nhb0 : Below w.heap.size w V45 := by rw [hV45]; exact (blw_setL hb0 (by omega) 0 [.int .u64 (wd0 r23), .int .u64 (wd1 r23), .int .u64 (wd2 r23), .int .u64 (wd3 r23), .int .u64 (wd0 r24), .int .u64 (wd1 r24), .int .u64 (wd2 r24), .int .u64 (wd3 r24), .int .u64 (wd0 r25), .int .u64 (wd1 r25), .int .u64 (wd2 r25), .int .u64 (wd3 r25)])
          clear k3
          clear hb0
          clear hV45
          have k3 := nk3
          clear nk3
          have hb0 := nhb0
          clear nhb0
          have g3_0 : V45.cell? ⟨(w.heap.size + 1 + 1), 0, none⟩ = some (.int .u64 (wd0 r23)) := k3.cell 0
          have g3_1 : V45.cell? ⟨(w.heap.size + 1 + 1), 1, none⟩ = some (.int .u64 (wd1 r23)) := k3.cell 1
          have g3_2 : V45.cell? ⟨(w.heap.size + 1 + 1), 2, none⟩ = some (.int .u64 (wd2 r23)) := k3.cell 2
          have g3_3 : V45.cell? ⟨(w.heap.size + 1 + 1), 3, none⟩ = some (.int .u64 (wd3 r23)) := k3.cell 3
          have g3_4 : V45.cell? ⟨(w.heap.size + 1 + 1), 4, none⟩ = some (.int .u64 (wd0 r24)) := k3.cell 4
          have g3_5 : V45.cell? ⟨(w.heap.size + 1 + 1), 5, none⟩ = some (.int .u64 (wd1 r24)) := k3.cell 5
          have g3_6 : V45.cell? ⟨(w.heap.size + 1 + 1), 6, none⟩ = some (.int .u64 (wd2 r24)) := k3.cell 6
          have g3_7 : V45.cell? ⟨(w.heap.size + 1 + 1), 7, none⟩ = some (.int .u64 (wd3 r24)) := k3.cell 7
          have g3_8 : V45.cell? ⟨(w.heap.size + 1 + 1), 8, none⟩ = some (.int .u64 (wd0 r25)) := k3.cell 8
          have g3_9 : V45.cell? ⟨(w.heap.size + 1 + 1), 9, none⟩ = some (.int .u64 (wd1 r25)) := k3.cell 9
          have g3_10 : V45.cell? ⟨(w.heap.size + 1 + 1), 10, none⟩ = some (.int .u64 (wd2 r25)) := k3.cell 10
          have g3_11 : V45.cell? ⟨(w.heap.size + 1 + 1), 11, none⟩ = some (.int .u64 (wd3 r25)) := k3.cell 11
          clear k3
          simp [bodyPost, results, Try.results49, go_sem, g3_0, g3_1, g3_2, g3_3, g3_4, g3_5, g3_6, g3_7, g3_8, g3_9, g3_10, g3_11]
          first | exact hb0 | exact ⟨rfl, hb0⟩
end Go.Proofs.Ytlcbomjdbdgbmaa

namespace Go.Proofs.Ytlcbomjdbdgbmaa
open Go.RowKit

/-- within a fraction two numbers are held against one another one step deeper -/
@[go_sem] theorem run_eqI9 (a0 a1 a2 a3 b0 b1 b2 b3 : Int) (w : World) :
    (Op.equalIn 9999 35 (.agg #[.int .u64 a0, .int .u64 a1, .int .u64 a2, .int .u64 a3]) (.agg #[.int .u64 b0, .int .u64 b1, .int .u64 b2, .int .u64 b3])).run Try.prog w = .ok (eq4 a0 a1 a2 a3 b0 b1 b2 b3) w := by
  have hu : Try.prog.underlying 35 = some (.array 4 33) := by kernel_rfl
  have hs : ∀ w, (sizeOf 33).run Try.prog w = .ok 1 w := fun w => by kernel_rfl
  have he : ∀ (a b : Int) w, (Op.equalIn 9998 33 (.int .u64 a) (.int .u64 b)).run Try.prog w = .ok (a == b) w := fun a b w => run_equalIn_int w 9997 _ .u64 .u64 a b (by kernel_rfl)
  have hp : ∀ (c : Array Value) (i : Nat) (v : Value) w, c[i]? = some v → (part 33 c i).run Try.prog w = .ok v w := by
    intro c i v w h
    have ha : (isAgg 33).run Try.prog w = .ok false w := by kernel_rfl
    unfold part
    simp [Sem.run_bind, ha, h]
  show (Op.equalIn (9998 + 1) _ _ _).run _ _ = _
  unfold Op.equalIn
  simp only [Sem.run_bind, run_underlying hu, Result.andThen_ok, hs]
  simp [List.range', he, hp, Sem.run_bind]
  unfold eq4
  by_cases h0 : a0 = b0 <;> by_cases h1 : a1 = b1 <;> by_cases h2 : a2 = b2 <;> by_cases h3 : a3 = b3 <;> simp [h0, h1, h2, h3]

@[go_sem] theorem eqP_self (a b : Int) : eqP a b a b = true := by unfold eqP; simp
@[go_sem] theorem eqP_ne {a b c d : Int} (h : ¬ a = c) : eqP a b c d = false := by unfold eqP; simp [h]
@[go_sem] theorem eqP_ne' {a b c d : Int} (h : ¬ c = a) : eqP a b c d = false := eqP_ne fun e => h e.symm
@[go_sem] theorem eqP_me {a b c d : Int} (h : ¬ b = d) : eqP a b c d = false := by unfold eqP; simp [h]
@[go_sem] theorem eqP_me' {a b c d : Int} (h : ¬ d = b) : eqP a b c d = false := eqP_me fun e => h e.symm
end Go.Proofs.Ytlcbomjdbdgbmaa

namespace Go.Proofs.Ytlcbomjdbdgbmaa
open Go.RowKit

section
variable {P : Program} {Q : Exit → Act → World → Prop} {a : Act} {w : World} {c : Code}
/-- the loop's next round is about to begin -/
def LoopIn (P : Program) (c : Code) (Q : Exit → Act → World → Prop) (a : Act) (w : World) : Prop :=
  ∀ (b : Frame) (k : List Item) (cs : List Frame), ∃ e a' w', Q e a' w' ∧ Arrives P (lone (b.at a (.code c :: .inLoop c :: k)) cs w) b k cs e a' w'
theorem loop_world (h : ∀ W, W = w → LoopIn P c Q a W) : LoopIn P c Q a w := h w rfl
theorem wp_loop_in (h : LoopIn P c Q a w) : (Code.loop c).wp P Q a w := fun b k cs =>
  let ⟨e, a', w', q, r⟩ := h b k cs; ⟨e, a', w', q, .of_steps (.one step_loop) r⟩
theorem loopin_round (h : ∀ K : Act → World → Prop, Hid (∀ a w, LoopIn P c Q a w → K a w) → c.wp P (Exit.then K Q) a w) : LoopIn P c Q a w := by
  intro b k cs
  obtain ⟨e, a₁, w₁, hq, harr⟩ := h (LoopIn P c Q) (Lib.hid fun _ _ h => h) b (.inLoop c :: k) cs
  cases e with
  | normal =>
    obtain ⟨e₂, a₂, w₂, hq₂, harr₂⟩ := hq b k cs
    exact ⟨e₂, a₂, w₂, hq₂, .of_steps (Steps.trans harr (.one step_inLoop)) harr₂⟩
  | exit id => exact ⟨_, a₁, w₁, hq, .pass (x := .inLoop c) rfl (fun _ _ => .inl (by simp)) harr⟩
  | goto l => exact ⟨_, a₁, w₁, hq, .pass (x := .inLoop c) rfl (fun _ _ => .inl (by simp)) harr⟩
  | ret => exact ⟨_, a₁, w₁, hq, .pass (x := .inLoop c) rfl (fun _ _ => .inl (by simp)) harr⟩
  | panic ch => exact ⟨_, a₁, w₁, hq, .pass (x := .inLoop c) rfl (fun _ _ => .inl (by simp)) harr⟩
  | outgrown => exact ⟨_, a₁, w₁, hq, .pass (x := .inLoop c) rfl (fun _ _ => .inl (by simp)) harr⟩
end
end Go.Proofs.Ytlcbomjdbdgbmaa

