/- My texts BsR, Px1, Cr2, Px2, PxG, AwN, Px3, Px4, joined: what the last one needs of them. Conditions: as each lemma says. -/
import Derived.Test.YtlcbomjdbdgbmaaSPc2
import Derived.KernelRfl
import Derived.StillTail
import Derived.OrdersHeld
import Derived.Deep.Quiet
import Derived.Below
import Derived.WalkKit
import Derived.Test.YtlcbomjdbdgbmaaProg
import Derived.WalkSpells
import Derived.StillTactics
import Derived.Laws.Pointers
import Derived.Deep.RegionHeld3
import Derived.RowKit3
import Derived.Deep.QuietTactic
import Derived.BigQuiet
import Derived.BigRegion
import Derived.Lib.Hide
import Derived.WalkSmall
import Derived.Laws.BitsAllLaws
import Derived.IntWalk
import Derived.Deep.OwnRows
import Derived.Deep.LoopGhost
import Derived.Shelf.Bits.Mul64
import Derived.ProofKit
import Derived.OpenShut
import Derived.ShutString
import Derived.ChangeOld
import Derived.Lib.SmallJoins
import Derived.Laws.IdiomArrays
import Derived.RowKit
import Derived.Deep.WholeRow
import Derived.Laws.Rows
namespace Go.Proofs.Ytlcbomjdbdgbmaa
open Go.RowKit

end Go.Proofs.Ytlcbomjdbdgbmaa
namespace Go.Proofs.Ytlcbomjdbdgbmaa
open Go.RowKit

/-- where crossed stands -/
structure CrAt (w : World) (n d m e p q : Int) (wr : World) : Prop where
  kr : RVar wr w.heap.size n d
  ks : RVar wr (w.heap.size + 1) m e
  kp : Var wr (w.heap.size + 1 + 1) p
  kq : Var wr (w.heap.size + 1 + 1 + 1) q
  below : Below w.heap.size w wr
theorem CrAt.of {w : World} {n d m e p q : Int} {wr w' : World} (h : CrAt w n d m e p q wr) (hn : Below wr.heap.size wr w') : CrAt w n d m e p q w' :=
  ⟨h.kr.of hn, h.ks.of hn, h.kp.of hn, h.kq.of hn, h.below.trans (hn.mono h.below.size)⟩
theorem CrAt.setp {w : World} {n d m e p q : Int} {wr : World} (h : CrAt w n d m e p q wr) (y : Int) : CrAt w n d m e y q
    ((((wr.setCell ⟨w.heap.size + 1 + 1, 0, none⟩ (.int .u64 (wd0 y))).setCell ⟨w.heap.size + 1 + 1, 1, none⟩ (.int .u64 (wd1 y))).setCell ⟨w.heap.size + 1 + 1, 2, none⟩ (.int .u64 (wd2 y))).setCell ⟨w.heap.size + 1 + 1, 3, none⟩ (.int .u64 (wd3 y))) :=
  ⟨Blk.set4 h.kr (by omega) _ _ _ _, Blk.set4 h.ks (by omega) _ _ _ _, Var.put4 h.kp y, Blk.set4 h.kq (by omega) _ _ _ _, below_set4 h.below (by omega) _ _ _ _⟩
theorem CrAt.setq {w : World} {n d m e p q : Int} {wr : World} (h : CrAt w n d m e p q wr) (y : Int) : CrAt w n d m e p y
    ((((wr.setCell ⟨w.heap.size + 1 + 1 + 1, 0, none⟩ (.int .u64 (wd0 y))).setCell ⟨w.heap.size + 1 + 1 + 1, 1, none⟩ (.int .u64 (wd1 y))).setCell ⟨w.heap.size + 1 + 1 + 1, 2, none⟩ (.int .u64 (wd2 y))).setCell ⟨w.heap.size + 1 + 1 + 1, 3, none⟩ (.int .u64 (wd3 y))) :=
  ⟨Blk.set4 h.kr (by omega) _ _ _ _, Blk.set4 h.ks (by omega) _ _ _ _, Blk.set4 h.kp (by omega) _ _ _ _, Var.put4 h.kq y, below_set4 h.below (by omega) _ _ _ _⟩

theorem setCell_same {w : World} {b o : Nat} {v : Value} (h : w.cell? ⟨b, o, none⟩ = some v) : w.setCell ⟨b, o, none⟩ v = w := by
  have hh : (w.setCell ⟨b, o, none⟩ v).heap = w.heap := by
    apply Array.ext_getElem?
    intro k
    by_cases hk : k = b
    · subst hk
      show (w.heap.modify k _)[k]? = _
      rw [Array.getElem?_modify, if_pos rfl]
      unfold World.cell? at h
      cases hb : w.heap[k]? with
      | none => rfl
      | some o' =>
        rw [hb] at h
        cases o' with
        | cells c t f =>
          simp at h
          simp
          apply Array.ext_getElem?
          intro j
          rw [Array.getElem?_setIfInBounds]
          by_cases hj : o = j
          · subst hj
            rw [if_pos rfl]
            have := (Array.getElem?_eq_some_iff.1 h).1
            rw [if_pos this, h]
          · rw [if_neg hj]
        | _ => simp at h
    · exact Below.heap_setCell _ _ _ _ hk
  have e : w.setCell ⟨b, o, none⟩ v = { w with heap := (w.setCell ⟨b, o, none⟩ v).heap } := rfl
  rw [e, hh]
theorem set4_same {w : World} {b : Nat} {x : Int} (h : Var w b x) :
    ((((w.setCell ⟨b, 0, none⟩ (.int .u64 (wd0 x))).setCell ⟨b, 1, none⟩ (.int .u64 (wd1 x))).setCell ⟨b, 2, none⟩ (.int .u64 (wd2 x))).setCell ⟨b, 3, none⟩ (.int .u64 (wd3 x))) = w := by
  obtain ⟨c0, c1, c2, c3⟩ := Var.c h
  rw [setCell_same c0, setCell_same c1, setCell_same c2, setCell_same c3]
theorem same_K {K : Act → World → Prop} {a : Act} {w w' : World} (e : w' = w) (h : Below w.heap.size w w → K a w) : K a w' := e ▸ h (Below.refl _ _)

set_option maxRecDepth 100000 in
set_option maxHeartbeats 4000000 in
theorem crossed_go (n d m e : Int) (w : World) (i1 : InI n) (i2 : InI d) (i3 : InI m) (i4 : InI e) (o1 o2 r1 r2 : Bool) (ho1 : okI (n * e) = o1) (ho2 : okI (m * d) = o2) (hr1 : decide (0 < d) = r1) (hr2 : decide (0 < e) = r2)
    (p q : Int) (hp : (bif o1 then n * e else 0) = p) (hq : (bif o2 then m * d else 0) = q) :
    Calls Try.prog 132 #[rI n d, rI m e] w fun e' w' => e' = .returned (.tuple #[wI p, wI q, .bool (o1 && o2 && r1 && r2)]) ∧ Below w.heap.size w w' := by
  have O1 := Lib.hid ho1
  have O2 := Lib.hid ho2
  have R1 := Lib.hid hr1
  have R2 := Lib.hid hr2
  have HP := Lib.hid hp
  have HQ := Lib.hid hq
  clear ho1 ho2 hr1 hr2 hp hq
  go_enter Try.func132, Try.ntmps132
  go_wp2_with fail
  refine calls_w ?_
  intro W hW
  have hd : CrAt w n d m e 0 0 W := by
    rw [hW]
    exact ⟨((Blk.new _ _ _).alloc _).alloc _ |>.alloc _, ((Blk.new1 _ _ _ _).alloc _).alloc _, (Blk.new2 _ _ _ _ _).alloc _, Blk.new3 _ _ _ _ _ _, (((Below.refl _ _).alloc (Nat.le_refl _) _).alloc (by simp) _).alloc (by simp; omega) _ |>.alloc (by simp; omega) _⟩
  clear hW
  refine (Mul_is n e o1 O1.out p HP.out _ i1 i4).mono ?_
  rintro e' u1 ⟨rfl, hn⟩
  replace hd := hd.of hn
  clear hn
  have cp := Var.c hd.kp
  have fp := Var.f hd.kp
  have cr := RVar.c hd.kr
  have cs := RVar.c hd.ks
  have HD := Lib.hid hd
  clear hd
  go_wp2_with fail
  refine calls_w ?_
  intro V hV
  have hd : CrAt w n d m e p 0 V := by rw [hV]; exact HD.out.setp _
  clear hV cp fp cr cs HD
  refine (Mul_is m d o2 O2.out q HQ.out _ i3 i2).mono ?_
  rintro e' u2 ⟨rfl, hn⟩
  replace hd := hd.of hn
  clear hn
  have cq := Var.c hd.kq
  have fq := Var.f hd.kq
  have HD := Lib.hid hd
  clear hd
  go_wp2_with fail
  refine name_world ?_
  intro V hV
  have hd : CrAt w n d m e p q V := by rw [hV]; exact HD.out.setq _
  clear hV cq fq HD
  have cr := RVar.c hd.kr
  have cs := RVar.c hd.ks
  have cp := Var.c hd.kp
  have cq := Var.c hd.kq
  have fpv := Var.f hd.kp
  have fqv := Var.f hd.kq
  have lr := hd.kr.lt
  have ls := hd.ks.lt
  have lp := hd.kp.lt
  have lq := hd.kq.lt
  have HD := Lib.hid hd
  clear hd
  have hcase : o1 = false ∨ (o1 = true ∧ o2 = false) ∨ (o1 = true ∧ o2 = true ∧ r1 = false) ∨ (o1 = true ∧ o2 = true ∧ r1 = true) := by
    cases o1 <;> cases o2 <;> cases r1 <;> simp
  rcases hcase with rfl | ⟨rfl, rfl⟩ | ⟨rfl, rfl, rfl⟩ | ⟨rfl, rfl, rfl⟩
  all_goals
    refine wp_region_up V.heap.size 16 [(true, 0), (true, 1), (true, 2), (true, 3), (true, 4), (true, 5), (true, 6), (true, 7), (false, 8), (true, 9), (true, 10), (true, 11), (false, 12), (true, 13), (false, 14), (false, 15)] (by kernel_rfl) (by kernel_rfl) (fun _ _ d _ _ h => by cases d <;> exact h) ?_
    have hb : Below V.heap.size V V.drew := (Below.refl _ _).drew
    iterate 8
      refine wpS_takeL rfl rfl ?_
      go_big_quiet_step (rfl)
      refine wpQuiet_nil ?_
    refine wpS_doL rfl ?_
    intro K hK
    have hdw := HD.out.of hb; have gp := Var.c hdw.kp; have gpf := Var.f hdw.kp; have gq := Var.c hdw.kq; have gqf := Var.f hdw.kq; have SP := Lib.hid hdw.kp; have SQ := Lib.hid hdw.kq; clear hdw
    go_wp2_with ((first | (go_at_call 36; (with_reducible refine (Right_is n d _ i2 _ R1.out).mono ?_); rintro e w2 ⟨rfl, hn⟩) | (go_at_call 36; (with_reducible refine (Right_is m e _ i4 _ R2.out).mono ?_); rintro e w2 ⟨rfl, hn⟩)))
    try (first | (refine same_K (set4_same SP.out) ?_; intro hn) | (refine same_K (set4_same SQ.out) ?_; intro hn))
    try replace hb := hb.trans (hn.mono hb.size)
    refine hK.out _ _ (up_iff.2 hb) ?_
    clear hK K
    try clear hn
    try clear gp gpf gq gqf SP SQ
    iterate 3
      refine wpS_takeL rfl rfl ?_
      go_big_quiet_step (rfl)
      refine wpQuiet_nil ?_
    refine wpS_doL rfl ?_
    intro K hK
    have hdw := HD.out.of hb; have gp := Var.c hdw.kp; have gpf := Var.f hdw.kp; have gq := Var.c hdw.kq; have gqf := Var.f hdw.kq; have SP := Lib.hid hdw.kp; have SQ := Lib.hid hdw.kq; clear hdw
    go_wp2_with ((first | (go_at_call 36; (with_reducible refine (Right_is n d _ i2 _ R1.out).mono ?_); rintro e w2 ⟨rfl, hn⟩) | (go_at_call 36; (with_reducible refine (Right_is m e _ i4 _ R2.out).mono ?_); rintro e w2 ⟨rfl, hn⟩)))
    try (first | (refine same_K (set4_same SP.out) ?_; intro hn) | (refine same_K (set4_same SQ.out) ?_; intro hn))
    try replace hb := hb.trans (hn.mono hb.size)
    refine hK.out _ _ (up_iff.2 hb) ?_
    clear hK K
    try clear hn
    try clear gp gpf gq gqf SP SQ
    refine wpS_takeL rfl rfl ?_
    go_big_quiet_step (rfl)
    refine wpQuiet_nil ?_
    refine wpS_doL rfl ?_
    intro K hK
    have hdw := HD.out.of hb; have gp := Var.c hdw.kp; have gpf := Var.f hdw.kp; have gq := Var.c hdw.kq; have gqf := Var.f hdw.kq; have SP := Lib.hid hdw.kp; have SQ := Lib.hid hdw.kq; clear hdw
    go_wp2_with ((first | (go_at_call 36; (with_reducible refine (Right_is n d _ i2 _ R1.out).mono ?_); rintro e w2 ⟨rfl, hn⟩) | (go_at_call 36; (with_reducible refine (Right_is m e _ i4 _ R2.out).mono ?_); rintro e w2 ⟨rfl, hn⟩)))
    try (first | (refine same_K (set4_same SP.out) ?_; intro hn) | (refine same_K (set4_same SQ.out) ?_; intro hn))
    replace hb := hb.trans (hn.mono hb.size)
    refine hK.out _ _ (up_iff.2 hb) ?_
    clear hK K
    clear hn
    try clear gp gpf gq gqf SP SQ
    refine wpS_doL rfl ?_
    intro K hK
    have hdw := HD.out.of hb; have gp := Var.c hdw.kp; have gpf := Var.f hdw.kp; have gq := Var.c hdw.kq; have gqf := Var.f hdw.kq; have SP := Lib.hid hdw.kp; have SQ := Lib.hid hdw.kq; clear hdw
    go_wp2_with ((first | (go_at_call 36; (with_reducible refine (Right_is n d _ i2 _ R1.out).mono ?_); rintro e w2 ⟨rfl, hn⟩) | (go_at_call 36; (with_reducible refine (Right_is m e _ i4 _ R2.out).mono ?_); rintro e w2 ⟨rfl, hn⟩)))
    try (first | (refine same_K (set4_same SP.out) ?_; intro hn) | (refine same_K (set4_same SQ.out) ?_; intro hn))
    replace hb := hb.trans (hn.mono hb.size)
    refine hK.out _ _ (up_iff.2 hb) ?_
    clear hK K
    clear hn
    try clear gp gpf gq gqf SP SQ
    refine wpS_nil ?_
    simp only [List.drop_succ_cons, List.drop_zero]
    have hd := HD.out.of hb
    have hbf := hd.below
    clear cr cs cp cq fpv fqv lr ls lp lq hb HD
    have cp := Var.c hd.kp
    have cq := Var.c hd.kq
    clear hd
    go_wp2
    simp [bodyPost, results, Try.results132, go_sem, cp, cq]
    exact hbf
end Go.Proofs.Ytlcbomjdbdgbmaa
namespace Go.Proofs.Ytlcbomjdbdgbmaa
open Go.RowKit

set_option maxRecDepth 100000 in
set_option maxHeartbeats 2000000 in
theorem RatCmp_go (n d m e : Int) (w : World) (o : Bool) (p q : Int) (ip : o = true → InI p) (iq : o = true → InI q)
    (hT : ∀ w, Calls Try.prog 132 #[rI n d, rI m e] w fun e' w' => e' = .returned (.tuple #[wI p, wI q, .bool o]) ∧ Below w.heap.size w w') :
    Calls Try.prog 100 #[rI n d, rI m e] w fun e' w' => e' = .returned (.tuple #[.int .i64 (bif o then cmpI p q else 0), .bool o]) ∧ Below w.heap.size w w' := by
  have HT := Lib.hid hT
  have IP := Lib.hid ip
  have IQ := Lib.hid iq
  clear hT ip iq
  go_enter Try.func100, Try.ntmps100
  go_wp2_with fail
  refine calls_w ?_
  intro W hW
  have hb0 : Below w.heap.size w W := by rw [hW]; exact below_a2 _ _ _
  clear hW
  refine (HT.out _).mono ?_
  rintro e' u1 ⟨rfl, hn⟩
  replace hb0 := hb0.trans (hn.mono hb0.size)
  clear hn
  have hb1 : ∀ o1 o2, Below w.heap.size w ((u1.alloc o1).alloc o2) := fun o1 o2 => (hb0.alloc hb0.size _).alloc (by simp; have := hb0.size; omega) _
  have HB := Lib.hid hb1
  clear hb1 hb0
  cases o
  · go_wp2
    go_ret2
    exact ⟨rfl, HB.out _ _⟩
  · go_wp2_with fail
    refine (Cmp_any p q _ (IP.out trivial) (IQ.out trivial)).mono ?_
    rintro e' u2 ⟨rfl, hn⟩
    go_wp2
    go_ret2
    exact ⟨rfl, (HB.out _ _).trans (hn.mono (HB.out _ _).size)⟩

end Go.Proofs.Ytlcbomjdbdgbmaa

namespace Go.Proofs.Ytlcbomjdbdgbmaa
open Go.RowKit

def rtR (_x : Int) (y : Int) : Bool := decide (0 < (y.sign))

set_option maxRecDepth 100000 in
set_option maxHeartbeats 4000000 in

theorem rtR_is (x : Int) (y : Int)  (R0 : Bool) (hR0 : rtR x y = R0) (_ix : InI x) (_iy : InI y)  (w : World)  :
    Calls Try.prog 36 #[.agg #[.int .u64 (wd0 x), .int .u64 (wd1 x), .int .u64 (wd2 x), .int .u64 (wd3 x), .int .u64 (wd0 y), .int .u64 (wd1 y), .int .u64 (wd2 y), .int .u64 (wd3 y)]] w fun e w' => e = .returned (.bool R0) ∧ Below w.heap.size w w' := by

  have HR0 := Lib.hid hR0
  clear hR0
  go_enter Try.func36, Try.ntmps36
  go_wp2_with fail
  first | refine calls_w ?_ | refine name_world ?_ | refine list_world ?_ | refine post_world ?_
  intro V1 hV1
  have hn : Below w.heap.size w V1 := by rw [hV1]; exact below_a1 _ _
  have nhb0 := hn
  have k1 : Blk V1 w.heap.size #[.int .u64 (wd0 x), .int .u64 (wd1 x), .int .u64 (wd2 x), .int .u64 (wd3 x), .int .u64 (wd0 y), .int .u64 (wd1 y), .int .u64 (wd2 y), .int .u64 (wd3 y)] 52 := by rw [hV1]; exact (Blk.new _ _ _)
  clear hV1
  have hb0 := nhb0
  clear nhb0
  obtain ⟨r1, hr1⟩ : ∃ o_o : Int, y.sign = o_o := ⟨_, rfl⟩
  have Hr1 := Lib.hid hr1
  clear hr1
  refine (Sign_v y r1 Hr1.out _iy _).mono ?_
  rintro e U2 ⟨rfl, hn⟩
  clear k1
  replace hb0 := hb0.trans (hn.mono hb0.size)
  clear hn
  have e0 : decide (0 < r1) = R0 := by rw [← HR0.out]; unfold rtR; (try rw [Hr1.out]); all_goals first | rfl | simp
  subst e0
  go_wp2
  first | go_ret | go_ret2
  exact ⟨by first | rfl | simp, hb0⟩

def rtOn (n : Int) : Int := n

def rtOd (_n : Int) : Int := 1

set_option maxRecDepth 100000 in
set_option maxHeartbeats 4000000 in

theorem rtOf_is (n : Int)  (R0 : Int) (R1 : Int) (hR0 : rtOn n = R0) (hR1 : rtOd n = R1) (_in : In64 n)  (w : World)  :
    Calls Try.prog 92 #[.int .i64 n] w fun e w' => e = .returned (.agg #[.int .u64 (wd0 R0), .int .u64 (wd1 R0), .int .u64 (wd2 R0), .int .u64 (wd3 R0), .int .u64 (wd0 R1), .int .u64 (wd1 R1), .int .u64 (wd2 R1), .int .u64 (wd3 R1)]) ∧ Below w.heap.size w w' := by

  have HR0 := Lib.hid hR0
  clear hR0
  have HR1 := Lib.hid hR1
  clear hR1
  go_enter Try.func92, Try.ntmps92
  go_wp2_with fail
  first | refine calls_w ?_ | refine name_world ?_ | refine list_world ?_ | refine post_world ?_
  intro V1 hV1
  have hn : Below w.heap.size w V1 := by rw [hV1]; exact below_a1 _ _
  have nhb0 := hn
  have k1 : Blk V1 w.heap.size #[.int .u64 0, .int .u64 0, .int .u64 0, .int .u64 0, .int .u64 0, .int .u64 0, .int .u64 0, .int .u64 0] 52 := by rw [hV1]; exact (Blk.new _ _ _)
  clear hV1
  have hb0 := nhb0
  clear nhb0
  refine (Of_v n n rfl _in _).mono ?_
  rintro e U2 ⟨rfl, hn⟩
  replace k1 := k1.of hn
  replace hb0 := hb0.trans (hn.mono hb0.size)
  clear hn
  go_wp2_with fail
  refine (Of_v 1 1 rfl (by unfold In64; omega) _).mono ?_
  rintro e U3 ⟨rfl, hn⟩
  replace k1 := k1.of hn
  replace hb0 := hb0.trans (hn.mono hb0.size)
  clear hn
  have c1_0 : U3.cell? ⟨w.heap.size, 0, none⟩ = some (.int .u64 0) := k1.cell 0
  have c1_1 : U3.cell? ⟨w.heap.size, 1, none⟩ = some (.int .u64 0) := k1.cell 1
  have c1_2 : U3.cell? ⟨w.heap.size, 2, none⟩ = some (.int .u64 0) := k1.cell 2
  have c1_3 : U3.cell? ⟨w.heap.size, 3, none⟩ = some (.int .u64 0) := k1.cell 3
  have c1_4 : U3.cell? ⟨w.heap.size, 4, none⟩ = some (.int .u64 0) := k1.cell 4
  have c1_5 : U3.cell? ⟨w.heap.size, 5, none⟩ = some (.int .u64 0) := k1.cell 5
  have c1_6 : U3.cell? ⟨w.heap.size, 6, none⟩ = some (.int .u64 0) := k1.cell 6
  have c1_7 : U3.cell? ⟨w.heap.size, 7, none⟩ = some (.int .u64 0) := k1.cell 7
  have f1_0 := k1.free 0
  have f1_1 := k1.free 1
  have f1_2 := k1.free 2
  have f1_3 := k1.free 3
  have f1_4 := k1.free 4
  have f1_5 := k1.free 5
  have f1_6 := k1.free 6
  have f1_7 := k1.free 7
  have l1 := k1.lt
  have e0 : n = R0 := by rw [← HR0.out]; unfold rtOn; all_goals first | rfl | simp
  have e1 : 1 = R1 := by rw [← HR1.out]; unfold rtOd; all_goals first | rfl | simp
  subst e0
  subst e1
  go_wp2
  clear c1_0 c1_1 c1_2 c1_3 c1_4 c1_5 c1_6 c1_7 f1_0 f1_1 f1_2 f1_3 f1_4 f1_5 f1_6 f1_7 l1
  first | refine post_world ?_
  intro V4 hV4
  have D1 := Lib.hid k1.lt
  have D2 := Lib.hid hb0.size
  have nk1 : Blk V4 w.heap.size #[.int .u64 (wd0 n), .int .u64 (wd1 n), .int .u64 (wd2 n), .int .u64 (wd3 n), .int .u64 (wd0 1), .int .u64 (wd1 1), .int .u64 (wd2 1), .int .u64 (wd3 1)] 52 := by rw [hV4]; exact (blk_full _ [.int .u64 (wd0 n), .int .u64 (wd1 n), .int .u64 (wd2 n), .int .u64 (wd3 n), .int .u64 (wd0 1), .int .u64 (wd1 1), .int .u64 (wd2 1), .int .u64 (wd3 1)] k1 rfl)
  have nhb0 : Below w.heap.size w V4 := by rw [hV4]; exact (blw_setL hb0 (by omega) 0 [.int .u64 (wd0 n), .int .u64 (wd1 n), .int .u64 (wd2 n), .int .u64 (wd3 n), .int .u64 (wd0 1), .int .u64 (wd1 1), .int .u64 (wd2 1), .int .u64 (wd3 1)])
  clear k1
  clear hb0
  clear hV4
  have k1 := nk1
  clear nk1
  have hb0 := nhb0
  clear nhb0
  have g1_0 : V4.cell? ⟨w.heap.size, 0, none⟩ = some (.int .u64 (wd0 n)) := k1.cell 0
  have g1_1 : V4.cell? ⟨w.heap.size, 1, none⟩ = some (.int .u64 (wd1 n)) := k1.cell 1
  have g1_2 : V4.cell? ⟨w.heap.size, 2, none⟩ = some (.int .u64 (wd2 n)) := k1.cell 2
  have g1_3 : V4.cell? ⟨w.heap.size, 3, none⟩ = some (.int .u64 (wd3 n)) := k1.cell 3
  have g1_4 : V4.cell? ⟨w.heap.size, 4, none⟩ = some (.int .u64 (wd0 1)) := k1.cell 4
  have g1_5 : V4.cell? ⟨w.heap.size, 5, none⟩ = some (.int .u64 (wd1 1)) := k1.cell 5
  have g1_6 : V4.cell? ⟨w.heap.size, 6, none⟩ = some (.int .u64 (wd2 1)) := k1.cell 6
  have g1_7 : V4.cell? ⟨w.heap.size, 7, none⟩ = some (.int .u64 (wd3 1)) := k1.cell 7
  clear k1
  simp [bodyPost, results, Try.results92, go_sem, g1_0, g1_1, g1_2, g1_3, g1_4, g1_5, g1_6, g1_7]
  first | exact hb0 | exact ⟨rfl, hb0⟩

/-- two fractions held against one another -/
def rtCk (x y x2 y2 : Int) : Bool := okI (x * y2) && okI (x2 * y) && decide (0 < y) && decide (0 < y2)
def rtC (x y x2 y2 : Int) : Int := bif rtCk x y x2 y2 then cmpI (x * y2) (x2 * y) else 0
theorem rtC_v (x y x2 y2 c : Int) (k : Bool) (hc : rtC x y x2 y2 = c) (hk : rtCk x y x2 y2 = k) (ix : InI x) (iy : InI y) (ix2 : InI x2) (iy2 : InI y2) (w : World) :
    Calls Try.prog 100 #[rI x y, rI x2 y2] w fun e w' => e = .returned (.tuple #[.int .i64 c, .bool k]) ∧ Below w.heap.size w w' := by
  have key := RatCmp_go x y x2 y2 w (okI (x * y2) && okI (x2 * y) && decide (0 < y) && decide (0 < y2)) (bif okI (x * y2) then x * y2 else 0) (bif okI (x2 * y) then x2 * y else 0)
    (fun _ => ok_in) (fun _ => ok_in) (fun w => crossed_go x y x2 y2 w ix iy ix2 iy2 _ _ _ _ rfl rfl rfl rfl _ _ rfl rfl)
  have e : (bif (okI (x * y2) && okI (x2 * y) && decide (0 < y) && decide (0 < y2)) then cmpI (bif okI (x * y2) then x * y2 else 0) (bif okI (x2 * y) then x2 * y else 0) else 0) = c := by
    rw [← hc]; unfold rtC rtCk
    cases h1 : okI (x * y2) <;> cases h2 : okI (x2 * y) <;> rfl
  rw [e, show (okI (x * y2) && okI (x2 * y) && decide (0 < y) && decide (0 < y2)) = k from hk] at key
  exact key
end Go.Proofs.Ytlcbomjdbdgbmaa

namespace Go.Proofs.Ytlcbomjdbdgbmaa
open Go.RowKit

def atx (x : Int) (y : Int) : Int := (bif (rp x y) then x else 0)

def aty (x : Int) (y : Int) : Int := (bif (rp x y) then y else 0)

def atw (x : Int) (y : Int) : Int := (bif (rp x y) then 1 else 0)

set_option maxRecDepth 100000 in
set_option maxHeartbeats 4000000 in

theorem crAt_is (x : Int) (y : Int)  (R0 : Int) (R1 : Int) (R2 : Int) (hR0 : atx x y = R0) (hR1 : aty x y = R1) (hR2 : atw x y = R2) (_ix : In64 x) (_iy : In64 y)  (w : World)  :
    Calls Try.prog 47 #[.agg #[.int .i64 x, .int .i64 y]] w fun e w' => e = .returned (.agg #[.int .u64 (wd0 R0), .int .u64 (wd1 R0), .int .u64 (wd2 R0), .int .u64 (wd3 R0), .int .u64 (wd0 R1), .int .u64 (wd1 R1), .int .u64 (wd2 R1), .int .u64 (wd3 R1), .int .u64 (wd0 R2), .int .u64 (wd1 R2), .int .u64 (wd2 R2), .int .u64 (wd3 R2)]) ∧ Below w.heap.size w w' := by

  have HR0 := Lib.hid hR0
  clear hR0
  have HR1 := Lib.hid hR1
  clear hR1
  have HR2 := Lib.hid hR2
  clear hR2
  go_enter Try.func47, Try.ntmps47
  go_wp2_with fail
  first | refine calls_w ?_ | refine name_world ?_ | refine list_world ?_ | refine post_world ?_
  intro V1 hV1
  have hn : Below w.heap.size w V1 := by rw [hV1]; exact below_a2 _ _ _
  have nhb0 := hn
  have k1 : Blk V1 w.heap.size #[.int .i64 x, .int .i64 y] 24 := by rw [hV1]; exact ((Blk.new _ _ _).alloc _)
  have k2 : Blk V1 (w.heap.size + 1) #[.int .u64 0, .int .u64 0, .int .u64 0, .int .u64 0, .int .u64 0, .int .u64 0, .int .u64 0, .int .u64 0, .int .u64 0, .int .u64 0, .int .u64 0, .int .u64 0] 67 := by rw [hV1]; exact (Blk.new1 _ _ _ _)
  clear hV1
  have hb0 := nhb0
  clear nhb0
  obtain ⟨z1, hz1⟩ : ∃ o_o : Bool, rp x y = o_o := ⟨_, rfl⟩
  have Hz1 := Lib.hid hz1
  clear hz1
  refine (PtRight_v x y z1 Hz1.out _).mono ?_
  rintro e U2 ⟨rfl, hn⟩
  replace k1 := k1.of hn
  replace k2 := k2.of hn
  replace hb0 := hb0.trans (hn.mono hb0.size)
  clear hn
  cases z1
  · have c2_0 : U2.cell? ⟨(w.heap.size + 1), 0, none⟩ = some (.int .u64 0) := k2.cell 0
    have c2_1 : U2.cell? ⟨(w.heap.size + 1), 1, none⟩ = some (.int .u64 0) := k2.cell 1
    have c2_2 : U2.cell? ⟨(w.heap.size + 1), 2, none⟩ = some (.int .u64 0) := k2.cell 2
    have c2_3 : U2.cell? ⟨(w.heap.size + 1), 3, none⟩ = some (.int .u64 0) := k2.cell 3
    have c2_4 : U2.cell? ⟨(w.heap.size + 1), 4, none⟩ = some (.int .u64 0) := k2.cell 4
    have c2_5 : U2.cell? ⟨(w.heap.size + 1), 5, none⟩ = some (.int .u64 0) := k2.cell 5
    have c2_6 : U2.cell? ⟨(w.heap.size + 1), 6, none⟩ = some (.int .u64 0) := k2.cell 6
    have c2_7 : U2.cell? ⟨(w.heap.size + 1), 7, none⟩ = some (.int .u64 0) := k2.cell 7
    have c2_8 : U2.cell? ⟨(w.heap.size + 1), 8, none⟩ = some (.int .u64 0) := k2.cell 8
    have c2_9 : U2.cell? ⟨(w.heap.size + 1), 9, none⟩ = some (.int .u64 0) := k2.cell 9
    have c2_10 : U2.cell? ⟨(w.heap.size + 1), 10, none⟩ = some (.int .u64 0) := k2.cell 10
    have c2_11 : U2.cell? ⟨(w.heap.size + 1), 11, none⟩ = some (.int .u64 0) := k2.cell 11
    have f2_0 := k2.free 0
    have f2_1 := k2.free 1
    have f2_2 := k2.free 2
    have f2_3 := k2.free 3
    have f2_4 := k2.free 4
    have f2_5 := k2.free 5
    have f2_6 := k2.free 6
    have f2_7 := k2.free 7
    have f2_8 := k2.free 8
    have f2_9 := k2.free 9
    have f2_10 := k2.free 10
    have f2_11 := k2.free 11
    have l2 := k2.lt
    have e0 : 0 = R0 := by rw [← HR0.out]; unfold atx; (try rw [Hz1.out]); all_goals first | rfl | simp
    have e1 : 0 = R1 := by rw [← HR1.out]; unfold aty; (try rw [Hz1.out]); all_goals first | rfl | simp
    have e2 : 0 = R2 := by rw [← HR2.out]; unfold atw; (try rw [Hz1.out]); all_goals first | rfl | simp
    subst e0
    subst e1
    subst e2
    go_wp2
    clear c2_0 c2_1 c2_2 c2_3 c2_4 c2_5 c2_6 c2_7 c2_8 c2_9 c2_10 c2_11 f2_0 f2_1 f2_2 f2_3 f2_4 f2_5 f2_6 f2_7 f2_8 f2_9 f2_10 f2_11 l2
    first | refine post_world ?_
    intro V3 hV3
    have D1 := Lib.hid k1.lt
    have D2 := Lib.hid k2.lt
    have D3 := Lib.hid hb0.size
    clear k1
    have nk2 : Blk V3 (w.heap.size + 1) #[.int .u64 0, .int .u64 0, .int .u64 0, .int .u64 0, .int .u64 0, .int .u64 0, .int .u64 0, .int .u64 0, .int .u64 0, .int .u64 0, .int .u64 0, .int .u64 0] 67 := by rw [hV3]; exact (blk_full _ [.int .u64 0, .int .u64 0, .int .u64 0, .int .u64 0, .int .u64 0, .int .u64 0, .int .u64 0, .int .u64 0, .int .u64 0, .int .u64 0, .int .u64 0, .int .u64 0] k2 rfl)
    have nhb0 : Below w.heap.size w V3 := by rw [hV3]; exact (blw_setL hb0 (by omega) 0 [.int .u64 0, .int .u64 0, .int .u64 0, .int .u64 0, .int .u64 0, .int .u64 0, .int .u64 0, .int .u64 0, .int .u64 0, .int .u64 0, .int .u64 0, .int .u64 0])
    clear k2
    clear hb0
    clear hV3
    have k2 := nk2
    clear nk2
    have hb0 := nhb0
    clear nhb0
    have g2_0 : V3.cell? ⟨(w.heap.size + 1), 0, none⟩ = some (.int .u64 0) := k2.cell 0
    have g2_1 : V3.cell? ⟨(w.heap.size + 1), 1, none⟩ = some (.int .u64 0) := k2.cell 1
    have g2_2 : V3.cell? ⟨(w.heap.size + 1), 2, none⟩ = some (.int .u64 0) := k2.cell 2
    have g2_3 : V3.cell? ⟨(w.heap.size + 1), 3, none⟩ = some (.int .u64 0) := k2.cell 3
    have g2_4 : V3.cell? ⟨(w.heap.size + 1), 4, none⟩ = some (.int .u64 0) := k2.cell 4
    have g2_5 : V3.cell? ⟨(w.heap.size + 1), 5, none⟩ = some (.int .u64 0) := k2.cell 5
    have g2_6 : V3.cell? ⟨(w.heap.size + 1), 6, none⟩ = some (.int .u64 0) := k2.cell 6
    have g2_7 : V3.cell? ⟨(w.heap.size + 1), 7, none⟩ = some (.int .u64 0) := k2.cell 7
    have g2_8 : V3.cell? ⟨(w.heap.size + 1), 8, none⟩ = some (.int .u64 0) := k2.cell 8
    have g2_9 : V3.cell? ⟨(w.heap.size + 1), 9, none⟩ = some (.int .u64 0) := k2.cell 9
    have g2_10 : V3.cell? ⟨(w.heap.size + 1), 10, none⟩ = some (.int .u64 0) := k2.cell 10
    have g2_11 : V3.cell? ⟨(w.heap.size + 1), 11, none⟩ = some (.int .u64 0) := k2.cell 11
    clear k2
    simp [bodyPost, results, Try.results47, go_sem, g2_0, g2_1, g2_2, g2_3, g2_4, g2_5, g2_6, g2_7, g2_8, g2_9, g2_10, g2_11, wd0_0, wd1_0, wd2_0, wd3_0]
    first | exact hb0 | exact ⟨rfl, hb0⟩
  · go_wp2_with fail
    have c1_0 : U2.cell? ⟨w.heap.size, 0, none⟩ = some (.int .i64 x) := k1.cell 0
    have c1_1 : U2.cell? ⟨w.heap.size, 1, none⟩ = some (.int .i64 y) := k1.cell 1
    have l1 := k1.lt
    have Kk1 := Lib.hid k1
    clear k1
    have Kk2 := Lib.hid k2
    clear k2
    refine wp_region_up U2.heap.size 5 [(true, 0), (true, 1), (true, 3), (true, 4), (false, 2)] (by kernel_rfl) (by kernel_rfl) (fun _ _ d _ _ h => by cases d <;> exact h) ?_
    have hb : Below U2.heap.size U2 U2.drew := (Below.refl _ _).drew
    iterate 4
      refine wpS_takeL rfl rfl ?_
      go_big_quiet_step (rfl)
      refine wpQuiet_nil ?_
    refine wpS_doL rfl ?_
    intro K hK
    go_wp2_with ((go_at_call 62; (with_reducible refine (Of_v x x rfl _ix _).mono ?_); rintro e w2 ⟨rfl, hn⟩))
    replace hb := hb.trans (hn.mono hb.size)
    refine hK.out _ _ (up_iff.2 hb) ?_
    clear hK K
    clear hn
    refine wpS_nil ?_
    simp only [List.drop_succ_cons, List.drop_zero]
    first | refine calls_w ?_ | refine name_world ?_ | refine list_world ?_ | refine post_world ?_
    intro U4 hU4
    first | subst hU4 | (rw [← hU4] at hb; clear hU4)
    clear c1_0 c1_1 l1
    have k1 := Kk1.out.of hb
    clear Kk1
    have k2 := Kk2.out.of hb
    clear Kk2
    replace hb0 := hb0.trans (hb.mono hb0.size)
    clear hb
    go_wp2_with fail
    refine (Of_v y y rfl _iy _).mono ?_
    rintro e U5 ⟨rfl, hn⟩
    clear k1
    replace k2 := k2.of hn
    replace hb0 := hb0.trans (hn.mono hb0.size)
    clear hn
    go_wp2_with fail
    refine (Of_v 1 1 rfl (by unfold In64; omega) _).mono ?_
    rintro e U6 ⟨rfl, hn⟩
    replace k2 := k2.of hn
    replace hb0 := hb0.trans (hn.mono hb0.size)
    clear hn
    have c2_0 : U6.cell? ⟨(w.heap.size + 1), 0, none⟩ = some (.int .u64 0) := k2.cell 0
    have c2_1 : U6.cell? ⟨(w.heap.size + 1), 1, none⟩ = some (.int .u64 0) := k2.cell 1
    have c2_2 : U6.cell? ⟨(w.heap.size + 1), 2, none⟩ = some (.int .u64 0) := k2.cell 2
    have c2_3 : U6.cell? ⟨(w.heap.size + 1), 3, none⟩ = some (.int .u64 0) := k2.cell 3
    have c2_4 : U6.cell? ⟨(w.heap.size + 1), 4, none⟩ = some (.int .u64 0) := k2.cell 4
    have c2_5 : U6.cell? ⟨(w.heap.size + 1), 5, none⟩ = some (.int .u64 0) := k2.cell 5
    have c2_6 : U6.cell? ⟨(w.heap.size + 1), 6, none⟩ = some (.int .u64 0) := k2.cell 6
    have c2_7 : U6.cell? ⟨(w.heap.size + 1), 7, none⟩ = some (.int .u64 0) := k2.cell 7
    have c2_8 : U6.cell? ⟨(w.heap.size + 1), 8, none⟩ = some (.int .u64 0) := k2.cell 8
    have c2_9 : U6.cell? ⟨(w.heap.size + 1), 9, none⟩ = some (.int .u64 0) := k2.cell 9
    have c2_10 : U6.cell? ⟨(w.heap.size + 1), 10, none⟩ = some (.int .u64 0) := k2.cell 10
    have c2_11 : U6.cell? ⟨(w.heap.size + 1), 11, none⟩ = some (.int .u64 0) := k2.cell 11
    have f2_0 := k2.free 0
    have f2_1 := k2.free 1
    have f2_2 := k2.free 2
    have f2_3 := k2.free 3
    have f2_4 := k2.free 4
    have f2_5 := k2.free 5
    have f2_6 := k2.free 6
    have f2_7 := k2.free 7
    have f2_8 := k2.free 8
    have f2_9 := k2.free 9
    have f2_10 := k2.free 10
    have f2_11 := k2.free 11
    have l2 := k2.lt
    have e0 : x = R0 := by rw [← HR0.out]; unfold atx; (try rw [Hz1.out]); all_goals first | rfl | simp
    have e1 : y = R1 := by rw [← HR1.out]; unfold aty; (try rw [Hz1.out]); all_goals first | rfl | simp
    have e2 : 1 = R2 := by rw [← HR2.out]; unfold atw; (try rw [Hz1.out]); all_goals first | rfl | simp
    subst e0
    subst e1
    subst e2
    go_wp2
    clear c2_0 c2_1 c2_2 c2_3 c2_4 c2_5 c2_6 c2_7 c2_8 c2_9 c2_10 c2_11 f2_0 f2_1 f2_2 f2_3 f2_4 f2_5 f2_6 f2_7 f2_8 f2_9 f2_10 f2_11 l2
    first | refine post_world ?_
    intro V7 hV7
    have D4 := Lib.hid k2.lt
    have D5 := Lib.hid hb0.size
    have nk2 : Blk V7 (w.heap.size + 1) #[.int .u64 (wd0 x), .int .u64 (wd1 x), .int .u64 (wd2 x), .int .u64 (wd3 x), .int .u64 (wd0 y), .int .u64 (wd1 y), .int .u64 (wd2 y), .int .u64 (wd3 y), .int .u64 (wd0 1), .int .u64 (wd1 1), .int .u64 (wd2 1), .int .u64 (wd3 1)] 67 := by rw [hV7]; exact (blk_full _ [.int .u64 (wd0 x), .int .u64 (wd1 x), .int .u64 (wd2 x), .int .u64 (wd3 x), .int .u64 (wd0 y), .int .u64 (wd1 y), .int .u64 (wd2 y), .int .u64 (wd3 y), .int .u64 (wd0 1), .int .u64 (wd1 1), .int .u64 (wd2 1), .int .u64 (wd3 1)] k2 rfl)
    have nhb0 : Below w.heap.size w V7 := by rw [hV7]; exact (blw_setL hb0 (by omega) 0 [.int .u64 (wd0 x), .int .u64 (wd1 x), .int .u64 (wd2 x), .int .u64 (wd3 x), .int .u64 (wd0 y), .int .u64 (wd1 y), .int .u64 (wd2 y), .int .u64 (wd3 y), .int .u64 (wd0 1), .int .u64 (wd1 1), .int .u64 (wd2 1), .int .u64 (wd3 1)])
    clear k2
    clear hb0
    clear hV7
    have k2 := nk2
    clear nk2
    have hb0 := nhb0
    clear nhb0
    have g2_0 : V7.cell? ⟨(w.heap.size + 1), 0, none⟩ = some (.int .u64 (wd0 x)) := k2.cell 0
    have g2_1 : V7.cell? ⟨(w.heap.size + 1), 1, none⟩ = some (.int .u64 (wd1 x)) := k2.cell 1
    have g2_2 : V7.cell? ⟨(w.heap.size + 1), 2, none⟩ = some (.int .u64 (wd2 x)) := k2.cell 2
    have g2_3 : V7.cell? ⟨(w.heap.size + 1), 3, none⟩ = some (.int .u64 (wd3 x)) := k2.cell 3
    have g2_4 : V7.cell? ⟨(w.heap.size + 1), 4, none⟩ = some (.int .u64 (wd0 y)) := k2.cell 4
    have g2_5 : V7.cell? ⟨(w.heap.size + 1), 5, none⟩ = some (.int .u64 (wd1 y)) := k2.cell 5
    have g2_6 : V7.cell? ⟨(w.heap.size + 1), 6, none⟩ = some (.int .u64 (wd2 y)) := k2.cell 6
    have g2_7 : V7.cell? ⟨(w.heap.size + 1), 7, none⟩ = some (.int .u64 (wd3 y)) := k2.cell 7
    have g2_8 : V7.cell? ⟨(w.heap.size + 1), 8, none⟩ = some (.int .u64 (wd0 1)) := k2.cell 8
    have g2_9 : V7.cell? ⟨(w.heap.size + 1), 9, none⟩ = some (.int .u64 (wd1 1)) := k2.cell 9
    have g2_10 : V7.cell? ⟨(w.heap.size + 1), 10, none⟩ = some (.int .u64 (wd2 1)) := k2.cell 10
    have g2_11 : V7.cell? ⟨(w.heap.size + 1), 11, none⟩ = some (.int .u64 (wd3 1)) := k2.cell 11
    clear k2
    simp [bodyPost, results, Try.results47, go_sem, g2_0, g2_1, g2_2, g2_3, g2_4, g2_5, g2_6, g2_7, g2_8, g2_9, g2_10, g2_11]
    first | exact hb0 | exact ⟨rfl, hb0⟩

theorem alCr1_0 : AllocRuns Try.prog 35 #[.int .u64 0, .int .u64 0, .int .u64 0, .int .u64 0] := fun w => by kernel_rfl

def spR (x : Int) (y : Int) (v : Int) : Bool := (bif decide ((v.sign) ≤ 0) then false else (bif decide (0 < (cmpI v (mulv 35184372088832 35184372088832))) then false else (bif decide (0 ≤ (cmpI x (subv 0 (mulv v 2199023255552)))) then (bif decide ((cmpI x (mulv v 2199023255552)) ≤ 0) then (bif decide (0 ≤ (cmpI y (subv 0 (mulv v 2199023255552)))) then decide ((cmpI y (mulv v 2199023255552)) ≤ 0) else false) else false) else false)))

set_option maxRecDepth 100000 in
set_option maxHeartbeats 4000000 in

theorem SpRight_is (x : Int) (y : Int) (v : Int)  (R0 : Bool) (hR0 : spR x y v = R0) (_ix : InI x) (_iy : InI y) (_iv : InI v)  (w : World)  :
    Calls Try.prog 59 #[.agg #[.int .u64 (wd0 x), .int .u64 (wd1 x), .int .u64 (wd2 x), .int .u64 (wd3 x), .int .u64 (wd0 y), .int .u64 (wd1 y), .int .u64 (wd2 y), .int .u64 (wd3 y), .int .u64 (wd0 v), .int .u64 (wd1 v), .int .u64 (wd2 v), .int .u64 (wd3 v)]] w fun e w' => e = .returned (.bool R0) ∧ Below w.heap.size w w' := by

  have HR0 := Lib.hid hR0
  clear hR0
  go_enter Try.func59, Try.ntmps59
  go_wp2_with fail
  first | refine calls_w ?_ | refine name_world ?_ | refine list_world ?_ | refine post_world ?_
  intro V1 hV1
  have hn : Below w.heap.size w V1 := by rw [hV1]; exact below_a1 _ _
  have nhb0 := hn
  have k1 : Blk V1 w.heap.size #[.int .u64 (wd0 x), .int .u64 (wd1 x), .int .u64 (wd2 x), .int .u64 (wd3 x), .int .u64 (wd0 y), .int .u64 (wd1 y), .int .u64 (wd2 y), .int .u64 (wd3 y), .int .u64 (wd0 v), .int .u64 (wd1 v), .int .u64 (wd2 v), .int .u64 (wd3 v)] 67 := by rw [hV1]; exact (Blk.new _ _ _)
  clear hV1
  have hb0 := nhb0
  clear nhb0
  obtain ⟨r1, hr1⟩ : ∃ o_o : Int, v.sign = o_o := ⟨_, rfl⟩
  have Hr1 := Lib.hid hr1
  clear hr1
  obtain ⟨z2, hz2⟩ : ∃ o_o : Bool, decide (r1 ≤ 0) = o_o := ⟨_, rfl⟩
  cases z2
  · obtain ⟨r3, hr3⟩ : ∃ o_o : Int, mulv 35184372088832 35184372088832 = o_o := ⟨_, rfl⟩
    have Hr3 := Lib.hid hr3
    clear hr3
    have c1_8 : V1.cell? ⟨w.heap.size, 8, none⟩ = some (.int .u64 (wd0 v)) := k1.cell 8
    have c1_9 : V1.cell? ⟨w.heap.size, 9, none⟩ = some (.int .u64 (wd1 v)) := k1.cell 9
    have c1_10 : V1.cell? ⟨w.heap.size, 10, none⟩ = some (.int .u64 (wd2 v)) := k1.cell 10
    have c1_11 : V1.cell? ⟨w.heap.size, 11, none⟩ = some (.int .u64 (wd3 v)) := k1.cell 11
    have l1 := k1.lt
    have Kk1 := Lib.hid k1
    clear k1
    refine wp_region_up V1.heap.size 10 [(true, 0), (true, 1), (false, 2), (true, 3), (true, 4), (true, 5), (true, 6), (false, 7), (false, 8), (false, 9)] (by kernel_rfl) (by kernel_rfl) (fun _ _ d _ _ h => by cases d <;> exact h) ?_
    have hb : Below V1.heap.size V1 V1.drew := (Below.refl _ _).drew
    iterate 2
      refine wpS_takeL rfl rfl ?_
      go_big_quiet_step (rfl)
      refine wpQuiet_nil ?_
    refine wpS_doL rfl ?_
    intro K hK
    go_wp2_with ((go_at_call 22; (with_reducible refine (Sign_v v r1 Hr1.out _iv _).mono ?_); rintro e w2 ⟨rfl, hn⟩))
    replace hb := hb.trans (hn.mono hb.size)
    refine hK.out _ _ (up_iff.2 hb) ?_
    clear hK K
    clear hn
    iterate 4
      refine wpS_takeL rfl rfl ?_
      go_big_quiet_step (rfl)
      refine wpQuiet_nil ?_
    refine wpS_doL rfl ?_
    intro K hK
    go_wp2_with ((go_at_call 62; (with_reducible refine (Of_v 35184372088832 35184372088832 rfl (by unfold In64; omega) _).mono ?_); rintro e w2 ⟨rfl, hn⟩))
    try replace hb := hb.trans (hn.mono hb.size)
    refine hK.out _ _ (up_iff.2 hb) ?_
    clear hK K
    try clear hn
    refine wpS_doL rfl ?_
    intro K hK
    go_wp2_with ((go_at_call 62; (with_reducible refine (Of_v 35184372088832 35184372088832 rfl (by unfold In64; omega) _).mono ?_); rintro e w2 ⟨rfl, hn⟩))
    try replace hb := hb.trans (hn.mono hb.size)
    refine hK.out _ _ (up_iff.2 hb) ?_
    clear hK K
    try clear hn
    refine wpS_doL rfl ?_
    intro K hK
    go_wp2_with ((go_at_call 106; (with_reducible refine (crtimes_is 35184372088832 35184372088832 r3 Hr3.out (by unfold InI b255; omega) (by unfold InI b255; omega)  _).mono ?_); rintro e w2 ⟨rfl, hn⟩))
    try replace hb := hb.trans (hn.mono hb.size)
    refine hK.out _ _ (up_iff.2 hb) ?_
    clear hK K
    try clear hn
    refine wpS_nil ?_
    simp only [List.drop_succ_cons, List.drop_zero]
    first | refine calls_w ?_ | refine name_world ?_ | refine list_world ?_ | refine post_world ?_
    intro U2 hU2
    first | subst hU2 | (rw [← hU2] at hb; clear hU2)
    clear c1_8 c1_9 c1_10 c1_11 l1
    have k1 := Kk1.out.of hb
    clear Kk1
    replace hb0 := hb0.trans (hb.mono hb0.size)
    clear hb
    go_wp2_with fail
    obtain ⟨r4, hr4⟩ : ∃ o_o : Int, cmpI v r3 = o_o := ⟨_, rfl⟩
    have Hr4 := Lib.hid hr4
    clear hr4
    refine (Cmp_v v r3 r4 Hr4.out _iv (Hr3.out ▸ mulv_in 35184372088832 35184372088832) _).mono ?_
    rintro e U3 ⟨rfl, hn⟩
    replace k1 := k1.of hn
    replace hb0 := hb0.trans (hn.mono hb0.size)
    clear hn
    obtain ⟨z5, hz5⟩ : ∃ o_o : Bool, decide (0 < r4) = o_o := ⟨_, rfl⟩
    cases z5
    · go_wp2_with fail
      obtain ⟨r6, hr6⟩ : ∃ o_o : Int, mulv v 2199023255552 = o_o := ⟨_, rfl⟩
      have Hr6 := Lib.hid hr6
      clear hr6
      have c1_8 : U3.cell? ⟨w.heap.size, 8, none⟩ = some (.int .u64 (wd0 v)) := k1.cell 8
      have c1_9 : U3.cell? ⟨w.heap.size, 9, none⟩ = some (.int .u64 (wd1 v)) := k1.cell 9
      have c1_10 : U3.cell? ⟨w.heap.size, 10, none⟩ = some (.int .u64 (wd2 v)) := k1.cell 10
      have c1_11 : U3.cell? ⟨w.heap.size, 11, none⟩ = some (.int .u64 (wd3 v)) := k1.cell 11
      have l1 := k1.lt
      have Kk1 := Lib.hid k1
      clear k1
      refine wp_region_float1 5 4 [(true, 0), (true, 1), (false, 2), (false, 3)] (by kernel_rfl) (by kernel_rfl) (fun _ _ d _ _ => by cases d <;> exact Iff.rfl) rfl rfl rfl alCr1_0 ?_
      have hb : Below U3.heap.size U3 U3.drew := (Below.refl _ _).drew
      iterate 2
        refine wpF_take rfl rfl ?_
        go_big_quiet_step (rfl)
        refine wpQuiet_nil ?_
      refine wpF_do rfl ?_
      intro w1 hg K hK
      replace hb := hb.trans (hg.mono hb.size)
      clear hg
      go_wp2_with ((go_at_call 62; (with_reducible refine (Of_v 2199023255552 2199023255552 rfl (by unfold In64; omega) _).mono ?_); rintro e w2 ⟨rfl, hn⟩))
      refine hK.out _ _ hn ?_
      replace hb := hb.trans (hn.mono hb.size)
      clear hK K
      clear hn
      refine wpF_do rfl ?_
      intro w1 hg K hK
      replace hb := hb.trans (hg.mono hb.size)
      clear hg
      go_wp2_with ((go_at_call 106; (with_reducible refine (crtimes_is v 2199023255552 r6 Hr6.out _iv (by unfold InI b255; omega)  _).mono ?_); rintro e w2 ⟨rfl, hn⟩))
      refine hK.out _ _ hn ?_
      replace hb := hb.trans (hn.mono hb.size)
      clear hK K
      clear hn
      refine wpF_nil ?_
      clear hb
      intro w1 hg hb b1 lb1 nb1
      clear hg
      simp only [Act.put, ptrTo, List.setIfInBounds_toArray, List.set_cons_succ, List.set_cons_zero]
      simp only [List.drop_succ_cons, List.drop_zero]
      clear c1_8 c1_9 c1_10 c1_11 l1
      first | refine calls_w ?_ | refine name_world ?_ | refine list_world ?_ | refine post_world ?_
      intro U4 hU4
      subst hU4
      have D1 := Lib.hid Kk1.out.lt
      have D2 := Lib.hid hb0.size
      have k2 : Blk U4 b1 #[.int .u64 0, .int .u64 0, .int .u64 0, .int .u64 0] 35 := nb1
      have k1 := Kk1.out.of hb
      clear Kk1
      have D3 := Lib.hid lb1
      clear nb1 lb1
      replace hb0 := hb0.trans (hb.mono hb0.size)
      clear hb
      generalize b1 = q2 at *
      have c2_0 : U4.cell? ⟨q2, 0, none⟩ = some (.int .u64 0) := k2.cell 0
      have c2_1 : U4.cell? ⟨q2, 1, none⟩ = some (.int .u64 0) := k2.cell 1
      have c2_2 : U4.cell? ⟨q2, 2, none⟩ = some (.int .u64 0) := k2.cell 2
      have c2_3 : U4.cell? ⟨q2, 3, none⟩ = some (.int .u64 0) := k2.cell 3
      have f2_0 := k2.free 0
      have f2_1 := k2.free 1
      have f2_2 := k2.free 2
      have f2_3 := k2.free 3
      have l2 := k2.lt
      go_wp2_with fail
      clear c2_0 c2_1 c2_2 c2_3 f2_0 f2_1 f2_2 f2_3 l2
      first | refine calls_w ?_ | refine name_world ?_ | refine list_world ?_ | refine post_world ?_
      intro V5 hV5
      have D4 := Lib.hid k1.lt
      have D5 := Lib.hid k2.lt
      have D6 := Lib.hid hb0.size
      have nk1 : Blk V5 w.heap.size #[.int .u64 (wd0 x), .int .u64 (wd1 x), .int .u64 (wd2 x), .int .u64 (wd3 x), .int .u64 (wd0 y), .int .u64 (wd1 y), .int .u64 (wd2 y), .int .u64 (wd3 y), .int .u64 (wd0 v), .int .u64 (wd1 v), .int .u64 (wd2 v), .int .u64 (wd3 v)] 67 := by rw [hV5]; exact (blk_setL k1 (by have := D1.out; have := D3.out; omega) 0 [.int .u64 (wd0 r6), .int .u64 (wd1 r6), .int .u64 (wd2 r6), .int .u64 (wd3 r6)])
      have nk2 : Blk V5 q2 #[.int .u64 (wd0 r6), .int .u64 (wd1 r6), .int .u64 (wd2 r6), .int .u64 (wd3 r6)] 35 := by rw [hV5]; exact (blk_full _ [.int .u64 (wd0 r6), .int .u64 (wd1 r6), .int .u64 (wd2 r6), .int .u64 (wd3 r6)] k2 rfl)
      have nhb0 : Below w.heap.size w V5 := by rw [hV5]; exact (blw_setL hb0 (by have := D2.out; have := D3.out; omega) 0 [.int .u64 (wd0 r6), .int .u64 (wd1 r6), .int .u64 (wd2 r6), .int .u64 (wd3 r6)])
      clear k1 k2
      clear hb0
      clear hV5
      have k1 := nk1
      clear nk1
      have k2 := nk2
      clear nk2
      have hb0 := nhb0
      clear nhb0
      obtain ⟨r7, hr7⟩ : ∃ o_o : Int, subv 0 r6 = o_o := ⟨_, rfl⟩
      have Hr7 := Lib.hid hr7
      clear hr7
      refine (args_eq (a' := #[.agg #[.int .u64 0, .int .u64 0, .int .u64 0, .int .u64 0], .agg #[.int .u64 (wd0 r6), .int .u64 (wd1 r6), .int .u64 (wd2 r6), .int .u64 (wd3 r6)]]) (crless_is 0 r6 r7 Hr7.out (by unfold InI b255; omega) (Hr6.out ▸ mulv_in v 2199023255552)  _) (by kernel_rfl)).mono ?_
      rintro e U6 ⟨rfl, hn⟩
      replace k1 := k1.of hn
      replace k2 := k2.of hn
      replace hb0 := hb0.trans (hn.mono hb0.size)
      clear hn
      have c1_0 : U6.cell? ⟨w.heap.size, 0, none⟩ = some (.int .u64 (wd0 x)) := k1.cell 0
      have c1_1 : U6.cell? ⟨w.heap.size, 1, none⟩ = some (.int .u64 (wd1 x)) := k1.cell 1
      have c1_2 : U6.cell? ⟨w.heap.size, 2, none⟩ = some (.int .u64 (wd2 x)) := k1.cell 2
      have c1_3 : U6.cell? ⟨w.heap.size, 3, none⟩ = some (.int .u64 (wd3 x)) := k1.cell 3
      have l1 := k1.lt
      go_wp2_with fail
      clear c1_0 c1_1 c1_2 c1_3 l1
      first | refine calls_w ?_ | refine name_world ?_ | refine list_world ?_ | refine post_world ?_
      intro V7 hV7
      have D7 := Lib.hid k1.lt
      have D8 := Lib.hid k2.lt
      have D9 := Lib.hid hb0.size
      have hn : Below U6.heap.size U6 V7 := by rw [hV7]; exact below_a1 _ _
      have nk1 := k1.of hn
      have nk2 := k2.of hn
      have nhb0 := hb0.trans (hn.mono hb0.size)
      clear hn
      have k3 : Blk V7 U6.heap.size #[.int .u64 (wd0 r7), .int .u64 (wd1 r7), .int .u64 (wd2 r7), .int .u64 (wd3 r7)] 35 := by rw [hV7]; exact (Blk.new _ _ _)
      clear k1 k2
      clear hb0
      clear hV7
      have k1 := nk1
      clear nk1
      have k2 := nk2
      clear nk2
      have hb0 := nhb0
      clear nhb0
      obtain ⟨r8, hr8⟩ : ∃ o_o : Int, cmpI x r7 = o_o := ⟨_, rfl⟩
      have Hr8 := Lib.hid hr8
      clear hr8
      refine (Cmp_v x r7 r8 Hr8.out _ix (Hr7.out ▸ subv_in 0 r6) _).mono ?_
      rintro e U8 ⟨rfl, hn⟩
      replace k1 := k1.of hn
      replace k2 := k2.of hn
      replace k3 := k3.of hn
      replace hb0 := hb0.trans (hn.mono hb0.size)
      clear hn
      obtain ⟨z9, hz9⟩ : ∃ o_o : Bool, decide (0 ≤ r8) = o_o := ⟨_, rfl⟩
      cases z9
      · have e0 : false = R0 := by rw [← HR0.out]; unfold spR; (try rw [Hr1.out]); (try rw [hz2]); (try rw [Hr3.out]); (try rw [Hr4.out]); (try rw [hz5]); (try rw [Hr6.out]); (try rw [Hr7.out]); (try rw [Hr8.out]); (try rw [hz9]); all_goals first | rfl | simp
        subst e0
        go_wp2
        first | go_ret | go_ret2
        exact ⟨by first | rfl | simp, hb0⟩
      · have c1_0 : U8.cell? ⟨w.heap.size, 0, none⟩ = some (.int .u64 (wd0 x)) := k1.cell 0
        have c1_1 : U8.cell? ⟨w.heap.size, 1, none⟩ = some (.int .u64 (wd1 x)) := k1.cell 1
        have c1_2 : U8.cell? ⟨w.heap.size, 2, none⟩ = some (.int .u64 (wd2 x)) := k1.cell 2
        have c1_3 : U8.cell? ⟨w.heap.size, 3, none⟩ = some (.int .u64 (wd3 x)) := k1.cell 3
        have l1 := k1.lt
        have c2_0 : U8.cell? ⟨q2, 0, none⟩ = some (.int .u64 (wd0 r6)) := k2.cell 0
        have c2_1 : U8.cell? ⟨q2, 1, none⟩ = some (.int .u64 (wd1 r6)) := k2.cell 1
        have c2_2 : U8.cell? ⟨q2, 2, none⟩ = some (.int .u64 (wd2 r6)) := k2.cell 2
        have c2_3 : U8.cell? ⟨q2, 3, none⟩ = some (.int .u64 (wd3 r6)) := k2.cell 3
        have l2 := k2.lt
        go_wp2_with fail
        clear c1_0 c1_1 c1_2 c1_3 l1 c2_0 c2_1 c2_2 c2_3 l2
        obtain ⟨r10, hr10⟩ : ∃ o_o : Int, cmpI x r6 = o_o := ⟨_, rfl⟩
        have Hr10 := Lib.hid hr10
        clear hr10
        refine (Cmp_v x r6 r10 Hr10.out _ix (Hr6.out ▸ mulv_in v 2199023255552) _).mono ?_
        rintro e U9 ⟨rfl, hn⟩
        replace k1 := k1.of hn
        replace k2 := k2.of hn
        replace k3 := k3.of hn
        replace hb0 := hb0.trans (hn.mono hb0.size)
        clear hn
        obtain ⟨z11, hz11⟩ : ∃ o_o : Bool, decide (r10 ≤ 0) = o_o := ⟨_, rfl⟩
        cases z11
        · have e0 : false = R0 := by rw [← HR0.out]; unfold spR; (try rw [Hr1.out]); (try rw [hz2]); (try rw [Hr3.out]); (try rw [Hr4.out]); (try rw [hz5]); (try rw [Hr6.out]); (try rw [Hr7.out]); (try rw [Hr8.out]); (try rw [hz9]); (try rw [Hr10.out]); (try rw [hz11]); all_goals first | rfl | simp
          subst e0
          go_wp2
          first | go_ret | go_ret2
          exact ⟨by first | rfl | simp, hb0⟩
        · have c1_4 : U9.cell? ⟨w.heap.size, 4, none⟩ = some (.int .u64 (wd0 y)) := k1.cell 4
          have c1_5 : U9.cell? ⟨w.heap.size, 5, none⟩ = some (.int .u64 (wd1 y)) := k1.cell 5
          have c1_6 : U9.cell? ⟨w.heap.size, 6, none⟩ = some (.int .u64 (wd2 y)) := k1.cell 6
          have c1_7 : U9.cell? ⟨w.heap.size, 7, none⟩ = some (.int .u64 (wd3 y)) := k1.cell 7
          have l1 := k1.lt
          have c3_0 : U9.cell? ⟨U6.heap.size, 0, none⟩ = some (.int .u64 (wd0 r7)) := k3.cell 0
          have c3_1 : U9.cell? ⟨U6.heap.size, 1, none⟩ = some (.int .u64 (wd1 r7)) := k3.cell 1
          have c3_2 : U9.cell? ⟨U6.heap.size, 2, none⟩ = some (.int .u64 (wd2 r7)) := k3.cell 2
          have c3_3 : U9.cell? ⟨U6.heap.size, 3, none⟩ = some (.int .u64 (wd3 r7)) := k3.cell 3
          have l3 := k3.lt
          go_wp2_with fail
          clear c1_4 c1_5 c1_6 c1_7 l1 c3_0 c3_1 c3_2 c3_3 l3
          obtain ⟨r12, hr12⟩ : ∃ o_o : Int, cmpI y r7 = o_o := ⟨_, rfl⟩
          have Hr12 := Lib.hid hr12
          clear hr12
          refine (Cmp_v y r7 r12 Hr12.out _iy (Hr7.out ▸ subv_in 0 r6) _).mono ?_
          rintro e U10 ⟨rfl, hn⟩
          clear k3
          replace k1 := k1.of hn
          replace k2 := k2.of hn
          replace hb0 := hb0.trans (hn.mono hb0.size)
          clear hn
          obtain ⟨z13, hz13⟩ : ∃ o_o : Bool, decide (0 ≤ r12) = o_o := ⟨_, rfl⟩
          cases z13
          · have e0 : false = R0 := by rw [← HR0.out]; unfold spR; (try rw [Hr1.out]); (try rw [hz2]); (try rw [Hr3.out]); (try rw [Hr4.out]); (try rw [hz5]); (try rw [Hr6.out]); (try rw [Hr7.out]); (try rw [Hr8.out]); (try rw [hz9]); (try rw [Hr10.out]); (try rw [hz11]); (try rw [Hr12.out]); (try rw [hz13]); all_goals first | rfl | simp
            subst e0
            go_wp2
            first | go_ret | go_ret2
            exact ⟨by first | rfl | simp, hb0⟩
          · have c1_4 : U10.cell? ⟨w.heap.size, 4, none⟩ = some (.int .u64 (wd0 y)) := k1.cell 4
            have c1_5 : U10.cell? ⟨w.heap.size, 5, none⟩ = some (.int .u64 (wd1 y)) := k1.cell 5
            have c1_6 : U10.cell? ⟨w.heap.size, 6, none⟩ = some (.int .u64 (wd2 y)) := k1.cell 6
            have c1_7 : U10.cell? ⟨w.heap.size, 7, none⟩ = some (.int .u64 (wd3 y)) := k1.cell 7
            have l1 := k1.lt
            have c2_0 : U10.cell? ⟨q2, 0, none⟩ = some (.int .u64 (wd0 r6)) := k2.cell 0
            have c2_1 : U10.cell? ⟨q2, 1, none⟩ = some (.int .u64 (wd1 r6)) := k2.cell 1
            have c2_2 : U10.cell? ⟨q2, 2, none⟩ = some (.int .u64 (wd2 r6)) := k2.cell 2
            have c2_3 : U10.cell? ⟨q2, 3, none⟩ = some (.int .u64 (wd3 r6)) := k2.cell 3
            have l2 := k2.lt
            go_wp2_with fail
            clear c1_4 c1_5 c1_6 c1_7 l1 c2_0 c2_1 c2_2 c2_3 l2
            obtain ⟨r14, hr14⟩ : ∃ o_o : Int, cmpI y r6 = o_o := ⟨_, rfl⟩
            have Hr14 := Lib.hid hr14
            clear hr14
            refine (Cmp_v y r6 r14 Hr14.out _iy (Hr6.out ▸ mulv_in v 2199023255552) _).mono ?_
            rintro e U11 ⟨rfl, hn⟩
            clear k1 k2
            replace hb0 := hb0.trans (hn.mono hb0.size)
            clear hn
            have e0 : decide (r14 ≤ 0) = R0 := by rw [← HR0.out]; unfold spR; (try rw [Hr1.out]); (try rw [hz2]); (try rw [Hr3.out]); (try rw [Hr4.out]); (try rw [hz5]); (try rw [Hr6.out]); (try rw [Hr7.out]); (try rw [Hr8.out]); (try rw [hz9]); (try rw [Hr10.out]); (try rw [hz11]); (try rw [Hr12.out]); (try rw [hz13]); (try rw [Hr14.out]); all_goals first | rfl | simp
            subst e0
            go_wp2
            first | go_ret | go_ret2
            exact ⟨by first | rfl | simp, hb0⟩
    · have e0 : false = R0 := by rw [← HR0.out]; unfold spR; (try rw [Hr1.out]); (try rw [hz2]); (try rw [Hr3.out]); (try rw [Hr4.out]); (try rw [hz5]); all_goals first | rfl | simp
      subst e0
      go_wp2
      first | go_ret | go_ret2
      exact ⟨by first | rfl | simp, hb0⟩
  · have c1_8 : V1.cell? ⟨w.heap.size, 8, none⟩ = some (.int .u64 (wd0 v)) := k1.cell 8
    have c1_9 : V1.cell? ⟨w.heap.size, 9, none⟩ = some (.int .u64 (wd1 v)) := k1.cell 9
    have c1_10 : V1.cell? ⟨w.heap.size, 10, none⟩ = some (.int .u64 (wd2 v)) := k1.cell 10
    have c1_11 : V1.cell? ⟨w.heap.size, 11, none⟩ = some (.int .u64 (wd3 v)) := k1.cell 11
    have l1 := k1.lt
    have Kk1 := Lib.hid k1
    clear k1
    refine wp_region_up V1.heap.size 10 [(true, 0), (true, 1), (false, 2), (true, 3), (true, 4), (true, 5), (true, 6), (false, 7), (false, 8), (false, 9)] (by kernel_rfl) (by kernel_rfl) (fun _ _ d _ _ h => by cases d <;> exact h) ?_
    have hb : Below V1.heap.size V1 V1.drew := (Below.refl _ _).drew
    iterate 2
      refine wpS_takeL rfl rfl ?_
      go_big_quiet_step (rfl)
      refine wpQuiet_nil ?_
    refine wpS_doL rfl ?_
    intro K hK
    go_wp2_with ((go_at_call 22; (with_reducible refine (Sign_v v r1 Hr1.out _iv _).mono ?_); rintro e w2 ⟨rfl, hn⟩))
    replace hb := hb.trans (hn.mono hb.size)
    refine hK.out _ _ (up_iff.2 hb) ?_
    clear hK K
    clear hn
    iterate 4
      refine wpS_takeL rfl rfl ?_
      go_big_quiet_step (rfl)
      refine wpQuiet_nil ?_
    refine wpS_doL rfl ?_
    intro K hK
    go_wp2_with ((go_at_call 22; (with_reducible refine (Sign_v v r1 Hr1.out _iv _).mono ?_); rintro e w2 ⟨rfl, hn⟩))
    try replace hb := hb.trans (hn.mono hb.size)
    refine hK.out _ _ (up_iff.2 hb) ?_
    clear hK K
    try clear hn
    refine wpS_doL rfl ?_
    intro K hK
    go_wp2_with ((go_at_call 22; (with_reducible refine (Sign_v v r1 Hr1.out _iv _).mono ?_); rintro e w2 ⟨rfl, hn⟩))
    try replace hb := hb.trans (hn.mono hb.size)
    refine hK.out _ _ (up_iff.2 hb) ?_
    clear hK K
    try clear hn
    refine wpS_doL rfl ?_
    intro K hK
    go_wp2_with ((go_at_call 22; (with_reducible refine (Sign_v v r1 Hr1.out _iv _).mono ?_); rintro e w2 ⟨rfl, hn⟩))
    try replace hb := hb.trans (hn.mono hb.size)
    refine hK.out _ _ (up_iff.2 hb) ?_
    clear hK K
    try clear hn
    refine wpS_nil ?_
    simp only [List.drop_succ_cons, List.drop_zero]
    first | refine calls_w ?_ | refine name_world ?_ | refine list_world ?_ | refine post_world ?_
    intro U12 hU12
    first | subst hU12 | (rw [← hU12] at hb; clear hU12)
    clear c1_8 c1_9 c1_10 c1_11 l1
    have k1 := Kk1.out.of hb
    clear Kk1
    replace hb0 := hb0.trans (hb.mono hb0.size)
    clear hb
    have e0 : false = R0 := by rw [← HR0.out]; unfold spR; (try rw [Hr1.out]); (try rw [hz2]); all_goals first | rfl | simp
    subst e0
    go_wp2
    first | go_ret | go_ret2
    exact ⟨by first | rfl | simp, hb0⟩

end Go.Proofs.Ytlcbomjdbdgbmaa

namespace Go.Proofs.Ytlcbomjdbdgbmaa
open Go.RowKit

def pxS (n : Int) : Bool := (bif decide (1 ≤ n) then decide (n ≤ 1048576) else false)

set_option maxRecDepth 100000 in
set_option maxHeartbeats 4000000 in

theorem pxSize_is (n : Int)  (R0 : Bool) (hR0 : pxS n = R0) (_in : In64 n)  (w : World)  :
    Calls Try.prog 43 #[.int .i64 n] w fun e w' => e = .returned (.bool R0) ∧ Below w.heap.size w w' := by

  have HR0 := Lib.hid hR0
  clear hR0
  obtain ⟨z1, hz1⟩ : ∃ o_o : Bool, decide (1 ≤ n) = o_o := ⟨_, rfl⟩
  cases z1
  · go_enter Try.func43, Try.ntmps43
    have e0 : false = R0 := by rw [← HR0.out]; unfold pxS; (try rw [hz1]); all_goals first | rfl | simp
    subst e0
    go_wp2
    first | go_ret | go_ret2
    exact ⟨by first | rfl | simp, Below.refl _ _⟩
  · go_enter Try.func43, Try.ntmps43
    have e0 : decide (n ≤ 1048576) = R0 := by rw [← HR0.out]; unfold pxS; (try rw [hz1]); all_goals first | rfl | simp
    subst e0
    go_wp2
    first | go_ret | go_ret2
    exact ⟨by first | rfl | simp, Below.refl _ _⟩

set_option maxRecDepth 100000 in
set_option maxHeartbeats 4000000 in

theorem pxtimes_is (x : Int) (y : Int)  (R0 : Int) (hR0 : mulv x y = R0) (_ix : InI x) (_iy : InI y)  (w : World)  :
    Calls Try.prog 130 #[.agg #[.int .u64 (wd0 x), .int .u64 (wd1 x), .int .u64 (wd2 x), .int .u64 (wd3 x)], .agg #[.int .u64 (wd0 y), .int .u64 (wd1 y), .int .u64 (wd2 y), .int .u64 (wd3 y)]] w fun e w' => e = .returned (.agg #[.int .u64 (wd0 R0), .int .u64 (wd1 R0), .int .u64 (wd2 R0), .int .u64 (wd3 R0)]) ∧ Below w.heap.size w w' := by

  have HR0 := Lib.hid hR0
  clear hR0
  go_enter Try.func130, Try.ntmps130
  go_wp2_with fail
  first | refine calls_w ?_ | refine name_world ?_ | refine list_world ?_ | refine post_world ?_
  intro V1 hV1
  have hn : Below w.heap.size w V1 := by rw [hV1]; exact below_a3 _ _ _ _
  have nhb0 := hn
  have k1 : Blk V1 w.heap.size #[.int .u64 (wd0 x), .int .u64 (wd1 x), .int .u64 (wd2 x), .int .u64 (wd3 x)] 35 := by rw [hV1]; exact (((Blk.new _ _ _).alloc _).alloc _)
  have k2 : Blk V1 (w.heap.size + 1) #[.int .u64 (wd0 y), .int .u64 (wd1 y), .int .u64 (wd2 y), .int .u64 (wd3 y)] 35 := by rw [hV1]; exact ((Blk.new1 _ _ _ _).alloc _)
  have k3 : Blk V1 (w.heap.size + 1 + 1) #[.int .u64 0, .int .u64 0, .int .u64 0, .int .u64 0] 35 := by rw [hV1]; exact (Blk.new2 _ _ _ _ _)
  clear hV1
  have hb0 := nhb0
  clear nhb0
  obtain ⟨r1, hr1⟩ : ∃ o_o : Int, mulv x y = o_o := ⟨_, rfl⟩
  have Hr1 := Lib.hid hr1
  clear hr1
  obtain ⟨z2, hz2⟩ : ∃ o_o : Bool, okI (x * y) = o_o := ⟨_, rfl⟩
  have Hz2 := Lib.hid hz2
  clear hz2
  refine (Mul_v x y r1 z2 Hr1.out Hz2.out _ix _iy _).mono ?_
  rintro e U2 ⟨rfl, hn⟩
  clear k1 k2
  replace k3 := k3.of hn
  replace hb0 := hb0.trans (hn.mono hb0.size)
  clear hn
  have c3_0 : U2.cell? ⟨(w.heap.size + 1 + 1), 0, none⟩ = some (.int .u64 0) := k3.cell 0
  have c3_1 : U2.cell? ⟨(w.heap.size + 1 + 1), 1, none⟩ = some (.int .u64 0) := k3.cell 1
  have c3_2 : U2.cell? ⟨(w.heap.size + 1 + 1), 2, none⟩ = some (.int .u64 0) := k3.cell 2
  have c3_3 : U2.cell? ⟨(w.heap.size + 1 + 1), 3, none⟩ = some (.int .u64 0) := k3.cell 3
  have f3_0 := k3.free 0
  have f3_1 := k3.free 1
  have f3_2 := k3.free 2
  have f3_3 := k3.free 3
  have l3 := k3.lt
  have l3_0 : w.heap.size < U2.heap.size := by have := k3.lt; omega
  have l3_1 : w.heap.size + 1 < U2.heap.size := by have := k3.lt; omega
  have e0 : r1 = R0 := by rw [← HR0.out]; (try rw [Hr1.out]); (try rw [Hz2.out]); all_goals first | rfl | simp
  subst e0
  go_wp2
  clear c3_0 c3_1 c3_2 c3_3 f3_0 f3_1 f3_2 f3_3 l3 l3_0 l3_1
  first | refine post_world ?_
  intro V3 hV3
  have D1 := Lib.hid k3.lt
  have D2 := Lib.hid hb0.size
  have nk3 : Blk V3 (w.heap.size + 1 + 1) #[.int .u64 (wd0 r1), .int .u64 (wd1 r1), .int .u64 (wd2 r1), .int .u64 (wd3 r1)] 35 := by rw [hV3]; exact ((blk_full _ [.int .u64 (wd0 r1), .int .u64 (wd1 r1), .int .u64 (wd2 r1), .int .u64 (wd3 r1)] k3 rfl).alloc _)
  have nhb0 : Below w.heap.size w V3 := by rw [hV3]; exact (blw_al (blw_setL hb0 (by omega) 0 [.int .u64 (wd0 r1), .int .u64 (wd1 r1), .int .u64 (wd2 r1), .int .u64 (wd3 r1)]) _)
  clear k3
  clear hb0
  clear hV3
  have k3 := nk3
  clear nk3
  have hb0 := nhb0
  clear nhb0
  have g3_0 : V3.cell? ⟨(w.heap.size + 1 + 1), 0, none⟩ = some (.int .u64 (wd0 r1)) := k3.cell 0
  have g3_1 : V3.cell? ⟨(w.heap.size + 1 + 1), 1, none⟩ = some (.int .u64 (wd1 r1)) := k3.cell 1
  have g3_2 : V3.cell? ⟨(w.heap.size + 1 + 1), 2, none⟩ = some (.int .u64 (wd2 r1)) := k3.cell 2
  have g3_3 : V3.cell? ⟨(w.heap.size + 1 + 1), 3, none⟩ = some (.int .u64 (wd3 r1)) := k3.cell 3
  clear k3
  simp [bodyPost, results, Try.results130, go_sem, g3_0, g3_1, g3_2, g3_3]
  first | exact hb0 | exact ⟨rfl, hb0⟩

set_option maxRecDepth 100000 in
set_option maxHeartbeats 4000000 in

theorem pxplus_is (x : Int) (y : Int)  (R0 : Int) (hR0 : addv x y = R0) (_ix : InI x) (_iy : InI y)  (w : World)  :
    Calls Try.prog 131 #[.agg #[.int .u64 (wd0 x), .int .u64 (wd1 x), .int .u64 (wd2 x), .int .u64 (wd3 x)], .agg #[.int .u64 (wd0 y), .int .u64 (wd1 y), .int .u64 (wd2 y), .int .u64 (wd3 y)]] w fun e w' => e = .returned (.agg #[.int .u64 (wd0 R0), .int .u64 (wd1 R0), .int .u64 (wd2 R0), .int .u64 (wd3 R0)]) ∧ Below w.heap.size w w' := by

  have HR0 := Lib.hid hR0
  clear hR0
  go_enter Try.func131, Try.ntmps131
  go_wp2_with fail
  first | refine calls_w ?_ | refine name_world ?_ | refine list_world ?_ | refine post_world ?_
  intro V1 hV1
  have hn : Below w.heap.size w V1 := by rw [hV1]; exact below_a3 _ _ _ _
  have nhb0 := hn
  have k1 : Blk V1 w.heap.size #[.int .u64 (wd0 x), .int .u64 (wd1 x), .int .u64 (wd2 x), .int .u64 (wd3 x)] 35 := by rw [hV1]; exact (((Blk.new _ _ _).alloc _).alloc _)
  have k2 : Blk V1 (w.heap.size + 1) #[.int .u64 (wd0 y), .int .u64 (wd1 y), .int .u64 (wd2 y), .int .u64 (wd3 y)] 35 := by rw [hV1]; exact ((Blk.new1 _ _ _ _).alloc _)
  have k3 : Blk V1 (w.heap.size + 1 + 1) #[.int .u64 0, .int .u64 0, .int .u64 0, .int .u64 0] 35 := by rw [hV1]; exact (Blk.new2 _ _ _ _ _)
  clear hV1
  have hb0 := nhb0
  clear nhb0
  obtain ⟨r1, hr1⟩ : ∃ o_o : Int, addv x y = o_o := ⟨_, rfl⟩
  have Hr1 := Lib.hid hr1
  clear hr1
  obtain ⟨z2, hz2⟩ : ∃ o_o : Bool, okI (x + y) = o_o := ⟨_, rfl⟩
  have Hz2 := Lib.hid hz2
  clear hz2
  refine (Add_v x y r1 z2 Hr1.out Hz2.out _ix _iy _).mono ?_
  rintro e U2 ⟨rfl, hn⟩
  clear k1 k2
  replace k3 := k3.of hn
  replace hb0 := hb0.trans (hn.mono hb0.size)
  clear hn
  have c3_0 : U2.cell? ⟨(w.heap.size + 1 + 1), 0, none⟩ = some (.int .u64 0) := k3.cell 0
  have c3_1 : U2.cell? ⟨(w.heap.size + 1 + 1), 1, none⟩ = some (.int .u64 0) := k3.cell 1
  have c3_2 : U2.cell? ⟨(w.heap.size + 1 + 1), 2, none⟩ = some (.int .u64 0) := k3.cell 2
  have c3_3 : U2.cell? ⟨(w.heap.size + 1 + 1), 3, none⟩ = some (.int .u64 0) := k3.cell 3
  have f3_0 := k3.free 0
  have f3_1 := k3.free 1
  have f3_2 := k3.free 2
  have f3_3 := k3.free 3
  have l3 := k3.lt
  have l3_0 : w.heap.size < U2.heap.size := by have := k3.lt; omega
  have l3_1 : w.heap.size + 1 < U2.heap.size := by have := k3.lt; omega
  have e0 : r1 = R0 := by rw [← HR0.out]; (try rw [Hr1.out]); (try rw [Hz2.out]); all_goals first | rfl | simp
  subst e0
  go_wp2
  clear c3_0 c3_1 c3_2 c3_3 f3_0 f3_1 f3_2 f3_3 l3 l3_0 l3_1
  first | refine post_world ?_
  intro V3 hV3
  have D1 := Lib.hid k3.lt
  have D2 := Lib.hid hb0.size
  have nk3 : Blk V3 (w.heap.size + 1 + 1) #[.int .u64 (wd0 r1), .int .u64 (wd1 r1), .int .u64 (wd2 r1), .int .u64 (wd3 r1)] 35 := by rw [hV3]; exact ((blk_full _ [.int .u64 (wd0 r1), .int .u64 (wd1 r1), .int .u64 (wd2 r1), .int .u64 (wd3 r1)] k3 rfl).alloc _)
  have nhb0 : Below w.heap.size w V3 := by rw [hV3]; exact (blw_al (blw_setL hb0 (by omega) 0 [.int .u64 (wd0 r1), .int .u64 (wd1 r1), .int .u64 (wd2 r1), .int .u64 (wd3 r1)]) _)
  clear k3
  clear hb0
  clear hV3
  have k3 := nk3
  clear nk3
  have hb0 := nhb0
  clear nhb0
  have g3_0 : V3.cell? ⟨(w.heap.size + 1 + 1), 0, none⟩ = some (.int .u64 (wd0 r1)) := k3.cell 0
  have g3_1 : V3.cell? ⟨(w.heap.size + 1 + 1), 1, none⟩ = some (.int .u64 (wd1 r1)) := k3.cell 1
  have g3_2 : V3.cell? ⟨(w.heap.size + 1 + 1), 2, none⟩ = some (.int .u64 (wd2 r1)) := k3.cell 2
  have g3_3 : V3.cell? ⟨(w.heap.size + 1 + 1), 3, none⟩ = some (.int .u64 (wd3 r1)) := k3.cell 3
  clear k3
  simp [bodyPost, results, Try.results131, go_sem, g3_0, g3_1, g3_2, g3_3]
  first | exact hb0 | exact ⟨rfl, hb0⟩

theorem alPx1_0 : AllocRuns Try.prog 35 #[.int .u64 0, .int .u64 0, .int .u64 0, .int .u64 0] := fun w => by kernel_rfl

def pxc (x : Int) (y : Int) (n : Int) : Int := (smk (dvq (addv (addv x x) (mulv y n)) (addv (mulv y n) (mulv y n))))

set_option maxRecDepth 100000 in
set_option maxHeartbeats 4000000 in

theorem pxcell_is (x : Int) (y : Int) (n : Int)  (R0 : Int) (hR0 : pxc x y n = R0) (_ix : InI x) (_iy : InI y) (_in : In64 n)  (w : World)  :
    Calls Try.prog 98 #[.agg #[.int .u64 (wd0 x), .int .u64 (wd1 x), .int .u64 (wd2 x), .int .u64 (wd3 x)], .agg #[.int .u64 (wd0 y), .int .u64 (wd1 y), .int .u64 (wd2 y), .int .u64 (wd3 y)], .int .i64 n] w fun e w' => e = .returned (.int .i64 R0) ∧ Below w.heap.size w w' := by

  have HR0 := Lib.hid hR0
  clear hR0
  go_enter Try.func98, Try.ntmps98
  go_wp2_with fail
  first | refine calls_w ?_ | refine name_world ?_ | refine list_world ?_ | refine post_world ?_
  intro V1 hV1
  have hn : Below w.heap.size w V1 := by rw [hV1]; exact below_a2 _ _ _
  have nhb0 := hn
  have k1 : Blk V1 w.heap.size #[.int .u64 (wd0 x), .int .u64 (wd1 x), .int .u64 (wd2 x), .int .u64 (wd3 x)] 35 := by rw [hV1]; exact ((Blk.new _ _ _).alloc _)
  have k2 : Blk V1 (w.heap.size + 1) #[.int .u64 (wd0 y), .int .u64 (wd1 y), .int .u64 (wd2 y), .int .u64 (wd3 y)] 35 := by rw [hV1]; exact (Blk.new1 _ _ _ _)
  clear hV1
  have hb0 := nhb0
  clear nhb0
  obtain ⟨r1, hr1⟩ : ∃ o_o : Int, mulv y n = o_o := ⟨_, rfl⟩
  have Hr1 := Lib.hid hr1
  clear hr1
  have c2_0 : V1.cell? ⟨(w.heap.size + 1), 0, none⟩ = some (.int .u64 (wd0 y)) := k2.cell 0
  have c2_1 : V1.cell? ⟨(w.heap.size + 1), 1, none⟩ = some (.int .u64 (wd1 y)) := k2.cell 1
  have c2_2 : V1.cell? ⟨(w.heap.size + 1), 2, none⟩ = some (.int .u64 (wd2 y)) := k2.cell 2
  have c2_3 : V1.cell? ⟨(w.heap.size + 1), 3, none⟩ = some (.int .u64 (wd3 y)) := k2.cell 3
  have l2 := k2.lt
  have Kk1 := Lib.hid k1
  clear k1
  have Kk2 := Lib.hid k2
  clear k2
  refine wp_region_float1 5 4 [(true, 0), (true, 1), (false, 2), (false, 3)] (by kernel_rfl) (by kernel_rfl) (fun _ _ d _ _ => by cases d <;> exact Iff.rfl) rfl rfl rfl alPx1_0 ?_
  have hb : Below V1.heap.size V1 V1.drew := (Below.refl _ _).drew
  iterate 2
    refine wpF_take rfl rfl ?_
    go_big_quiet_step (rfl)
    refine wpQuiet_nil ?_
  refine wpF_do rfl ?_
  intro w1 hg K hK
  replace hb := hb.trans (hg.mono hb.size)
  clear hg
  go_wp2_with ((go_at_call 62; (with_reducible refine (Of_v n n rfl _in _).mono ?_); rintro e w2 ⟨rfl, hn⟩))
  refine hK.out _ _ hn ?_
  replace hb := hb.trans (hn.mono hb.size)
  clear hK K
  clear hn
  refine wpF_do rfl ?_
  intro w1 hg K hK
  replace hb := hb.trans (hg.mono hb.size)
  clear hg
  go_wp2_with ((go_at_call 130; (with_reducible refine (pxtimes_is y n r1 Hr1.out _iy (in64_I' _in)  _).mono ?_); rintro e w2 ⟨rfl, hn⟩))
  refine hK.out _ _ hn ?_
  replace hb := hb.trans (hn.mono hb.size)
  clear hK K
  clear hn
  refine wpF_nil ?_
  clear hb
  intro w1 hg hb b1 lb1 nb1
  clear hg
  simp only [Act.put, ptrTo, List.setIfInBounds_toArray, List.set_cons_succ, List.set_cons_zero]
  simp only [List.drop_succ_cons, List.drop_zero]
  clear c2_0 c2_1 c2_2 c2_3 l2
  first | refine calls_w ?_ | refine name_world ?_ | refine list_world ?_ | refine post_world ?_
  intro U2 hU2
  subst hU2
  have D1 := Lib.hid Kk1.out.lt
  have D2 := Lib.hid Kk2.out.lt
  have D3 := Lib.hid hb0.size
  have k3 : Blk U2 b1 #[.int .u64 0, .int .u64 0, .int .u64 0, .int .u64 0] 35 := nb1
  have k1 := Kk1.out.of hb
  clear Kk1
  have k2 := Kk2.out.of hb
  clear Kk2
  have D4 := Lib.hid lb1
  clear nb1 lb1
  replace hb0 := hb0.trans (hb.mono hb0.size)
  clear hb
  generalize b1 = q3 at *
  have c3_0 : U2.cell? ⟨q3, 0, none⟩ = some (.int .u64 0) := k3.cell 0
  have c3_1 : U2.cell? ⟨q3, 1, none⟩ = some (.int .u64 0) := k3.cell 1
  have c3_2 : U2.cell? ⟨q3, 2, none⟩ = some (.int .u64 0) := k3.cell 2
  have c3_3 : U2.cell? ⟨q3, 3, none⟩ = some (.int .u64 0) := k3.cell 3
  have f3_0 := k3.free 0
  have f3_1 := k3.free 1
  have f3_2 := k3.free 2
  have f3_3 := k3.free 3
  have l3 := k3.lt
  go_wp2_with fail
  clear c3_0 c3_1 c3_2 c3_3 f3_0 f3_1 f3_2 f3_3 l3
  first | refine calls_w ?_ | refine name_world ?_ | refine list_world ?_ | refine post_world ?_
  intro V3 hV3
  clear k2
  have D5 := Lib.hid k1.lt
  have D6 := Lib.hid k3.lt
  have D7 := Lib.hid hb0.size
  have nk1 : Blk V3 w.heap.size #[.int .u64 (wd0 x), .int .u64 (wd1 x), .int .u64 (wd2 x), .int .u64 (wd3 x)] 35 := by rw [hV3]; exact (blk_setL k1 (by have := D1.out; have := D4.out; omega) 0 [.int .u64 (wd0 r1), .int .u64 (wd1 r1), .int .u64 (wd2 r1), .int .u64 (wd3 r1)])
  have nk3 : Blk V3 q3 #[.int .u64 (wd0 r1), .int .u64 (wd1 r1), .int .u64 (wd2 r1), .int .u64 (wd3 r1)] 35 := by rw [hV3]; exact (blk_full _ [.int .u64 (wd0 r1), .int .u64 (wd1 r1), .int .u64 (wd2 r1), .int .u64 (wd3 r1)] k3 rfl)
  have nhb0 : Below w.heap.size w V3 := by rw [hV3]; exact (blw_setL hb0 (by have := D3.out; have := D4.out; omega) 0 [.int .u64 (wd0 r1), .int .u64 (wd1 r1), .int .u64 (wd2 r1), .int .u64 (wd3 r1)])
  clear k1 k3
  clear hb0
  clear hV3
  have k1 := nk1
  clear nk1
  have k3 := nk3
  clear nk3
  have hb0 := nhb0
  clear nhb0
  obtain ⟨r2, hr2⟩ : ∃ o_o : Int, addv x x = o_o := ⟨_, rfl⟩
  have Hr2 := Lib.hid hr2
  clear hr2
  obtain ⟨r3, hr3⟩ : ∃ o_o : Int, addv r2 r1 = o_o := ⟨_, rfl⟩
  have Hr3 := Lib.hid hr3
  clear hr3
  obtain ⟨r4, hr4⟩ : ∃ o_o : Int, addv r1 r1 = o_o := ⟨_, rfl⟩
  have Hr4 := Lib.hid hr4
  clear hr4
  obtain ⟨r5, hr5⟩ : ∃ o_o : Int, dvq r3 r4 = o_o := ⟨_, rfl⟩
  have Hr5 := Lib.hid hr5
  clear hr5
  obtain ⟨r6, hr6⟩ : ∃ o_o : Int, dvr r3 r4 = o_o := ⟨_, rfl⟩
  have Hr6 := Lib.hid hr6
  clear hr6
  obtain ⟨z7, hz7⟩ : ∃ o_o : Bool, dvOk r3 r4 = o_o := ⟨_, rfl⟩
  have Hz7 := Lib.hid hz7
  clear hz7
  have c1_0 : V3.cell? ⟨w.heap.size, 0, none⟩ = some (.int .u64 (wd0 x)) := k1.cell 0
  have c1_1 : V3.cell? ⟨w.heap.size, 1, none⟩ = some (.int .u64 (wd1 x)) := k1.cell 1
  have c1_2 : V3.cell? ⟨w.heap.size, 2, none⟩ = some (.int .u64 (wd2 x)) := k1.cell 2
  have c1_3 : V3.cell? ⟨w.heap.size, 3, none⟩ = some (.int .u64 (wd3 x)) := k1.cell 3
  have l1 := k1.lt
  have c3_0 : V3.cell? ⟨q3, 0, none⟩ = some (.int .u64 (wd0 r1)) := k3.cell 0
  have c3_1 : V3.cell? ⟨q3, 1, none⟩ = some (.int .u64 (wd1 r1)) := k3.cell 1
  have c3_2 : V3.cell? ⟨q3, 2, none⟩ = some (.int .u64 (wd2 r1)) := k3.cell 2
  have c3_3 : V3.cell? ⟨q3, 3, none⟩ = some (.int .u64 (wd3 r1)) := k3.cell 3
  have l3 := k3.lt
  have Kk1 := Lib.hid k1
  clear k1
  have Kk3 := Lib.hid k3
  clear k3
  refine wp_region_FG2 15 13 14 [(0, 0), (0, 1), (0, 3), (0, 5), (0, 6), (1, 2), (1, 4), (1, 7), (1, 8), (0, 9), (0, 10), (2, 11), (2, 12)] [(3, 15), (3, 16), (2, 17)] (by kernel_rfl) (by kernel_rfl) (fun _ _ d _ _ => by cases d <;> exact Iff.rfl) rfl rfl rfl alPx1_0 rfl rfl rfl alPx1_0 rfl ?_
  have hb : Below V3.heap.size V3 V3.drew := (Below.refl _ _).drew
  iterate 5
    refine wpFG_take0 rfl rfl ?_
    go_big_quiet_step (rfl)
    refine wpQuiet_nil ?_
  refine wpFG_do rfl ?_
  intro w1 hg K hK
  replace hb := hb.trans (hg.mono hb.size)
  clear hg
  go_wp2_with ((first | (go_at_call 131; (with_reducible refine (pxplus_is x x r2 Hr2.out _ix _ix  _).mono ?_); rintro e w2 ⟨rfl, hn⟩) | (go_at_call 131; (with_reducible refine (pxplus_is r2 r1 r3 Hr3.out (Hr2.out ▸ addv_in x x) (Hr1.out ▸ mulv_in y n)  _).mono ?_); rintro e w2 ⟨rfl, hn⟩) | (go_at_call 131; (with_reducible refine (pxplus_is r1 r1 r4 Hr4.out (Hr1.out ▸ mulv_in y n) (Hr1.out ▸ mulv_in y n)  _).mono ?_); rintro e w2 ⟨rfl, hn⟩)))
  refine hK.out _ _ hn ?_
  replace hb := hb.trans (hn.mono hb.size)
  clear hK K
  clear hn
  refine wpFG_do rfl ?_
  intro w1 hg K hK
  replace hb := hb.trans (hg.mono hb.size)
  clear hg
  go_wp2_with ((first | (go_at_call 131; (with_reducible refine (pxplus_is x x r2 Hr2.out _ix _ix  _).mono ?_); rintro e w2 ⟨rfl, hn⟩) | (go_at_call 131; (with_reducible refine (pxplus_is r2 r1 r3 Hr3.out (Hr2.out ▸ addv_in x x) (Hr1.out ▸ mulv_in y n)  _).mono ?_); rintro e w2 ⟨rfl, hn⟩) | (go_at_call 131; (with_reducible refine (pxplus_is r1 r1 r4 Hr4.out (Hr1.out ▸ mulv_in y n) (Hr1.out ▸ mulv_in y n)  _).mono ?_); rintro e w2 ⟨rfl, hn⟩)))
  refine hK.out _ _ hn ?_
  replace hb := hb.trans (hn.mono hb.size)
  clear hK K
  clear hn
  refine wpFG_do rfl ?_
  intro w1 hg K hK
  replace hb := hb.trans (hg.mono hb.size)
  clear hg
  go_wp2_with ((first | (go_at_call 131; (with_reducible refine (pxplus_is x x r2 Hr2.out _ix _ix  _).mono ?_); rintro e w2 ⟨rfl, hn⟩) | (go_at_call 131; (with_reducible refine (pxplus_is r2 r1 r3 Hr3.out (Hr2.out ▸ addv_in x x) (Hr1.out ▸ mulv_in y n)  _).mono ?_); rintro e w2 ⟨rfl, hn⟩) | (go_at_call 131; (with_reducible refine (pxplus_is r1 r1 r4 Hr4.out (Hr1.out ▸ mulv_in y n) (Hr1.out ▸ mulv_in y n)  _).mono ?_); rintro e w2 ⟨rfl, hn⟩)))
  refine hK.out _ _ hn ?_
  replace hb := hb.trans (hn.mono hb.size)
  clear hK K
  clear hn
  refine wpFG_do rfl ?_
  intro w1 hg K hK
  replace hb := hb.trans (hg.mono hb.size)
  clear hg
  go_wp2_with ((go_at_call 109; (with_reducible refine (Div_v r3 r4 r5 r6 z7 Hr5.out Hr6.out Hz7.out (Hr3.out ▸ addv_in r2 r1) (Hr4.out ▸ addv_in r1 r1) _).mono ?_); rintro e w2 ⟨rfl, hn⟩))
  refine hK.out _ _ hn ?_
  replace hb := hb.trans (hn.mono hb.size)
  clear hK K
  clear hn
  iterate 2
    refine wpFG_take0 rfl rfl ?_
    go_big_quiet_step (rfl)
    refine wpQuiet_nil ?_
  iterate 2
    refine wpFG_take2 rfl rfl ?_
    go_big_quiet_step (rfl)
    refine wpQuiet_nil ?_
  refine wpFG_nil ?_
  clear hb
  intro w1 hg hb b1 b2 hne lb1 nb1 lb2 nb2
  clear hg
  simp only [Act.put, ptrTo, List.setIfInBounds_toArray, List.set_cons_succ, List.set_cons_zero]
  have m1 : Blk w1 b1 #[.int .u64 0, .int .u64 0, .int .u64 0, .int .u64 0] 35 := nb1
  have mc1_0 : w1.cell? ⟨b1, 0, none⟩ = some (.int .u64 0) := m1.cell 0
  have mf1_0 := m1.free 0
  have mc1_1 : w1.cell? ⟨b1, 1, none⟩ = some (.int .u64 0) := m1.cell 1
  have mf1_1 := m1.free 1
  have mc1_2 : w1.cell? ⟨b1, 2, none⟩ = some (.int .u64 0) := m1.cell 2
  have mf1_2 := m1.free 2
  have mc1_3 : w1.cell? ⟨b1, 3, none⟩ = some (.int .u64 0) := m1.cell 3
  have mf1_3 := m1.free 3
  have m2 : Blk w1 b2 #[.int .u64 0, .int .u64 0, .int .u64 0, .int .u64 0] 35 := nb2
  have mc2_0 : w1.cell? ⟨b2, 0, none⟩ = some (.int .u64 0) := m2.cell 0
  have mf2_0 := m2.free 0
  have mc2_1 : w1.cell? ⟨b2, 1, none⟩ = some (.int .u64 0) := m2.cell 1
  have mf2_1 := m2.free 1
  have mc2_2 : w1.cell? ⟨b2, 2, none⟩ = some (.int .u64 0) := m2.cell 2
  have mf2_2 := m2.free 2
  have mc2_3 : w1.cell? ⟨b2, 3, none⟩ = some (.int .u64 0) := m2.cell 3
  have mf2_3 := m2.free 3
  refine wpG_do3 rfl ?_
  intro K hK
  go_wp2_with (fail)
  refine hK.out _ _ ?_
  clear hK K
  refine wpG_do3 rfl ?_
  intro K hK
  go_wp2_with (fail)
  refine hK.out _ _ ?_
  clear hK K
  refine wpG_take2 rfl rfl ?_
  go_big_quiet_step (rfl)
  refine wpQuiet_nil ?_
  refine wpG_nil ?_
  refine list_world ?_
  intro U4 hU4
  clear c1_0 c1_1 c1_2 c1_3 l1 c3_0 c3_1 c3_2 c3_3 l3
  have D8 := Lib.hid Kk1.out.lt
  have D9 := Lib.hid Kk3.out.lt
  have D10 := Lib.hid hb0.size
  have D11 := Lib.hid lb1
  have D12 := Lib.hid lb2
  have D13 := Lib.hid (show b1 ≠ b2 from hne)
  have k1 : Blk U4 w.heap.size #[.int .u64 (wd0 x), .int .u64 (wd1 x), .int .u64 (wd2 x), .int .u64 (wd3 x)] 35 := by rw [hU4]; exact (blk_setL (blk_setL (Kk1.out.of hb) (by have := D8.out; have := D11.out; omega) 0 [.int .u64 (wd0 r5), .int .u64 (wd1 r5), .int .u64 (wd2 r5), .int .u64 (wd3 r5)]) (by have := D8.out; have := D12.out; omega) 0 [.int .u64 (wd0 r6), .int .u64 (wd1 r6), .int .u64 (wd2 r6), .int .u64 (wd3 r6)])
  have k3 : Blk U4 q3 #[.int .u64 (wd0 r1), .int .u64 (wd1 r1), .int .u64 (wd2 r1), .int .u64 (wd3 r1)] 35 := by rw [hU4]; exact (blk_setL (blk_setL (Kk3.out.of hb) (by have := D9.out; have := D11.out; omega) 0 [.int .u64 (wd0 r5), .int .u64 (wd1 r5), .int .u64 (wd2 r5), .int .u64 (wd3 r5)]) (by have := D9.out; have := D12.out; omega) 0 [.int .u64 (wd0 r6), .int .u64 (wd1 r6), .int .u64 (wd2 r6), .int .u64 (wd3 r6)])
  have k4 : Blk U4 b1 #[.int .u64 (wd0 r5), .int .u64 (wd1 r5), .int .u64 (wd2 r5), .int .u64 (wd3 r5)] 35 := by rw [hU4]; exact (blk_setL (blk_full _ [.int .u64 (wd0 r5), .int .u64 (wd1 r5), .int .u64 (wd2 r5), .int .u64 (wd3 r5)] m1 rfl) (by have := D13.out; omega) 0 [.int .u64 (wd0 r6), .int .u64 (wd1 r6), .int .u64 (wd2 r6), .int .u64 (wd3 r6)])
  have k5 : Blk U4 b2 #[.int .u64 (wd0 r6), .int .u64 (wd1 r6), .int .u64 (wd2 r6), .int .u64 (wd3 r6)] 35 := by rw [hU4]; exact (blk_full _ [.int .u64 (wd0 r6), .int .u64 (wd1 r6), .int .u64 (wd2 r6), .int .u64 (wd3 r6)] (blk_setL m2 (by have := D13.out; omega) 0 [.int .u64 (wd0 r5), .int .u64 (wd1 r5), .int .u64 (wd2 r5), .int .u64 (wd3 r5)]) rfl)
  replace hb0 : Below w.heap.size w U4 := by rw [hU4]; exact (blw_setL (blw_setL (hb0.trans (hb.mono hb0.size)) (by have := D10.out; have := D11.out; omega) 0 [.int .u64 (wd0 r5), .int .u64 (wd1 r5), .int .u64 (wd2 r5), .int .u64 (wd3 r5)]) (by have := D10.out; have := D12.out; omega) 0 [.int .u64 (wd0 r6), .int .u64 (wd1 r6), .int .u64 (wd2 r6), .int .u64 (wd3 r6)])
  clear hU4 hb Kk1 Kk3 m1 nb1 lb1 mc1_0 mf1_0 mc1_1 mf1_1 mc1_2 mf1_2 mc1_3 mf1_3 m2 nb2 lb2 mc2_0 mf2_0 mc2_1 mf2_1 mc2_2 mf2_2 mc2_3 mf2_3 hne
  generalize b1 = q4 at *
  generalize b2 = q5 at *
  have c4_0 : U4.cell? ⟨q4, 0, none⟩ = some (.int .u64 (wd0 r5)) := k4.cell 0
  have c4_1 : U4.cell? ⟨q4, 1, none⟩ = some (.int .u64 (wd1 r5)) := k4.cell 1
  have c4_2 : U4.cell? ⟨q4, 2, none⟩ = some (.int .u64 (wd2 r5)) := k4.cell 2
  have c4_3 : U4.cell? ⟨q4, 3, none⟩ = some (.int .u64 (wd3 r5)) := k4.cell 3
  have l4 := k4.lt
  go_wp2_with fail
  clear c4_0 c4_1 c4_2 c4_3 l4
  obtain ⟨r8, hr8⟩ : ∃ o_o : Int, smk r5 = o_o := ⟨_, rfl⟩
  have Hr8 := Lib.hid hr8
  clear hr8
  obtain ⟨z9, hz9⟩ : ∃ o_o : Bool, decide (In64 r5) = o_o := ⟨_, rfl⟩
  have Hz9 := Lib.hid hz9
  clear hz9
  refine (Small_v r5 r8 z9 Hr8.out Hz9.out (Hr5.out ▸ dvq_in (Hr3.out ▸ addv_in r2 r1) (Hr4.out ▸ addv_in r1 r1)) _).mono ?_
  rintro e U5 ⟨rfl, hn⟩
  clear k1 k3 k4 k5
  replace hb0 := hb0.trans (hn.mono hb0.size)
  clear hn
  have e0 : r8 = R0 := by rw [← HR0.out]; unfold pxc; (try rw [Hr1.out]); (try rw [Hr2.out]); (try rw [Hr3.out]); (try rw [Hr4.out]); (try rw [Hr5.out]); (try rw [Hr6.out]); (try rw [Hz7.out]); (try rw [Hr8.out]); (try rw [Hz9.out]); all_goals first | rfl | simp
  subst e0
  go_wp2
  first | go_ret | go_ret2
  exact ⟨by first | rfl | simp, hb0⟩

def pxOx (x : Int) (y : Int) (v : Int) (n : Int) : Int := (bif (pxS n) then (bif (spR x y v) then (pxc x v n) else 0) else 0)

def pxOy (x : Int) (y : Int) (v : Int) (n : Int) : Int := (bif (pxS n) then (bif (spR x y v) then (pxc y v n) else 0) else 0)

def pxOe (x : Int) (y : Int) (v : Int) (n : Int) : Int := (bif (pxS n) then (bif (spR x y v) then 0 else 11) else 11)

set_option maxRecDepth 100000 in
set_option maxHeartbeats 4000000 in

theorem pxOf_is (x : Int) (y : Int) (v : Int) (n : Int)  (R0 : Int) (R1 : Int) (R2 : Int) (hR0 : pxOx x y v n = R0) (hR1 : pxOy x y v n = R1) (hR2 : pxOe x y v n = R2) (_ix : InI x) (_iy : InI y) (_iv : InI v) (_in : In64 n)  (w : World)  :
    Calls Try.prog 39 #[.agg #[.int .u64 (wd0 x), .int .u64 (wd1 x), .int .u64 (wd2 x), .int .u64 (wd3 x), .int .u64 (wd0 y), .int .u64 (wd1 y), .int .u64 (wd2 y), .int .u64 (wd3 y), .int .u64 (wd0 v), .int .u64 (wd1 v), .int .u64 (wd2 v), .int .u64 (wd3 v)], .int .i64 n] w fun e w' => e = .returned (.tuple #[.agg #[.int .i64 R0, .int .i64 R1], .int .i64 R2]) ∧ Below w.heap.size w w' := by

  have HR0 := Lib.hid hR0
  clear hR0
  have HR1 := Lib.hid hR1
  clear hR1
  have HR2 := Lib.hid hR2
  clear hR2
  go_enter Try.func39, Try.ntmps39
  go_wp2_with fail
  first | refine calls_w ?_ | refine name_world ?_ | refine list_world ?_ | refine post_world ?_
  intro V1 hV1
  have hn : Below w.heap.size w V1 := by rw [hV1]; exact below_a2 _ _ _
  have nhb0 := hn
  have k1 : Blk V1 w.heap.size #[.int .u64 (wd0 x), .int .u64 (wd1 x), .int .u64 (wd2 x), .int .u64 (wd3 x), .int .u64 (wd0 y), .int .u64 (wd1 y), .int .u64 (wd2 y), .int .u64 (wd3 y), .int .u64 (wd0 v), .int .u64 (wd1 v), .int .u64 (wd2 v), .int .u64 (wd3 v)] 67 := by rw [hV1]; exact ((Blk.new _ _ _).alloc _)
  have k2 : Blk V1 (w.heap.size + 1) #[.int .i64 0, .int .i64 0] 24 := by rw [hV1]; exact (Blk.new1 _ _ _ _)
  clear hV1
  have hb0 := nhb0
  clear nhb0
  obtain ⟨z1, hz1⟩ : ∃ o_o : Bool, pxS n = o_o := ⟨_, rfl⟩
  have Hz1 := Lib.hid hz1
  clear hz1
  refine (pxSize_is n z1 Hz1.out _in  _).mono ?_
  rintro e U2 ⟨rfl, hn⟩
  replace k1 := k1.of hn
  replace k2 := k2.of hn
  replace hb0 := hb0.trans (hn.mono hb0.size)
  clear hn
  cases z1
  · have c2_0 : U2.cell? ⟨(w.heap.size + 1), 0, none⟩ = some (.int .i64 0) := k2.cell 0
    have c2_1 : U2.cell? ⟨(w.heap.size + 1), 1, none⟩ = some (.int .i64 0) := k2.cell 1
    have f2_0 := k2.free 0
    have f2_1 := k2.free 1
    have l2 := k2.lt
    have e0 : 0 = R0 := by rw [← HR0.out]; unfold pxOx; (try rw [Hz1.out]); all_goals first | rfl | simp
    have e1 : 0 = R1 := by rw [← HR1.out]; unfold pxOy; (try rw [Hz1.out]); all_goals first | rfl | simp
    have e2 : 11 = R2 := by rw [← HR2.out]; unfold pxOe; (try rw [Hz1.out]); all_goals first | rfl | simp
    subst e0
    subst e1
    subst e2
    go_wp2
    clear c2_0 c2_1 f2_0 f2_1 l2
    first | refine post_world ?_
    intro V3 hV3
    have D1 := Lib.hid k1.lt
    have D2 := Lib.hid k2.lt
    have D3 := Lib.hid hb0.size
    clear k1
    have nk2 : Blk V3 (w.heap.size + 1) #[.int .i64 0, .int .i64 0] 24 := by rw [hV3]; exact (blk_full _ [.int .i64 0, .int .i64 0] k2 rfl)
    have nhb0 : Below w.heap.size w V3 := by rw [hV3]; exact (blw_setL hb0 (by omega) 0 [.int .i64 0, .int .i64 0])
    clear k2
    clear hb0
    clear hV3
    have k2 := nk2
    clear nk2
    have hb0 := nhb0
    clear nhb0
    have g2_0 : V3.cell? ⟨(w.heap.size + 1), 0, none⟩ = some (.int .i64 0) := k2.cell 0
    have g2_1 : V3.cell? ⟨(w.heap.size + 1), 1, none⟩ = some (.int .i64 0) := k2.cell 1
    clear k2
    simp [bodyPost, results, Try.results39, go_sem, g2_0, g2_1]
    first | exact hb0 | exact ⟨rfl, hb0⟩
  · have c1_0 : U2.cell? ⟨w.heap.size, 0, none⟩ = some (.int .u64 (wd0 x)) := k1.cell 0
    have c1_1 : U2.cell? ⟨w.heap.size, 1, none⟩ = some (.int .u64 (wd1 x)) := k1.cell 1
    have c1_2 : U2.cell? ⟨w.heap.size, 2, none⟩ = some (.int .u64 (wd2 x)) := k1.cell 2
    have c1_3 : U2.cell? ⟨w.heap.size, 3, none⟩ = some (.int .u64 (wd3 x)) := k1.cell 3
    have c1_4 : U2.cell? ⟨w.heap.size, 4, none⟩ = some (.int .u64 (wd0 y)) := k1.cell 4
    have c1_5 : U2.cell? ⟨w.heap.size, 5, none⟩ = some (.int .u64 (wd1 y)) := k1.cell 5
    have c1_6 : U2.cell? ⟨w.heap.size, 6, none⟩ = some (.int .u64 (wd2 y)) := k1.cell 6
    have c1_7 : U2.cell? ⟨w.heap.size, 7, none⟩ = some (.int .u64 (wd3 y)) := k1.cell 7
    have c1_8 : U2.cell? ⟨w.heap.size, 8, none⟩ = some (.int .u64 (wd0 v)) := k1.cell 8
    have c1_9 : U2.cell? ⟨w.heap.size, 9, none⟩ = some (.int .u64 (wd1 v)) := k1.cell 9
    have c1_10 : U2.cell? ⟨w.heap.size, 10, none⟩ = some (.int .u64 (wd2 v)) := k1.cell 10
    have c1_11 : U2.cell? ⟨w.heap.size, 11, none⟩ = some (.int .u64 (wd3 v)) := k1.cell 11
    have l1 := k1.lt
    go_wp2_with fail
    clear c1_0 c1_1 c1_2 c1_3 c1_4 c1_5 c1_6 c1_7 c1_8 c1_9 c1_10 c1_11 l1
    obtain ⟨z2, hz2⟩ : ∃ o_o : Bool, spR x y v = o_o := ⟨_, rfl⟩
    have Hz2 := Lib.hid hz2
    clear hz2
    refine (SpRight_is x y v z2 Hz2.out _ix _iy _iv  _).mono ?_
    rintro e U4 ⟨rfl, hn⟩
    replace k1 := k1.of hn
    replace k2 := k2.of hn
    replace hb0 := hb0.trans (hn.mono hb0.size)
    clear hn
    cases z2
    · have c2_0 : U4.cell? ⟨(w.heap.size + 1), 0, none⟩ = some (.int .i64 0) := k2.cell 0
      have c2_1 : U4.cell? ⟨(w.heap.size + 1), 1, none⟩ = some (.int .i64 0) := k2.cell 1
      have f2_0 := k2.free 0
      have f2_1 := k2.free 1
      have l2 := k2.lt
      have e0 : 0 = R0 := by rw [← HR0.out]; unfold pxOx; (try rw [Hz1.out]); (try rw [Hz2.out]); all_goals first | rfl | simp
      have e1 : 0 = R1 := by rw [← HR1.out]; unfold pxOy; (try rw [Hz1.out]); (try rw [Hz2.out]); all_goals first | rfl | simp
      have e2 : 11 = R2 := by rw [← HR2.out]; unfold pxOe; (try rw [Hz1.out]); (try rw [Hz2.out]); all_goals first | rfl | simp
      subst e0
      subst e1
      subst e2
      go_wp2
      clear c2_0 c2_1 f2_0 f2_1 l2
      first | refine post_world ?_
      intro V5 hV5
      have D4 := Lib.hid k1.lt
      have D5 := Lib.hid k2.lt
      have D6 := Lib.hid hb0.size
      clear k1
      have nk2 : Blk V5 (w.heap.size + 1) #[.int .i64 0, .int .i64 0] 24 := by rw [hV5]; exact (blk_full _ [.int .i64 0, .int .i64 0] k2 rfl)
      have nhb0 : Below w.heap.size w V5 := by rw [hV5]; exact (blw_setL hb0 (by omega) 0 [.int .i64 0, .int .i64 0])
      clear k2
      clear hb0
      clear hV5
      have k2 := nk2
      clear nk2
      have hb0 := nhb0
      clear nhb0
      have g2_0 : V5.cell? ⟨(w.heap.size + 1), 0, none⟩ = some (.int .i64 0) := k2.cell 0
      have g2_1 : V5.cell? ⟨(w.heap.size + 1), 1, none⟩ = some (.int .i64 0) := k2.cell 1
      clear k2
      simp [bodyPost, results, Try.results39, go_sem, g2_0, g2_1]
      first | exact hb0 | exact ⟨rfl, hb0⟩
    · go_wp2_with fail
      obtain ⟨r3, hr3⟩ : ∃ o_o : Int, pxc x v n = o_o := ⟨_, rfl⟩
      have Hr3 := Lib.hid hr3
      clear hr3
      have c1_0 : U4.cell? ⟨w.heap.size, 0, none⟩ = some (.int .u64 (wd0 x)) := k1.cell 0
      have c1_1 : U4.cell? ⟨w.heap.size, 1, none⟩ = some (.int .u64 (wd1 x)) := k1.cell 1
      have c1_2 : U4.cell? ⟨w.heap.size, 2, none⟩ = some (.int .u64 (wd2 x)) := k1.cell 2
      have c1_3 : U4.cell? ⟨w.heap.size, 3, none⟩ = some (.int .u64 (wd3 x)) := k1.cell 3
      have c1_4 : U4.cell? ⟨w.heap.size, 4, none⟩ = some (.int .u64 (wd0 y)) := k1.cell 4
      have c1_5 : U4.cell? ⟨w.heap.size, 5, none⟩ = some (.int .u64 (wd1 y)) := k1.cell 5
      have c1_6 : U4.cell? ⟨w.heap.size, 6, none⟩ = some (.int .u64 (wd2 y)) := k1.cell 6
      have c1_7 : U4.cell? ⟨w.heap.size, 7, none⟩ = some (.int .u64 (wd3 y)) := k1.cell 7
      have c1_8 : U4.cell? ⟨w.heap.size, 8, none⟩ = some (.int .u64 (wd0 v)) := k1.cell 8
      have c1_9 : U4.cell? ⟨w.heap.size, 9, none⟩ = some (.int .u64 (wd1 v)) := k1.cell 9
      have c1_10 : U4.cell? ⟨w.heap.size, 10, none⟩ = some (.int .u64 (wd2 v)) := k1.cell 10
      have c1_11 : U4.cell? ⟨w.heap.size, 11, none⟩ = some (.int .u64 (wd3 v)) := k1.cell 11
      have l1 := k1.lt
      have Kk1 := Lib.hid k1
      clear k1
      have Kk2 := Lib.hid k2
      clear k2
      refine wp_region_up U4.heap.size 11 [(true, 0), (true, 1), (true, 2), (true, 3), (true, 4), (true, 6), (true, 7), (true, 8), (true, 9), (true, 10), (false, 5)] (by kernel_rfl) (by kernel_rfl) (fun _ _ d _ _ h => by cases d <;> exact h) ?_
      have hb : Below U4.heap.size U4 U4.drew := (Below.refl _ _).drew
      iterate 10
        refine wpS_takeL rfl rfl ?_
        go_big_quiet_step (rfl)
        refine wpQuiet_nil ?_
      refine wpS_doL rfl ?_
      intro K hK
      go_wp2_with ((go_at_call 98; (with_reducible refine (pxcell_is x v n r3 Hr3.out _ix _iv _in  _).mono ?_); rintro e w2 ⟨rfl, hn⟩))
      replace hb := hb.trans (hn.mono hb.size)
      refine hK.out _ _ (up_iff.2 hb) ?_
      clear hK K
      clear hn
      refine wpS_nil ?_
      simp only [List.drop_succ_cons, List.drop_zero]
      first | refine calls_w ?_ | refine name_world ?_ | refine list_world ?_ | refine post_world ?_
      intro U6 hU6
      first | (subst hU6; have u_ := U6; clear u_) | (rw [← hU6] at hb; clear hU6)
      clear c1_0 c1_1 c1_2 c1_3 c1_4 c1_5 c1_6 c1_7 c1_8 c1_9 c1_10 c1_11 l1
      have k1 := Kk1.out.of hb
      clear Kk1
      have k2 := Kk2.out.of hb
      clear Kk2
      replace hb0 := hb0.trans (hb.mono hb0.size)
      clear hb
      go_wp2_with fail
      obtain ⟨r4, hr4⟩ : ∃ o_o : Int, pxc y v n = o_o := ⟨_, rfl⟩
      have Hr4 := Lib.hid hr4
      clear hr4
      refine (pxcell_is y v n r4 Hr4.out _iy _iv _in  _).mono ?_
      rintro e U7 ⟨rfl, hn⟩
      clear k1
      replace k2 := k2.of hn
      replace hb0 := hb0.trans (hn.mono hb0.size)
      clear hn
      have c2_0 : U7.cell? ⟨(w.heap.size + 1), 0, none⟩ = some (.int .i64 0) := k2.cell 0
      have c2_1 : U7.cell? ⟨(w.heap.size + 1), 1, none⟩ = some (.int .i64 0) := k2.cell 1
      have f2_0 := k2.free 0
      have f2_1 := k2.free 1
      have l2 := k2.lt
      have e0 : r3 = R0 := by rw [← HR0.out]; unfold pxOx; (try rw [Hz1.out]); (try rw [Hz2.out]); (try rw [Hr3.out]); (try rw [Hr4.out]); all_goals first | rfl | simp
      have e1 : r4 = R1 := by rw [← HR1.out]; unfold pxOy; (try rw [Hz1.out]); (try rw [Hz2.out]); (try rw [Hr3.out]); (try rw [Hr4.out]); all_goals first | rfl | simp
      have e2 : 0 = R2 := by rw [← HR2.out]; unfold pxOe; (try rw [Hz1.out]); (try rw [Hz2.out]); (try rw [Hr3.out]); (try rw [Hr4.out]); all_goals first | rfl | simp
      subst e0
      subst e1
      subst e2
      go_wp2
      clear c2_0 c2_1 f2_0 f2_1 l2
      first | refine post_world ?_
      intro V8 hV8
      have D7 := Lib.hid k2.lt
      have D8 := Lib.hid hb0.size
      have nk2 : Blk V8 (w.heap.size + 1) #[.int .i64 r3, .int .i64 r4] 24 := by rw [hV8]; exact (blk_full _ [.int .i64 r3, .int .i64 r4] k2 rfl)
      have nhb0 : Below w.heap.size w V8 := by rw [hV8]; exact (blw_setL hb0 (by omega) 0 [.int .i64 r3, .int .i64 r4])
      clear k2
      clear hb0
      clear hV8
      have k2 := nk2
      clear nk2
      have hb0 := nhb0
      clear nhb0
      have g2_0 : V8.cell? ⟨(w.heap.size + 1), 0, none⟩ = some (.int .i64 r3) := k2.cell 0
      have g2_1 : V8.cell? ⟨(w.heap.size + 1), 1, none⟩ = some (.int .i64 r4) := k2.cell 1
      clear k2
      simp [bodyPost, results, Try.results39, go_sem, g2_0, g2_1]
      first | exact hb0 | exact ⟨rfl, hb0⟩

def pxbn (n : Int) (_m : Int) : Int := n

def pxbd (_n : Int) (m : Int) : Int := m

theorem pxbn_in (n : Int) (m : Int) (_in : In64 n) (_im : In64 m) : InI (pxbn n m) := by
  unfold pxbn
  exact (in64_I' _in)

theorem pxbd_in (n : Int) (m : Int) (_in : In64 n) (_im : In64 m) : InI (pxbd n m) := by
  unfold pxbd
  exact (in64_I' _im)

set_option maxRecDepth 100000 in
set_option maxHeartbeats 4000000 in

theorem pxbd_is (n : Int) (m : Int)  (R0 : Int) (R1 : Int) (hR0 : pxbn n m = R0) (hR1 : pxbd n m = R1) (_in : In64 n) (_im : In64 m)  (w : World)  :
    Calls Try.prog 126 #[.int .i64 n, .int .i64 m] w fun e w' => e = .returned (.agg #[.int .u64 (wd0 R0), .int .u64 (wd1 R0), .int .u64 (wd2 R0), .int .u64 (wd3 R0), .int .u64 (wd0 R1), .int .u64 (wd1 R1), .int .u64 (wd2 R1), .int .u64 (wd3 R1)]) ∧ Below w.heap.size w w' := by

  have HR0 := Lib.hid hR0
  clear hR0
  have HR1 := Lib.hid hR1
  clear hR1
  go_enter Try.func126, Try.ntmps126
  go_wp2_with fail
  first | refine calls_w ?_ | refine name_world ?_ | refine list_world ?_ | refine post_world ?_
  intro V1 hV1
  have hn : Below w.heap.size w V1 := by rw [hV1]; exact below_a1 _ _
  have nhb0 := hn
  have k1 : Blk V1 w.heap.size #[.int .u64 0, .int .u64 0, .int .u64 0, .int .u64 0, .int .u64 0, .int .u64 0, .int .u64 0, .int .u64 0] 52 := by rw [hV1]; exact (Blk.new _ _ _)
  clear hV1
  have hb0 := nhb0
  clear nhb0
  refine (Of_v n n rfl _in _).mono ?_
  rintro e U2 ⟨rfl, hn⟩
  replace k1 := k1.of hn
  replace hb0 := hb0.trans (hn.mono hb0.size)
  clear hn
  go_wp2_with fail
  refine (Of_v m m rfl _im _).mono ?_
  rintro e U3 ⟨rfl, hn⟩
  replace k1 := k1.of hn
  replace hb0 := hb0.trans (hn.mono hb0.size)
  clear hn
  have c1_0 : U3.cell? ⟨w.heap.size, 0, none⟩ = some (.int .u64 0) := k1.cell 0
  have c1_1 : U3.cell? ⟨w.heap.size, 1, none⟩ = some (.int .u64 0) := k1.cell 1
  have c1_2 : U3.cell? ⟨w.heap.size, 2, none⟩ = some (.int .u64 0) := k1.cell 2
  have c1_3 : U3.cell? ⟨w.heap.size, 3, none⟩ = some (.int .u64 0) := k1.cell 3
  have c1_4 : U3.cell? ⟨w.heap.size, 4, none⟩ = some (.int .u64 0) := k1.cell 4
  have c1_5 : U3.cell? ⟨w.heap.size, 5, none⟩ = some (.int .u64 0) := k1.cell 5
  have c1_6 : U3.cell? ⟨w.heap.size, 6, none⟩ = some (.int .u64 0) := k1.cell 6
  have c1_7 : U3.cell? ⟨w.heap.size, 7, none⟩ = some (.int .u64 0) := k1.cell 7
  have f1_0 := k1.free 0
  have f1_1 := k1.free 1
  have f1_2 := k1.free 2
  have f1_3 := k1.free 3
  have f1_4 := k1.free 4
  have f1_5 := k1.free 5
  have f1_6 := k1.free 6
  have f1_7 := k1.free 7
  have l1 := k1.lt
  have e0 : n = R0 := by rw [← HR0.out]; unfold pxbn; all_goals first | rfl | simp
  have e1 : m = R1 := by rw [← HR1.out]; unfold pxbd; all_goals first | rfl | simp
  subst e0
  subst e1
  go_wp2
  clear c1_0 c1_1 c1_2 c1_3 c1_4 c1_5 c1_6 c1_7 f1_0 f1_1 f1_2 f1_3 f1_4 f1_5 f1_6 f1_7 l1
  first | refine post_world ?_
  intro V4 hV4
  have D1 := Lib.hid k1.lt
  have D2 := Lib.hid hb0.size
  have nk1 : Blk V4 w.heap.size #[.int .u64 (wd0 n), .int .u64 (wd1 n), .int .u64 (wd2 n), .int .u64 (wd3 n), .int .u64 (wd0 m), .int .u64 (wd1 m), .int .u64 (wd2 m), .int .u64 (wd3 m)] 52 := by rw [hV4]; exact (blk_full _ [.int .u64 (wd0 n), .int .u64 (wd1 n), .int .u64 (wd2 n), .int .u64 (wd3 n), .int .u64 (wd0 m), .int .u64 (wd1 m), .int .u64 (wd2 m), .int .u64 (wd3 m)] k1 rfl)
  have nhb0 : Below w.heap.size w V4 := by rw [hV4]; exact (blw_setL hb0 (by omega) 0 [.int .u64 (wd0 n), .int .u64 (wd1 n), .int .u64 (wd2 n), .int .u64 (wd3 n), .int .u64 (wd0 m), .int .u64 (wd1 m), .int .u64 (wd2 m), .int .u64 (wd3 m)])
  clear k1
  clear hb0
  clear hV4
  have k1 := nk1
  clear nk1
  have hb0 := nhb0
  clear nhb0
  have g1_0 : V4.cell? ⟨w.heap.size, 0, none⟩ = some (.int .u64 (wd0 n)) := k1.cell 0
  have g1_1 : V4.cell? ⟨w.heap.size, 1, none⟩ = some (.int .u64 (wd1 n)) := k1.cell 1
  have g1_2 : V4.cell? ⟨w.heap.size, 2, none⟩ = some (.int .u64 (wd2 n)) := k1.cell 2
  have g1_3 : V4.cell? ⟨w.heap.size, 3, none⟩ = some (.int .u64 (wd3 n)) := k1.cell 3
  have g1_4 : V4.cell? ⟨w.heap.size, 4, none⟩ = some (.int .u64 (wd0 m)) := k1.cell 4
  have g1_5 : V4.cell? ⟨w.heap.size, 5, none⟩ = some (.int .u64 (wd1 m)) := k1.cell 5
  have g1_6 : V4.cell? ⟨w.heap.size, 6, none⟩ = some (.int .u64 (wd2 m)) := k1.cell 6
  have g1_7 : V4.cell? ⟨w.heap.size, 7, none⟩ = some (.int .u64 (wd3 m)) := k1.cell 7
  clear k1
  simp [bodyPost, results, Try.results126, go_sem, g1_0, g1_1, g1_2, g1_3, g1_4, g1_5, g1_6, g1_7]
  first | exact hb0 | exact ⟨rfl, hb0⟩

def pxl (x : Int) (y : Int) (x2 : Int) (y2 : Int) : Int := (rtC x y x2 y2)

set_option maxRecDepth 100000 in
set_option maxHeartbeats 4000000 in

theorem pxls_is (x : Int) (y : Int) (x2 : Int) (y2 : Int)  (R0 : Int) (hR0 : pxl x y x2 y2 = R0) (_ix : InI x) (_iy : InI y) (_ix2 : InI x2) (_iy2 : InI y2)  (w : World)  :
    Calls Try.prog 128 #[.agg #[.int .u64 (wd0 x), .int .u64 (wd1 x), .int .u64 (wd2 x), .int .u64 (wd3 x), .int .u64 (wd0 y), .int .u64 (wd1 y), .int .u64 (wd2 y), .int .u64 (wd3 y)], .agg #[.int .u64 (wd0 x2), .int .u64 (wd1 x2), .int .u64 (wd2 x2), .int .u64 (wd3 x2), .int .u64 (wd0 y2), .int .u64 (wd1 y2), .int .u64 (wd2 y2), .int .u64 (wd3 y2)]] w fun e w' => e = .returned (.int .i64 R0) ∧ Below w.heap.size w w' := by

  have HR0 := Lib.hid hR0
  clear hR0
  go_enter Try.func128, Try.ntmps128
  go_wp2_with fail
  first | refine calls_w ?_ | refine name_world ?_ | refine list_world ?_ | refine post_world ?_
  intro V1 hV1
  have hn : Below w.heap.size w V1 := by rw [hV1]; exact below_a2 _ _ _
  have nhb0 := hn
  have k1 : Blk V1 w.heap.size #[.int .u64 (wd0 x), .int .u64 (wd1 x), .int .u64 (wd2 x), .int .u64 (wd3 x), .int .u64 (wd0 y), .int .u64 (wd1 y), .int .u64 (wd2 y), .int .u64 (wd3 y)] 52 := by rw [hV1]; exact ((Blk.new _ _ _).alloc _)
  have k2 : Blk V1 (w.heap.size + 1) #[.int .u64 (wd0 x2), .int .u64 (wd1 x2), .int .u64 (wd2 x2), .int .u64 (wd3 x2), .int .u64 (wd0 y2), .int .u64 (wd1 y2), .int .u64 (wd2 y2), .int .u64 (wd3 y2)] 52 := by rw [hV1]; exact (Blk.new1 _ _ _ _)
  clear hV1
  have hb0 := nhb0
  clear nhb0
  obtain ⟨r1, hr1⟩ : ∃ o_o : Int, rtC x y x2 y2 = o_o := ⟨_, rfl⟩
  have Hr1 := Lib.hid hr1
  clear hr1
  obtain ⟨z2, hz2⟩ : ∃ o_o : Bool, rtCk x y x2 y2 = o_o := ⟨_, rfl⟩
  have Hz2 := Lib.hid hz2
  clear hz2
  refine (rtC_v x y x2 y2 r1 z2 Hr1.out Hz2.out _ix _iy _ix2 _iy2 _).mono ?_
  rintro e U2 ⟨rfl, hn⟩
  clear k1 k2
  replace hb0 := hb0.trans (hn.mono hb0.size)
  clear hn
  have e0 : r1 = R0 := by rw [← HR0.out]; unfold pxl; (try rw [Hr1.out]); (try rw [Hz2.out]); all_goals first | rfl | simp
  subst e0
  go_wp2
  first | go_ret | go_ret2
  exact ⟨by first | rfl | simp, hb0⟩
end Go.Proofs.Ytlcbomjdbdgbmaa

namespace Go.Proofs.Ytlcbomjdbdgbmaa
open Go.RowKit

def rrC (X : Int) (Y : Int) (X2 : Int) (Y2 : Int) : Int := (cmpI (X * Y2) (X2 * Y))

set_option maxRecDepth 100000 in
set_option maxHeartbeats 4000000 in

theorem rrC_is (X : Int) (Y : Int) (X2 : Int) (Y2 : Int)  (R0 : Int) (hR0 : rrC X Y X2 Y2 = R0)  (nX : Bool) (aX : Option Addr) (lX cX : Nat) (nY : Bool) (aY : Option Addr) (lY cY : Nat) (nX2 : Bool) (aX2 : Option Addr) (lX2 cX2 : Nat) (nY2 : Bool) (aY2 : Option Addr) (lY2 cY2 : Nat) (w : World) (hX : Big w (.agg #[.bool nX, .slice aX lX cX]) X 18) (hY : Big w (.agg #[.bool nY, .slice aY lY cY]) Y 18) (hX2 : Big w (.agg #[.bool nX2, .slice aX2 lX2 cX2]) X2 18) (hY2 : Big w (.agg #[.bool nY2, .slice aY2 lY2 cY2]) Y2 18) :
    Calls Try.prog 37 #[.agg #[.bool nX, .slice aX lX cX, .bool nY, .slice aY lY cY], .agg #[.bool nX2, .slice aX2 lX2 cX2, .bool nY2, .slice aY2 lY2 cY2]] w fun e w' => e = .returned (.int .i64 R0) ∧ Below w.heap.size w w' := by

  have HX := Lib.hid hX
  clear hX
  have HY := Lib.hid hY
  clear hY
  have HX2 := Lib.hid hX2
  clear hX2
  have HY2 := Lib.hid hY2
  clear hY2
  have HR0 := Lib.hid hR0
  clear hR0
  go_enter Try.func37, Try.ntmps37
  go_wp2_with fail
  first | refine calls_w ?_ | refine name_world ?_ | refine list_world ?_ | refine post_world ?_
  intro V1 hV1
  have hn : Below w.heap.size w V1 := by rw [hV1]; exact below_a2 _ _ _
  replace HX := Lib.hid (HX.out.of hn)
  replace HY := Lib.hid (HY.out.of hn)
  replace HX2 := Lib.hid (HX2.out.of hn)
  replace HY2 := Lib.hid (HY2.out.of hn)
  have nhb0 := hn
  have k1 : Blk V1 w.heap.size #[.bool nX, .slice aX lX cX, .bool nY, .slice aY lY cY] 60 := by rw [hV1]; exact ((Blk.new _ _ _).alloc _)
  have k2 : Blk V1 (w.heap.size + 1) #[.bool nX2, .slice aX2 lX2 cX2, .bool nY2, .slice aY2 lY2 cY2] 60 := by rw [hV1]; exact (Blk.new1 _ _ _ _)
  clear hV1
  have hb0 := nhb0
  clear nhb0
  obtain ⟨r1, hr1⟩ : ∃ o_o : Int, X * Y2 = o_o := ⟨_, rfl⟩
  have Hr1 := Lib.hid hr1
  clear hr1
  have c1_0 : V1.cell? ⟨w.heap.size, 0, none⟩ = some (.bool nX) := k1.cell 0
  have c1_1 : V1.cell? ⟨w.heap.size, 1, none⟩ = some (.slice aX lX cX) := k1.cell 1
  have c1_2 : V1.cell? ⟨w.heap.size, 2, none⟩ = some (.bool nY) := k1.cell 2
  have c1_3 : V1.cell? ⟨w.heap.size, 3, none⟩ = some (.slice aY lY cY) := k1.cell 3
  have l1 := k1.lt
  have c2_0 : V1.cell? ⟨(w.heap.size + 1), 0, none⟩ = some (.bool nX2) := k2.cell 0
  have c2_1 : V1.cell? ⟨(w.heap.size + 1), 1, none⟩ = some (.slice aX2 lX2 cX2) := k2.cell 1
  have c2_2 : V1.cell? ⟨(w.heap.size + 1), 2, none⟩ = some (.bool nY2) := k2.cell 2
  have c2_3 : V1.cell? ⟨(w.heap.size + 1), 3, none⟩ = some (.slice aY2 lY2 cY2) := k2.cell 3
  have l2 := k2.lt
  have Kk1 := Lib.hid k1
  clear k1
  have Kk2 := Lib.hid k2
  clear k2
  refine wp_region_up V1.heap.size 9 [(true, 0), (true, 1), (true, 2), (true, 3), (true, 5), (true, 6), (true, 7), (true, 8), (false, 4)] (by kernel_rfl) (by kernel_rfl) (fun _ _ d _ _ h => by cases d <;> exact h) ?_
  have hb : Below V1.heap.size V1 V1.drew := (Below.refl _ _).drew
  iterate 8
    refine wpS_takeL rfl rfl ?_
    go_big_quiet_step (rfl)
    refine wpQuiet_nil ?_
  refine wpS_doL rfl ?_
  intro K hK
  go_wp2_with ((go_at_call 65; (with_reducible refine (bigMul_v (.agg #[.bool nX, .slice aX lX cX]) (.agg #[.bool nY2, .slice aY2 lY2 cY2]) X Y2 r1 18 18 Hr1.out _ (HX.out.of hb) (HY2.out.of hb) (by decide)).mono ?_); rintro e w2 ⟨v_, rfl, hbm, hn⟩; have HB1 := Lib.hid hbm; have hvm := hbm.shape; clear hbm; obtain ⟨bn1, ba1, bl1, bc1, rfl⟩ := hvm))
  replace hb := hb.trans (hn.mono hb.size)
  refine hK.out _ _ (up_iff.2 hb) ?_
  clear hK K
  clear hn
  refine wpS_nil ?_
  simp only [List.drop_succ_cons, List.drop_zero]
  first | refine calls_w ?_ | refine name_world ?_ | refine list_world ?_ | refine post_world ?_
  intro U2 hU2
  first | (subst hU2; have u_ := U2; clear u_) | (rw [← hU2] at hb; clear hU2)
  clear c1_0 c1_1 c1_2 c1_3 l1 c2_0 c2_1 c2_2 c2_3 l2
  have k1 := Kk1.out.of hb
  clear Kk1
  have k2 := Kk2.out.of hb
  clear Kk2
  replace HX := Lib.hid (HX.out.of hb)
  replace HY := Lib.hid (HY.out.of hb)
  replace HX2 := Lib.hid (HX2.out.of hb)
  replace HY2 := Lib.hid (HY2.out.of hb)
  replace hb0 := hb0.trans (hb.mono hb0.size)
  clear hb
  go_wp2_with fail
  obtain ⟨r2, hr2⟩ : ∃ o_o : Int, X2 * Y = o_o := ⟨_, rfl⟩
  have Hr2 := Lib.hid hr2
  clear hr2
  refine (bigMul_v (.agg #[.bool nX2, .slice aX2 lX2 cX2]) (.agg #[.bool nY, .slice aY lY cY]) X2 Y r2 18 18 Hr2.out _ HX2.out HY.out (by decide)).mono ?_
  rintro e U3 ⟨v_, rfl, hbm, hn⟩
  clear HX HY HX2 HY2
  clear k1 k2
  replace HB1 := Lib.hid (HB1.out.of hn)
  replace hb0 := hb0.trans (hn.mono hb0.size)
  clear hn
  have HB2 := Lib.hid hbm
  have hvm := hbm.shape
  clear hbm
  obtain ⟨bn2, ba2, bl2, bc2, rfl⟩ := hvm
  go_wp2_with fail
  obtain ⟨r3, hr3⟩ : ∃ o_o : Int, cmpI r1 r2 = o_o := ⟨_, rfl⟩
  have Hr3 := Lib.hid hr3
  clear hr3
  refine (bigCmp_v (.agg #[.bool bn1, .slice ba1 bl1 bc1]) (.agg #[.bool bn2, .slice ba2 bl2 bc2]) r1 r2 36 36 r3 Hr3.out _ HB1.out HB2.out).mono ?_
  rintro e U4 ⟨rfl, hn⟩
  clear HB1 HB2
  replace hb0 := hb0.trans (hn.mono hb0.size)
  clear hn
  have e0 : r3 = R0 := by rw [← HR0.out]; unfold rrC; (try rw [Hr1.out]); (try rw [Hr2.out]); (try rw [Hr3.out]); all_goals first | rfl | simp
  subst e0
  go_wp2
  first | go_ret | go_ret2
  exact ⟨by first | rfl | simp, hb0⟩

def p15n (x : Int) (_y : Int) : Int := (x)

def p15d (_x : Int) (y : Int) : Int := (y)

def p15rat_is_post (w : World) (R0 : Int) (R1 : Int) (e : Ending) (w' : World) : Prop := ∃ (m0 : Bool) (p0 : Option Addr) (q0 t0 : Nat) (m1 : Bool) (p1 : Option Addr) (q1 t1 : Nat), e = .returned (.agg #[.bool m0, .slice p0 q0 t0, .bool m1, .slice p1 q1 t1]) ∧ Big w' (.agg #[.bool m0, .slice p0 q0 t0]) R0 18 ∧ Big w' (.agg #[.bool m1, .slice p1 q1 t1]) R1 18 ∧ Below w.heap.size w w'

set_option maxRecDepth 100000 in
set_option maxHeartbeats 4000000 in

theorem p15rat_is (x : Int) (y : Int)  (R0 : Int) (R1 : Int) (hR0 : p15n x y = R0) (hR1 : p15d x y = R1) (_ix : InI x) (_iy : InI y)  (w : World)  :
    Calls Try.prog 38 #[.agg #[.int .u64 (wd0 x), .int .u64 (wd1 x), .int .u64 (wd2 x), .int .u64 (wd3 x), .int .u64 (wd0 y), .int .u64 (wd1 y), .int .u64 (wd2 y), .int .u64 (wd3 y)]] w (p15rat_is_post w R0 R1) := by

  have HR0 := Lib.hid hR0
  clear hR0
  have HR1 := Lib.hid hR1
  clear hR1
  go_enter Try.func38, Try.ntmps38
  go_wp2_with fail
  first | refine calls_w ?_ | refine name_world ?_ | refine list_world ?_ | refine post_world ?_
  intro V1 hV1
  have hn : Below w.heap.size w V1 := by rw [hV1]; exact below_a2 _ _ _
  have nhb0 := hn
  have k1 : Blk V1 w.heap.size #[.int .u64 (wd0 x), .int .u64 (wd1 x), .int .u64 (wd2 x), .int .u64 (wd3 x), .int .u64 (wd0 y), .int .u64 (wd1 y), .int .u64 (wd2 y), .int .u64 (wd3 y)] 52 := by rw [hV1]; exact ((Blk.new _ _ _).alloc _)
  have k2 : Blk V1 (w.heap.size + 1) #[.bool false, .slice none 0 0, .bool false, .slice none 0 0] 60 := by rw [hV1]; exact (Blk.new1 _ _ _ _)
  clear hV1
  have hb0 := nhb0
  clear nhb0
  obtain ⟨r1, hr1⟩ : ∃ o_o : Int, x = o_o := ⟨_, rfl⟩
  have Hr1 := Lib.hid hr1
  clear hr1
  have c1_0 : V1.cell? ⟨w.heap.size, 0, none⟩ = some (.int .u64 (wd0 x)) := k1.cell 0
  have c1_1 : V1.cell? ⟨w.heap.size, 1, none⟩ = some (.int .u64 (wd1 x)) := k1.cell 1
  have c1_2 : V1.cell? ⟨w.heap.size, 2, none⟩ = some (.int .u64 (wd2 x)) := k1.cell 2
  have c1_3 : V1.cell? ⟨w.heap.size, 3, none⟩ = some (.int .u64 (wd3 x)) := k1.cell 3
  have c1_4 : V1.cell? ⟨w.heap.size, 4, none⟩ = some (.int .u64 (wd0 y)) := k1.cell 4
  have c1_5 : V1.cell? ⟨w.heap.size, 5, none⟩ = some (.int .u64 (wd1 y)) := k1.cell 5
  have c1_6 : V1.cell? ⟨w.heap.size, 6, none⟩ = some (.int .u64 (wd2 y)) := k1.cell 6
  have c1_7 : V1.cell? ⟨w.heap.size, 7, none⟩ = some (.int .u64 (wd3 y)) := k1.cell 7
  have l1 := k1.lt
  have Kk1 := Lib.hid k1
  clear k1
  have Kk2 := Lib.hid k2
  clear k2
  refine wp_region_up V1.heap.size 5 [(true, 0), (true, 1), (true, 3), (true, 4), (false, 2)] (by kernel_rfl) (by kernel_rfl) (fun _ _ d _ _ h => by cases d <;> exact h) ?_
  have hb : Below V1.heap.size V1 V1.drew := (Below.refl _ _).drew
  iterate 4
    refine wpS_takeL rfl rfl ?_
    go_big_quiet_step (rfl)
    refine wpQuiet_nil ?_
  refine wpS_doL rfl ?_
  intro K hK
  go_wp2_with ((go_at_call 24; (with_reducible refine (Read_v x r1 Hr1.out _ix _).mono ?_); rintro e w2 ⟨v_, rfl, hbm, hn⟩; have HB1 := Lib.hid hbm; have hvm := hbm.shape; clear hbm; obtain ⟨bn1, ba1, bl1, bc1, rfl⟩ := hvm))
  replace hb := hb.trans (hn.mono hb.size)
  refine hK.out _ _ (up_iff.2 hb) ?_
  clear hK K
  clear hn
  refine wpS_nil ?_
  simp only [List.drop_succ_cons, List.drop_zero]
  first | refine calls_w ?_ | refine name_world ?_ | refine list_world ?_ | refine post_world ?_
  intro U2 hU2
  first | (subst hU2; have u_ := U2; clear u_) | (rw [← hU2] at hb; clear hU2)
  clear c1_0 c1_1 c1_2 c1_3 c1_4 c1_5 c1_6 c1_7 l1
  have k1 := Kk1.out.of hb
  clear Kk1
  have k2 := Kk2.out.of hb
  clear Kk2
  replace hb0 := hb0.trans (hb.mono hb0.size)
  clear hb
  go_wp2_with fail
  obtain ⟨r2, hr2⟩ : ∃ o_o : Int, y = o_o := ⟨_, rfl⟩
  have Hr2 := Lib.hid hr2
  clear hr2
  refine (Read_v y r2 Hr2.out _iy _).mono ?_
  rintro e U3 ⟨v_, rfl, hbm, hn⟩
  clear k1
  replace k2 := k2.of hn
  replace HB1 := Lib.hid (HB1.out.of hn)
  replace hb0 := hb0.trans (hn.mono hb0.size)
  clear hn
  have HB2 := Lib.hid hbm
  have hvm := hbm.shape
  clear hbm
  obtain ⟨bn2, ba2, bl2, bc2, rfl⟩ := hvm
  have c2_0 : U3.cell? ⟨(w.heap.size + 1), 0, none⟩ = some (.bool false) := k2.cell 0
  have c2_1 : U3.cell? ⟨(w.heap.size + 1), 1, none⟩ = some (.slice none 0 0) := k2.cell 1
  have c2_2 : U3.cell? ⟨(w.heap.size + 1), 2, none⟩ = some (.bool false) := k2.cell 2
  have c2_3 : U3.cell? ⟨(w.heap.size + 1), 3, none⟩ = some (.slice none 0 0) := k2.cell 3
  have f2_0 := k2.free 0
  have f2_1 := k2.free 1
  have f2_2 := k2.free 2
  have f2_3 := k2.free 3
  have l2 := k2.lt
  have e0 : r1 = R0 := by rw [← HR0.out]; unfold p15n; (try rw [Hr1.out]); (try rw [Hr2.out]); all_goals first | rfl | simp
  have e1 : r2 = R1 := by rw [← HR1.out]; unfold p15d; (try rw [Hr1.out]); (try rw [Hr2.out]); all_goals first | rfl | simp
  subst e0
  subst e1
  go_wp2
  clear c2_0 c2_1 c2_2 c2_3 f2_0 f2_1 f2_2 f2_3 l2
  first | refine post_world ?_
  intro V4 hV4
  have D1 := Lib.hid k2.lt
  have D2 := Lib.hid hb0.size
  have nk2 : Blk V4 (w.heap.size + 1) #[.bool bn1, .slice ba1 bl1 bc1, .bool bn2, .slice ba2 bl2 bc2] 60 := by rw [hV4]; exact (blk_full _ [.bool bn1, .slice ba1 bl1 bc1, .bool bn2, .slice ba2 bl2 bc2] k2 rfl)
  have nhb0 : Below w.heap.size w V4 := by rw [hV4]; exact (blw_setL hb0 (by omega) 0 [.bool bn1, .slice ba1 bl1 bc1, .bool bn2, .slice ba2 bl2 bc2])
  replace HB1 : Hid (Big V4 (.agg #[.bool bn1, .slice ba1 bl1 bc1]) r1 18) := Lib.hid (by rw [hV4]; exact (big_setL HB1.out (Blk.cell k2 0) (fun _ h => by cases h) 0 [.bool bn1, .slice ba1 bl1 bc1, .bool bn2, .slice ba2 bl2 bc2]))
  replace HB2 : Hid (Big V4 (.agg #[.bool bn2, .slice ba2 bl2 bc2]) r2 18) := Lib.hid (by rw [hV4]; exact (big_setL HB2.out (Blk.cell k2 0) (fun _ h => by cases h) 0 [.bool bn1, .slice ba1 bl1 bc1, .bool bn2, .slice ba2 bl2 bc2]))
  clear k2
  clear hb0
  clear hV4
  have k2 := nk2
  clear nk2
  have hb0 := nhb0
  clear nhb0
  have g2_0 : V4.cell? ⟨(w.heap.size + 1), 0, none⟩ = some (.bool bn1) := k2.cell 0
  have g2_1 : V4.cell? ⟨(w.heap.size + 1), 1, none⟩ = some (.slice ba1 bl1 bc1) := k2.cell 1
  have g2_2 : V4.cell? ⟨(w.heap.size + 1), 2, none⟩ = some (.bool bn2) := k2.cell 2
  have g2_3 : V4.cell? ⟨(w.heap.size + 1), 3, none⟩ = some (.slice ba2 bl2 bc2) := k2.cell 3
  clear k2
  simp [bodyPost, results, Try.results38, go_sem, g2_0, g2_1, g2_2, g2_3]
  exact ⟨_, _, _, _, _, _, _, _, rfl, (HB1.out.mono (by decide)), (HB2.out.mono (by decide)), hb0⟩
end Go.Proofs.Ytlcbomjdbdgbmaa

namespace Go.Proofs.Ytlcbomjdbdgbmaa
open Go.RowKit

theorem blk_eq {w : World} {b : Nat} {c c' : Array Value} {t : TypeId} (h : Blk w b c t) (e : c = c') : Blk w b c' t := e ▸ h
section
variable {P : Program} {ops : Array Oper} {C : World → Prop} {Q : Exit → Act → World → Prop}
theorem nil_value {o : Oper} {x : Operand} {ρ : Operand → Value} {w w' : World} {n : Next} (hp : o.op = .nilCheck x) (h : (execOp ρ o).run P w = .ok n w') : ∃ v, n = .value v := by
  unfold execOp at h
  rw [hp] at h
  dsimp only at h
  split at h
  · simp [runtimePanic] at h
  · simp [runtimePanic] at h
  · simp [runtimePanic] at h
  · split at h
    · simp [runtimePanic] at h
    · simp only [Sem.run_bind] at h
      cases h1 : Sem.run P program w with
      | halt y w1 => rw [h1] at h; simp [Result.andThen] at h
      | ok p w1 =>
        rw [h1] at h
        simp only [Result.andThen] at h
        cases h2 : Sem.run P (nilAhead (p.types.size + Made.depth) _ _ _) w1 with
        | halt y w2 => rw [h2] at h; simp at h
        | ok b w2 =>
          rw [h2] at h
          simp only at h
          split at h
          · simp [unsupported, Result.andThen] at h
          · exact ⟨_, ((Result.ok.inj h).1).symm⟩
    · exact ⟨_, ((Result.ok.inj h).1).symm⟩
  · exact ⟨_, ((Result.ok.inj h).1).symm⟩
theorem nil_yields {o : Oper} {x : Operand} {a : Act} {v : Value} (hp : o.op = .nilCheck x) (h : ∀ w, C w → o.quietAt P a C w v) : ∀ w, C w → (execOp a.eval o).run P w = .ok (.value v) w := by
  intro w hw
  have h3 := h w hw
  unfold Oper.quietAt at h3
  cases hr : (execOp a.eval o).run P w with
  | ok n w' =>
    rw [hr] at h3
    obtain ⟨u, rfl⟩ := nil_value hp hr
    simp only [Oper.quietUpon] at h3
    rw [h3.1, h3.2]
  | halt x w' => rw [hr] at h3; simp only [Oper.quietUpon] at h3
theorem wpS_takeN {l : List Oper} {T : Act → World → Prop} {σ : List (Bool × Nat)} {i : Nat} {o : Oper} {a : Act} {w : World} (ho : l[i]? = some o) (hp : ∃ x, o.op = .nilCheck x)
    (h : wpQuiet P l.toArray C (fun a' => wpS P l.toArray C Q T σ a' w) [o] a) : wpS P l.toArray C Q T ((true, i) :: σ) a w := by
  obtain ⟨x, hx⟩ := hp
  have ho' : l.toArray[i]? = some o := by simpa using ho
  unfold wpQuiet at h
  by_cases hw : Region.wanted o (yielded l.toArray a.tmps) = true
  · rw [if_pos hw] at h
    obtain ⟨v, h1, h2⟩ := h
    exact ⟨o, v, ho', .inl ⟨hw, nil_yields hx h1⟩, h2⟩
  · rw [if_neg hw] at h
    exact ⟨o, undef, ho', .inr ⟨by simpa using hw, rfl⟩, h⟩
end
end Go.Proofs.Ytlcbomjdbdgbmaa

namespace Go.Proofs.Ytlcbomjdbdgbmaa
open Go.RowKit

def frfn (fn : Int) (fd : Int) (_tn : Int) (_td : Int) (_fo : Bool) (_to : Bool) (x : Int) (y : Int) (_o : Bool) : Int := (bif decide (0 < (pxl x y fn fd)) then x else fn)

def frfd (fn : Int) (fd : Int) (_tn : Int) (_td : Int) (_fo : Bool) (_to : Bool) (x : Int) (y : Int) (_o : Bool) : Int := (bif decide (0 < (pxl x y fn fd)) then y else fd)

def frtn (_fn : Int) (_fd : Int) (tn : Int) (_td : Int) (_fo : Bool) (_to : Bool) (_x : Int) (_y : Int) (_o : Bool) : Int := tn

def frtd (_fn : Int) (_fd : Int) (_tn : Int) (td : Int) (_fo : Bool) (_to : Bool) (_x : Int) (_y : Int) (_o : Bool) : Int := td

def frfo (fn : Int) (fd : Int) (_tn : Int) (_td : Int) (fo : Bool) (_to : Bool) (x : Int) (y : Int) (o : Bool) : Bool := (bif decide (0 < (pxl x y fn fd)) then o else (bif ((pxl x y fn fd) == 0) then (bif fo then true else o) else fo))

def frto (_fn : Int) (_fd : Int) (_tn : Int) (_td : Int) (_fo : Bool) (to : Bool) (_x : Int) (_y : Int) (_o : Bool) : Bool := to

theorem frfn_in (fn : Int) (fd : Int) (tn : Int) (td : Int) (fo : Bool) (to : Bool) (x : Int) (y : Int) (o : Bool) (_ifn : InI fn) (_ifd : InI fd) (_itn : InI tn) (_itd : InI td) (_ix : InI x) (_iy : InI y) : InI (frfn fn fd tn td fo to x y o) := by
  unfold frfn
  exact (cond_in _ix _ifn)

theorem frfd_in (fn : Int) (fd : Int) (tn : Int) (td : Int) (fo : Bool) (to : Bool) (x : Int) (y : Int) (o : Bool) (_ifn : InI fn) (_ifd : InI fd) (_itn : InI tn) (_itd : InI td) (_ix : InI x) (_iy : InI y) : InI (frfd fn fd tn td fo to x y o) := by
  unfold frfd
  exact (cond_in _iy _ifd)

theorem frtn_in (fn : Int) (fd : Int) (tn : Int) (td : Int) (fo : Bool) (to : Bool) (x : Int) (y : Int) (o : Bool) (_ifn : InI fn) (_ifd : InI fd) (_itn : InI tn) (_itd : InI td) (_ix : InI x) (_iy : InI y) : InI (frtn fn fd tn td fo to x y o) := by
  unfold frtn
  exact _itn

theorem frtd_in (fn : Int) (fd : Int) (tn : Int) (td : Int) (fo : Bool) (to : Bool) (x : Int) (y : Int) (o : Bool) (_ifn : InI fn) (_ifd : InI fd) (_itn : InI tn) (_itd : InI td) (_ix : InI x) (_iy : InI y) : InI (frtd fn fd tn td fo to x y o) := by
  unfold frtd
  exact _itd

set_option maxRecDepth 100000 in
set_option maxHeartbeats 4000000 in

theorem pxfr_is (fn : Int) (fd : Int) (tn : Int) (td : Int) (fo : Bool) (to : Bool) (x : Int) (y : Int) (o : Bool)  (R0 : Int) (R1 : Int) (R2 : Int) (R3 : Int) (R4 : Bool) (R5 : Bool) (hR0 : frfn fn fd tn td fo to x y o = R0) (hR1 : frfd fn fd tn td fo to x y o = R1) (hR2 : frtn fn fd tn td fo to x y o = R2) (hR3 : frtd fn fd tn td fo to x y o = R3) (hR4 : frfo fn fd tn td fo to x y o = R4) (hR5 : frto fn fd tn td fo to x y o = R5) (_ifn : InI fn) (_ifd : InI fd) (_itn : InI tn) (_itd : InI td) (_ix : InI x) (_iy : InI y) (bp : Nat) (w : World) (hkp : Blk w bp #[.int .u64 (wd0 fn), .int .u64 (wd1 fn), .int .u64 (wd2 fn), .int .u64 (wd3 fn), .int .u64 (wd0 fd), .int .u64 (wd1 fd), .int .u64 (wd2 fd), .int .u64 (wd3 fd), .int .u64 (wd0 tn), .int .u64 (wd1 tn), .int .u64 (wd2 tn), .int .u64 (wd3 tn), .int .u64 (wd0 td), .int .u64 (wd1 td), .int .u64 (wd2 td), .int .u64 (wd3 td), .bool fo, .bool to] 54) :
    Calls Try.prog 125 #[.pointer (some ⟨bp, 0, none⟩), .agg #[.int .u64 (wd0 x), .int .u64 (wd1 x), .int .u64 (wd2 x), .int .u64 (wd3 x), .int .u64 (wd0 y), .int .u64 (wd1 y), .int .u64 (wd2 y), .int .u64 (wd3 y)], .bool o] w fun e w' => e = .returned (.tuple #[]) ∧ Blk w' bp #[.int .u64 (wd0 R0), .int .u64 (wd1 R0), .int .u64 (wd2 R0), .int .u64 (wd3 R0), .int .u64 (wd0 R1), .int .u64 (wd1 R1), .int .u64 (wd2 R1), .int .u64 (wd3 R1), .int .u64 (wd0 R2), .int .u64 (wd1 R2), .int .u64 (wd2 R2), .int .u64 (wd3 R2), .int .u64 (wd0 R3), .int .u64 (wd1 R3), .int .u64 (wd2 R3), .int .u64 (wd3 R3), .bool R4, .bool R5] 54 ∧ Below bp w w' := by

  have HBL := Lib.hid hkp.lt
  have k1 := hkp
  clear hkp
  have HR0 := Lib.hid hR0
  clear hR0
  have HR1 := Lib.hid hR1
  clear hR1
  have HR2 := Lib.hid hR2
  clear hR2
  have HR3 := Lib.hid hR3
  clear hR3
  have HR4 := Lib.hid hR4
  clear hR4
  have HR5 := Lib.hid hR5
  clear hR5
  go_enter Try.func125, Try.ntmps125
  go_wp2_with fail
  first | refine calls_w ?_ | refine name_world ?_ | refine list_world ?_ | refine post_world ?_
  intro V1 hV1
  have hn : Below w.heap.size w V1 := by rw [hV1]; exact below_a1 _ _
  have nk1 := k1.of hn
  have nhb0 := hn.mono (Nat.le_of_lt HBL.out)
  have k2 : Blk V1 w.heap.size #[.int .u64 (wd0 x), .int .u64 (wd1 x), .int .u64 (wd2 x), .int .u64 (wd3 x), .int .u64 (wd0 y), .int .u64 (wd1 y), .int .u64 (wd2 y), .int .u64 (wd3 y)] 52 := by rw [hV1]; exact (Blk.new _ _ _)
  clear k1
  clear hV1
  have k1 := nk1
  clear nk1
  have hb0 := nhb0
  clear nhb0
  have c1_0 : V1.cell? ⟨bp, 0, none⟩ = some (.int .u64 (wd0 fn)) := k1.cell 0
  have c1_1 : V1.cell? ⟨bp, 1, none⟩ = some (.int .u64 (wd1 fn)) := k1.cell 1
  have c1_2 : V1.cell? ⟨bp, 2, none⟩ = some (.int .u64 (wd2 fn)) := k1.cell 2
  have c1_3 : V1.cell? ⟨bp, 3, none⟩ = some (.int .u64 (wd3 fn)) := k1.cell 3
  have c1_4 : V1.cell? ⟨bp, 4, none⟩ = some (.int .u64 (wd0 fd)) := k1.cell 4
  have c1_5 : V1.cell? ⟨bp, 5, none⟩ = some (.int .u64 (wd1 fd)) := k1.cell 5
  have c1_6 : V1.cell? ⟨bp, 6, none⟩ = some (.int .u64 (wd2 fd)) := k1.cell 6
  have c1_7 : V1.cell? ⟨bp, 7, none⟩ = some (.int .u64 (wd3 fd)) := k1.cell 7
  have l1 := k1.lt
  have c2_0 : V1.cell? ⟨w.heap.size, 0, none⟩ = some (.int .u64 (wd0 x)) := k2.cell 0
  have c2_1 : V1.cell? ⟨w.heap.size, 1, none⟩ = some (.int .u64 (wd1 x)) := k2.cell 1
  have c2_2 : V1.cell? ⟨w.heap.size, 2, none⟩ = some (.int .u64 (wd2 x)) := k2.cell 2
  have c2_3 : V1.cell? ⟨w.heap.size, 3, none⟩ = some (.int .u64 (wd3 x)) := k2.cell 3
  have c2_4 : V1.cell? ⟨w.heap.size, 4, none⟩ = some (.int .u64 (wd0 y)) := k2.cell 4
  have c2_5 : V1.cell? ⟨w.heap.size, 5, none⟩ = some (.int .u64 (wd1 y)) := k2.cell 5
  have c2_6 : V1.cell? ⟨w.heap.size, 6, none⟩ = some (.int .u64 (wd2 y)) := k2.cell 6
  have c2_7 : V1.cell? ⟨w.heap.size, 7, none⟩ = some (.int .u64 (wd3 y)) := k2.cell 7
  have l2 := k2.lt
  have Kk1 := Lib.hid k1
  clear k1
  have Kk2 := Lib.hid k2
  clear k2
  refine wp_region_up V1.heap.size 5 [(true, 0), (true, 1), (true, 2), (true, 3), (true, 4)] (by kernel_rfl) (by kernel_rfl) (fun _ _ d _ _ h => by cases d <;> exact h) ?_
  have hb : Below V1.heap.size V1 V1.drew := (Below.refl _ _).drew
  iterate 5
    first | refine wpS_takeL rfl rfl ?_ | refine wpS_takeN rfl ⟨_, rfl⟩ ?_
    go_big_quiet_step (rfl)
    refine wpQuiet_nil ?_
  refine wpS_nil ?_
  simp only [List.drop_succ_cons, List.drop_zero]
  first | refine calls_w ?_ | refine name_world ?_ | refine list_world ?_ | refine post_world ?_
  intro U2 hU2
  first | (subst hU2; have u_ := U2; clear u_) | (rw [← hU2] at hb; clear hU2)
  clear c1_0 c1_1 c1_2 c1_3 c1_4 c1_5 c1_6 c1_7 l1 c2_0 c2_1 c2_2 c2_3 c2_4 c2_5 c2_6 c2_7 l2
  have k1 := Kk1.out.of hb
  clear Kk1
  have k2 := Kk2.out.of hb
  clear Kk2
  replace hb0 := hb0.trans (hb.mono (Nat.le_trans (Nat.le_of_lt HBL.out) hb0.size))
  clear hb
  go_wp2_with fail
  obtain ⟨r1, hr1⟩ : ∃ o_o : Int, pxl x y fn fd = o_o := ⟨_, rfl⟩
  have Hr1 := Lib.hid hr1
  clear hr1
  refine (pxls_is x y fn fd r1 Hr1.out _ix _iy _ifn _ifd  _).mono ?_
  rintro e U3 ⟨rfl, hn⟩
  replace k1 := k1.of hn
  replace k2 := k2.of hn
  replace hb0 := hb0.trans (hn.mono (Nat.le_trans (Nat.le_of_lt HBL.out) hb0.size))
  clear hn
  obtain ⟨z2, hz2⟩ : ∃ o_o : Bool, decide (0 < r1) = o_o := ⟨_, rfl⟩
  cases z2
  · obtain ⟨z3, hz3⟩ : ∃ o_o : Bool, (r1 == 0) = o_o := ⟨_, rfl⟩
    cases z3
    · have nz3 : ¬ r1 = 0 := by simpa using hz3
      have e0 : fn = R0 := by rw [← HR0.out]; unfold frfn; (try rw [Hr1.out]); (try rw [hz2]); (try rw [hz3]); all_goals first | rfl | simp
      have e1 : fd = R1 := by rw [← HR1.out]; unfold frfd; (try rw [Hr1.out]); (try rw [hz2]); (try rw [hz3]); all_goals first | rfl | simp
      have e2 : tn = R2 := by rw [← HR2.out]; unfold frtn; (try rw [Hr1.out]); (try rw [hz2]); (try rw [hz3]); all_goals first | rfl | simp
      have e3 : td = R3 := by rw [← HR3.out]; unfold frtd; (try rw [Hr1.out]); (try rw [hz2]); (try rw [hz3]); all_goals first | rfl | simp
      have e4 : fo = R4 := by rw [← HR4.out]; unfold frfo; (try rw [Hr1.out]); (try rw [hz2]); (try rw [hz3]); all_goals first | rfl | simp
      have e5 : to = R5 := by rw [← HR5.out]; unfold frto; (try rw [Hr1.out]); (try rw [hz2]); (try rw [hz3]); all_goals first | rfl | simp
      subst e0
      subst e1
      subst e2
      subst e3
      subst e4
      subst e5
      go_wp2
      go_end0
      exact ⟨by first | rfl | simp, k1, hb0⟩
    · obtain rfl : r1 = 0 := by simpa using hz3
      clear hz3
      cases fo
      · have c1_16 : U3.cell? ⟨bp, 16, none⟩ = some (.bool false) := k1.cell 16
        have f1_16 := k1.free 16
        have l1 := k1.lt
        have e0 : fn = R0 := by rw [← HR0.out]; unfold frfn; (try rw [Hr1.out]); (try rw [hz2]); all_goals first | rfl | simp
        have e1 : fd = R1 := by rw [← HR1.out]; unfold frfd; (try rw [Hr1.out]); (try rw [hz2]); all_goals first | rfl | simp
        have e2 : tn = R2 := by rw [← HR2.out]; unfold frtn; (try rw [Hr1.out]); (try rw [hz2]); all_goals first | rfl | simp
        have e3 : td = R3 := by rw [← HR3.out]; unfold frtd; (try rw [Hr1.out]); (try rw [hz2]); all_goals first | rfl | simp
        have e4 : o = R4 := by rw [← HR4.out]; unfold frfo; (try rw [Hr1.out]); (try rw [hz2]); all_goals first | rfl | simp
        have e5 : to = R5 := by rw [← HR5.out]; unfold frto; (try rw [Hr1.out]); (try rw [hz2]); all_goals first | rfl | simp
        subst e0
        subst e1
        subst e2
        subst e3
        subst e4
        subst e5
        go_wp2
        clear c1_16 f1_16 l1
        first | refine post_world ?_
        intro V4 hV4
        clear k2
        have D1 := Lib.hid k1.lt
        have D2 := Lib.hid hb0.size
        have nk1 : Blk V4 bp #[.int .u64 (wd0 fn), .int .u64 (wd1 fn), .int .u64 (wd2 fn), .int .u64 (wd3 fn), .int .u64 (wd0 fd), .int .u64 (wd1 fd), .int .u64 (wd2 fd), .int .u64 (wd3 fd), .int .u64 (wd0 tn), .int .u64 (wd1 tn), .int .u64 (wd2 tn), .int .u64 (wd3 tn), .int .u64 (wd0 td), .int .u64 (wd1 td), .int .u64 (wd2 td), .int .u64 (wd3 td), .bool o, .bool to] 54 := by rw [hV4]; exact blk_eq ((blk_putL k1 16 [.bool o])) (by kernel_rfl)
        have nhb0 : Below bp w V4 := by rw [hV4]; exact (blw_setL hb0 (by have := HBL.out; omega) 16 [.bool o])
        clear k1
        clear hb0
        clear hV4
        have k1 := nk1
        clear nk1
        have hb0 := nhb0
        clear nhb0
        go_end0
        first | exact ⟨k1, hb0⟩ | exact ⟨rfl, k1, hb0⟩
      · have c1_16 : U3.cell? ⟨bp, 16, none⟩ = some (.bool true) := k1.cell 16
        have f1_16 := k1.free 16
        have l1 := k1.lt
        have e0 : fn = R0 := by rw [← HR0.out]; unfold frfn; (try rw [Hr1.out]); (try rw [hz2]); all_goals first | rfl | simp
        have e1 : fd = R1 := by rw [← HR1.out]; unfold frfd; (try rw [Hr1.out]); (try rw [hz2]); all_goals first | rfl | simp
        have e2 : tn = R2 := by rw [← HR2.out]; unfold frtn; (try rw [Hr1.out]); (try rw [hz2]); all_goals first | rfl | simp
        have e3 : td = R3 := by rw [← HR3.out]; unfold frtd; (try rw [Hr1.out]); (try rw [hz2]); all_goals first | rfl | simp
        have e4 : true = R4 := by rw [← HR4.out]; unfold frfo; (try rw [Hr1.out]); (try rw [hz2]); all_goals first | rfl | simp
        have e5 : to = R5 := by rw [← HR5.out]; unfold frto; (try rw [Hr1.out]); (try rw [hz2]); all_goals first | rfl | simp
        subst e0
        subst e1
        subst e2
        subst e3
        subst e4
        subst e5
        go_wp2
        clear c1_16 f1_16 l1
        first | refine post_world ?_
        intro V5 hV5
        clear k2
        have D3 := Lib.hid k1.lt
        have D4 := Lib.hid hb0.size
        have nk1 : Blk V5 bp #[.int .u64 (wd0 fn), .int .u64 (wd1 fn), .int .u64 (wd2 fn), .int .u64 (wd3 fn), .int .u64 (wd0 fd), .int .u64 (wd1 fd), .int .u64 (wd2 fd), .int .u64 (wd3 fd), .int .u64 (wd0 tn), .int .u64 (wd1 tn), .int .u64 (wd2 tn), .int .u64 (wd3 tn), .int .u64 (wd0 td), .int .u64 (wd1 td), .int .u64 (wd2 td), .int .u64 (wd3 td), .bool true, .bool to] 54 := by rw [hV5]; exact blk_eq ((blk_putL k1 16 [.bool true])) (by kernel_rfl)
        have nhb0 : Below bp w V5 := by rw [hV5]; exact (blw_setL hb0 (by have := HBL.out; omega) 16 [.bool true])
        clear k1
        clear hb0
        clear hV5
        have k1 := nk1
        clear nk1
        have hb0 := nhb0
        clear nhb0
        go_end0
        first | exact ⟨k1, hb0⟩ | exact ⟨rfl, k1, hb0⟩
  · have c1_0 : U3.cell? ⟨bp, 0, none⟩ = some (.int .u64 (wd0 fn)) := k1.cell 0
    have c1_1 : U3.cell? ⟨bp, 1, none⟩ = some (.int .u64 (wd1 fn)) := k1.cell 1
    have c1_2 : U3.cell? ⟨bp, 2, none⟩ = some (.int .u64 (wd2 fn)) := k1.cell 2
    have c1_3 : U3.cell? ⟨bp, 3, none⟩ = some (.int .u64 (wd3 fn)) := k1.cell 3
    have c1_4 : U3.cell? ⟨bp, 4, none⟩ = some (.int .u64 (wd0 fd)) := k1.cell 4
    have c1_5 : U3.cell? ⟨bp, 5, none⟩ = some (.int .u64 (wd1 fd)) := k1.cell 5
    have c1_6 : U3.cell? ⟨bp, 6, none⟩ = some (.int .u64 (wd2 fd)) := k1.cell 6
    have c1_7 : U3.cell? ⟨bp, 7, none⟩ = some (.int .u64 (wd3 fd)) := k1.cell 7
    have c1_16 : U3.cell? ⟨bp, 16, none⟩ = some (.bool fo) := k1.cell 16
    have f1_0 := k1.free 0
    have f1_1 := k1.free 1
    have f1_2 := k1.free 2
    have f1_3 := k1.free 3
    have f1_4 := k1.free 4
    have f1_5 := k1.free 5
    have f1_6 := k1.free 6
    have f1_7 := k1.free 7
    have f1_16 := k1.free 16
    have l1 := k1.lt
    have c2_0 : U3.cell? ⟨w.heap.size, 0, none⟩ = some (.int .u64 (wd0 x)) := k2.cell 0
    have c2_1 : U3.cell? ⟨w.heap.size, 1, none⟩ = some (.int .u64 (wd1 x)) := k2.cell 1
    have c2_2 : U3.cell? ⟨w.heap.size, 2, none⟩ = some (.int .u64 (wd2 x)) := k2.cell 2
    have c2_3 : U3.cell? ⟨w.heap.size, 3, none⟩ = some (.int .u64 (wd3 x)) := k2.cell 3
    have c2_4 : U3.cell? ⟨w.heap.size, 4, none⟩ = some (.int .u64 (wd0 y)) := k2.cell 4
    have c2_5 : U3.cell? ⟨w.heap.size, 5, none⟩ = some (.int .u64 (wd1 y)) := k2.cell 5
    have c2_6 : U3.cell? ⟨w.heap.size, 6, none⟩ = some (.int .u64 (wd2 y)) := k2.cell 6
    have c2_7 : U3.cell? ⟨w.heap.size, 7, none⟩ = some (.int .u64 (wd3 y)) := k2.cell 7
    have l2 := k2.lt
    have p2_1 : w.heap.size ≠ bp := (by have := HBL.out; omega)
    have e0 : x = R0 := by rw [← HR0.out]; unfold frfn; (try rw [Hr1.out]); (try rw [hz2]); all_goals first | rfl | simp
    have e1 : y = R1 := by rw [← HR1.out]; unfold frfd; (try rw [Hr1.out]); (try rw [hz2]); all_goals first | rfl | simp
    have e2 : tn = R2 := by rw [← HR2.out]; unfold frtn; (try rw [Hr1.out]); (try rw [hz2]); all_goals first | rfl | simp
    have e3 : td = R3 := by rw [← HR3.out]; unfold frtd; (try rw [Hr1.out]); (try rw [hz2]); all_goals first | rfl | simp
    have e4 : o = R4 := by rw [← HR4.out]; unfold frfo; (try rw [Hr1.out]); (try rw [hz2]); all_goals first | rfl | simp
    have e5 : to = R5 := by rw [← HR5.out]; unfold frto; (try rw [Hr1.out]); (try rw [hz2]); all_goals first | rfl | simp
    subst e0
    subst e1
    subst e2
    subst e3
    subst e4
    subst e5
    go_wp2
    clear c1_0 c1_1 c1_2 c1_3 c1_4 c1_5 c1_6 c1_7 c1_16 f1_0 f1_1 f1_2 f1_3 f1_4 f1_5 f1_6 f1_7 f1_16 l1 c2_0 c2_1 c2_2 c2_3 c2_4 c2_5 c2_6 c2_7 l2 p2_1
    first | refine post_world ?_
    intro V6 hV6
    clear k2
    have D5 := Lib.hid k1.lt
    have D6 := Lib.hid hb0.size
    have nk1 : Blk V6 bp #[.int .u64 (wd0 x), .int .u64 (wd1 x), .int .u64 (wd2 x), .int .u64 (wd3 x), .int .u64 (wd0 y), .int .u64 (wd1 y), .int .u64 (wd2 y), .int .u64 (wd3 y), .int .u64 (wd0 tn), .int .u64 (wd1 tn), .int .u64 (wd2 tn), .int .u64 (wd3 tn), .int .u64 (wd0 td), .int .u64 (wd1 td), .int .u64 (wd2 td), .int .u64 (wd3 td), .bool o, .bool to] 54 := by rw [hV6]; exact blk_eq ((blk_putL (blk_putL k1 0 [.int .u64 (wd0 x), .int .u64 (wd1 x), .int .u64 (wd2 x), .int .u64 (wd3 x), .int .u64 (wd0 y), .int .u64 (wd1 y), .int .u64 (wd2 y), .int .u64 (wd3 y)]) 16 [.bool o])) (by kernel_rfl)
    have nhb0 : Below bp w V6 := by rw [hV6]; exact (blw_setL (blw_setL hb0 (by have := HBL.out; omega) 0 [.int .u64 (wd0 x), .int .u64 (wd1 x), .int .u64 (wd2 x), .int .u64 (wd3 x), .int .u64 (wd0 y), .int .u64 (wd1 y), .int .u64 (wd2 y), .int .u64 (wd3 y)]) (by have := HBL.out; omega) 16 [.bool o])
    clear k1
    clear hb0
    clear hV6
    have k1 := nk1
    clear nk1
    have hb0 := nhb0
    clear nhb0
    go_end0
    first | exact ⟨k1, hb0⟩ | exact ⟨rfl, k1, hb0⟩

def tofn (fn : Int) (_fd : Int) (_tn : Int) (_td : Int) (_fo : Bool) (_to : Bool) (_x : Int) (_y : Int) (_o : Bool) : Int := fn

def tofd (_fn : Int) (fd : Int) (_tn : Int) (_td : Int) (_fo : Bool) (_to : Bool) (_x : Int) (_y : Int) (_o : Bool) : Int := fd

def totn (_fn : Int) (_fd : Int) (tn : Int) (td : Int) (_fo : Bool) (_to : Bool) (x : Int) (y : Int) (_o : Bool) : Int := (bif decide ((pxl x y tn td) < 0) then x else tn)

def totd (_fn : Int) (_fd : Int) (tn : Int) (td : Int) (_fo : Bool) (_to : Bool) (x : Int) (y : Int) (_o : Bool) : Int := (bif decide ((pxl x y tn td) < 0) then y else td)

def tofo (_fn : Int) (_fd : Int) (_tn : Int) (_td : Int) (fo : Bool) (_to : Bool) (_x : Int) (_y : Int) (_o : Bool) : Bool := fo

def toto (_fn : Int) (_fd : Int) (tn : Int) (td : Int) (_fo : Bool) (to : Bool) (x : Int) (y : Int) (o : Bool) : Bool := (bif decide ((pxl x y tn td) < 0) then o else (bif ((pxl x y tn td) == 0) then (bif to then true else o) else to))

theorem tofn_in (fn : Int) (fd : Int) (tn : Int) (td : Int) (fo : Bool) (to : Bool) (x : Int) (y : Int) (o : Bool) (_ifn : InI fn) (_ifd : InI fd) (_itn : InI tn) (_itd : InI td) (_ix : InI x) (_iy : InI y) : InI (tofn fn fd tn td fo to x y o) := by
  unfold tofn
  exact _ifn

theorem tofd_in (fn : Int) (fd : Int) (tn : Int) (td : Int) (fo : Bool) (to : Bool) (x : Int) (y : Int) (o : Bool) (_ifn : InI fn) (_ifd : InI fd) (_itn : InI tn) (_itd : InI td) (_ix : InI x) (_iy : InI y) : InI (tofd fn fd tn td fo to x y o) := by
  unfold tofd
  exact _ifd

theorem totn_in (fn : Int) (fd : Int) (tn : Int) (td : Int) (fo : Bool) (to : Bool) (x : Int) (y : Int) (o : Bool) (_ifn : InI fn) (_ifd : InI fd) (_itn : InI tn) (_itd : InI td) (_ix : InI x) (_iy : InI y) : InI (totn fn fd tn td fo to x y o) := by
  unfold totn
  exact (cond_in _ix _itn)

theorem totd_in (fn : Int) (fd : Int) (tn : Int) (td : Int) (fo : Bool) (to : Bool) (x : Int) (y : Int) (o : Bool) (_ifn : InI fn) (_ifd : InI fd) (_itn : InI tn) (_itd : InI td) (_ix : InI x) (_iy : InI y) : InI (totd fn fd tn td fo to x y o) := by
  unfold totd
  exact (cond_in _iy _itd)

set_option maxRecDepth 100000 in
set_option maxHeartbeats 4000000 in

theorem pxto_is (fn : Int) (fd : Int) (tn : Int) (td : Int) (fo : Bool) (to : Bool) (x : Int) (y : Int) (o : Bool)  (R0 : Int) (R1 : Int) (R2 : Int) (R3 : Int) (R4 : Bool) (R5 : Bool) (hR0 : tofn fn fd tn td fo to x y o = R0) (hR1 : tofd fn fd tn td fo to x y o = R1) (hR2 : totn fn fd tn td fo to x y o = R2) (hR3 : totd fn fd tn td fo to x y o = R3) (hR4 : tofo fn fd tn td fo to x y o = R4) (hR5 : toto fn fd tn td fo to x y o = R5) (_ifn : InI fn) (_ifd : InI fd) (_itn : InI tn) (_itd : InI td) (_ix : InI x) (_iy : InI y) (bp : Nat) (w : World) (hkp : Blk w bp #[.int .u64 (wd0 fn), .int .u64 (wd1 fn), .int .u64 (wd2 fn), .int .u64 (wd3 fn), .int .u64 (wd0 fd), .int .u64 (wd1 fd), .int .u64 (wd2 fd), .int .u64 (wd3 fd), .int .u64 (wd0 tn), .int .u64 (wd1 tn), .int .u64 (wd2 tn), .int .u64 (wd3 tn), .int .u64 (wd0 td), .int .u64 (wd1 td), .int .u64 (wd2 td), .int .u64 (wd3 td), .bool fo, .bool to] 54) :
    Calls Try.prog 127 #[.pointer (some ⟨bp, 0, none⟩), .agg #[.int .u64 (wd0 x), .int .u64 (wd1 x), .int .u64 (wd2 x), .int .u64 (wd3 x), .int .u64 (wd0 y), .int .u64 (wd1 y), .int .u64 (wd2 y), .int .u64 (wd3 y)], .bool o] w fun e w' => e = .returned (.tuple #[]) ∧ Blk w' bp #[.int .u64 (wd0 R0), .int .u64 (wd1 R0), .int .u64 (wd2 R0), .int .u64 (wd3 R0), .int .u64 (wd0 R1), .int .u64 (wd1 R1), .int .u64 (wd2 R1), .int .u64 (wd3 R1), .int .u64 (wd0 R2), .int .u64 (wd1 R2), .int .u64 (wd2 R2), .int .u64 (wd3 R2), .int .u64 (wd0 R3), .int .u64 (wd1 R3), .int .u64 (wd2 R3), .int .u64 (wd3 R3), .bool R4, .bool R5] 54 ∧ Below bp w w' := by

  have HBL := Lib.hid hkp.lt
  have k1 := hkp
  clear hkp
  have HR0 := Lib.hid hR0
  clear hR0
  have HR1 := Lib.hid hR1
  clear hR1
  have HR2 := Lib.hid hR2
  clear hR2
  have HR3 := Lib.hid hR3
  clear hR3
  have HR4 := Lib.hid hR4
  clear hR4
  have HR5 := Lib.hid hR5
  clear hR5
  go_enter Try.func127, Try.ntmps127
  go_wp2_with fail
  first | refine calls_w ?_ | refine name_world ?_ | refine list_world ?_ | refine post_world ?_
  intro V1 hV1
  have hn : Below w.heap.size w V1 := by rw [hV1]; exact below_a1 _ _
  have nk1 := k1.of hn
  have nhb0 := hn.mono (Nat.le_of_lt HBL.out)
  have k2 : Blk V1 w.heap.size #[.int .u64 (wd0 x), .int .u64 (wd1 x), .int .u64 (wd2 x), .int .u64 (wd3 x), .int .u64 (wd0 y), .int .u64 (wd1 y), .int .u64 (wd2 y), .int .u64 (wd3 y)] 52 := by rw [hV1]; exact (Blk.new _ _ _)
  clear k1
  clear hV1
  have k1 := nk1
  clear nk1
  have hb0 := nhb0
  clear nhb0
  have c1_8 : V1.cell? ⟨bp, 8, none⟩ = some (.int .u64 (wd0 tn)) := k1.cell 8
  have c1_9 : V1.cell? ⟨bp, 9, none⟩ = some (.int .u64 (wd1 tn)) := k1.cell 9
  have c1_10 : V1.cell? ⟨bp, 10, none⟩ = some (.int .u64 (wd2 tn)) := k1.cell 10
  have c1_11 : V1.cell? ⟨bp, 11, none⟩ = some (.int .u64 (wd3 tn)) := k1.cell 11
  have c1_12 : V1.cell? ⟨bp, 12, none⟩ = some (.int .u64 (wd0 td)) := k1.cell 12
  have c1_13 : V1.cell? ⟨bp, 13, none⟩ = some (.int .u64 (wd1 td)) := k1.cell 13
  have c1_14 : V1.cell? ⟨bp, 14, none⟩ = some (.int .u64 (wd2 td)) := k1.cell 14
  have c1_15 : V1.cell? ⟨bp, 15, none⟩ = some (.int .u64 (wd3 td)) := k1.cell 15
  have l1 := k1.lt
  have c2_0 : V1.cell? ⟨w.heap.size, 0, none⟩ = some (.int .u64 (wd0 x)) := k2.cell 0
  have c2_1 : V1.cell? ⟨w.heap.size, 1, none⟩ = some (.int .u64 (wd1 x)) := k2.cell 1
  have c2_2 : V1.cell? ⟨w.heap.size, 2, none⟩ = some (.int .u64 (wd2 x)) := k2.cell 2
  have c2_3 : V1.cell? ⟨w.heap.size, 3, none⟩ = some (.int .u64 (wd3 x)) := k2.cell 3
  have c2_4 : V1.cell? ⟨w.heap.size, 4, none⟩ = some (.int .u64 (wd0 y)) := k2.cell 4
  have c2_5 : V1.cell? ⟨w.heap.size, 5, none⟩ = some (.int .u64 (wd1 y)) := k2.cell 5
  have c2_6 : V1.cell? ⟨w.heap.size, 6, none⟩ = some (.int .u64 (wd2 y)) := k2.cell 6
  have c2_7 : V1.cell? ⟨w.heap.size, 7, none⟩ = some (.int .u64 (wd3 y)) := k2.cell 7
  have l2 := k2.lt
  have Kk1 := Lib.hid k1
  clear k1
  have Kk2 := Lib.hid k2
  clear k2
  refine wp_region_up V1.heap.size 5 [(true, 0), (true, 1), (true, 2), (true, 3), (true, 4)] (by kernel_rfl) (by kernel_rfl) (fun _ _ d _ _ h => by cases d <;> exact h) ?_
  have hb : Below V1.heap.size V1 V1.drew := (Below.refl _ _).drew
  iterate 5
    first | refine wpS_takeL rfl rfl ?_ | refine wpS_takeN rfl ⟨_, rfl⟩ ?_
    go_big_quiet_step (rfl)
    refine wpQuiet_nil ?_
  refine wpS_nil ?_
  simp only [List.drop_succ_cons, List.drop_zero]
  first | refine calls_w ?_ | refine name_world ?_ | refine list_world ?_ | refine post_world ?_
  intro U2 hU2
  first | (subst hU2; have u_ := U2; clear u_) | (rw [← hU2] at hb; clear hU2)
  clear c1_8 c1_9 c1_10 c1_11 c1_12 c1_13 c1_14 c1_15 l1 c2_0 c2_1 c2_2 c2_3 c2_4 c2_5 c2_6 c2_7 l2
  have k1 := Kk1.out.of hb
  clear Kk1
  have k2 := Kk2.out.of hb
  clear Kk2
  replace hb0 := hb0.trans (hb.mono (Nat.le_trans (Nat.le_of_lt HBL.out) hb0.size))
  clear hb
  go_wp2_with fail
  obtain ⟨r1, hr1⟩ : ∃ o_o : Int, pxl x y tn td = o_o := ⟨_, rfl⟩
  have Hr1 := Lib.hid hr1
  clear hr1
  refine (pxls_is x y tn td r1 Hr1.out _ix _iy _itn _itd  _).mono ?_
  rintro e U3 ⟨rfl, hn⟩
  replace k1 := k1.of hn
  replace k2 := k2.of hn
  replace hb0 := hb0.trans (hn.mono (Nat.le_trans (Nat.le_of_lt HBL.out) hb0.size))
  clear hn
  obtain ⟨z2, hz2⟩ : ∃ o_o : Bool, decide (r1 < 0) = o_o := ⟨_, rfl⟩
  cases z2
  · obtain ⟨z3, hz3⟩ : ∃ o_o : Bool, (r1 == 0) = o_o := ⟨_, rfl⟩
    cases z3
    · have nz3 : ¬ r1 = 0 := by simpa using hz3
      have e0 : fn = R0 := by rw [← HR0.out]; unfold tofn; (try rw [Hr1.out]); (try rw [hz2]); (try rw [hz3]); all_goals first | rfl | simp
      have e1 : fd = R1 := by rw [← HR1.out]; unfold tofd; (try rw [Hr1.out]); (try rw [hz2]); (try rw [hz3]); all_goals first | rfl | simp
      have e2 : tn = R2 := by rw [← HR2.out]; unfold totn; (try rw [Hr1.out]); (try rw [hz2]); (try rw [hz3]); all_goals first | rfl | simp
      have e3 : td = R3 := by rw [← HR3.out]; unfold totd; (try rw [Hr1.out]); (try rw [hz2]); (try rw [hz3]); all_goals first | rfl | simp
      have e4 : fo = R4 := by rw [← HR4.out]; unfold tofo; (try rw [Hr1.out]); (try rw [hz2]); (try rw [hz3]); all_goals first | rfl | simp
      have e5 : to = R5 := by rw [← HR5.out]; unfold toto; (try rw [Hr1.out]); (try rw [hz2]); (try rw [hz3]); all_goals first | rfl | simp
      subst e0
      subst e1
      subst e2
      subst e3
      subst e4
      subst e5
      go_wp2
      go_end0
      exact ⟨by first | rfl | simp, k1, hb0⟩
    · obtain rfl : r1 = 0 := by simpa using hz3
      clear hz3
      cases to
      · have c1_17 : U3.cell? ⟨bp, 17, none⟩ = some (.bool false) := k1.cell 17
        have f1_17 := k1.free 17
        have l1 := k1.lt
        have e0 : fn = R0 := by rw [← HR0.out]; unfold tofn; (try rw [Hr1.out]); (try rw [hz2]); all_goals first | rfl | simp
        have e1 : fd = R1 := by rw [← HR1.out]; unfold tofd; (try rw [Hr1.out]); (try rw [hz2]); all_goals first | rfl | simp
        have e2 : tn = R2 := by rw [← HR2.out]; unfold totn; (try rw [Hr1.out]); (try rw [hz2]); all_goals first | rfl | simp
        have e3 : td = R3 := by rw [← HR3.out]; unfold totd; (try rw [Hr1.out]); (try rw [hz2]); all_goals first | rfl | simp
        have e4 : fo = R4 := by rw [← HR4.out]; unfold tofo; (try rw [Hr1.out]); (try rw [hz2]); all_goals first | rfl | simp
        have e5 : o = R5 := by rw [← HR5.out]; unfold toto; (try rw [Hr1.out]); (try rw [hz2]); all_goals first | rfl | simp
        subst e0
        subst e1
        subst e2
        subst e3
        subst e4
        subst e5
        go_wp2
        clear c1_17 f1_17 l1
        first | refine post_world ?_
        intro V4 hV4
        clear k2
        have D1 := Lib.hid k1.lt
        have D2 := Lib.hid hb0.size
        have nk1 : Blk V4 bp #[.int .u64 (wd0 fn), .int .u64 (wd1 fn), .int .u64 (wd2 fn), .int .u64 (wd3 fn), .int .u64 (wd0 fd), .int .u64 (wd1 fd), .int .u64 (wd2 fd), .int .u64 (wd3 fd), .int .u64 (wd0 tn), .int .u64 (wd1 tn), .int .u64 (wd2 tn), .int .u64 (wd3 tn), .int .u64 (wd0 td), .int .u64 (wd1 td), .int .u64 (wd2 td), .int .u64 (wd3 td), .bool fo, .bool o] 54 := by rw [hV4]; exact blk_eq ((blk_putL k1 17 [.bool o])) (by kernel_rfl)
        have nhb0 : Below bp w V4 := by rw [hV4]; exact (blw_setL hb0 (by have := HBL.out; omega) 17 [.bool o])
        clear k1
        clear hb0
        clear hV4
        have k1 := nk1
        clear nk1
        have hb0 := nhb0
        clear nhb0
        go_end0
        first | exact ⟨k1, hb0⟩ | exact ⟨rfl, k1, hb0⟩
      · have c1_17 : U3.cell? ⟨bp, 17, none⟩ = some (.bool true) := k1.cell 17
        have f1_17 := k1.free 17
        have l1 := k1.lt
        have e0 : fn = R0 := by rw [← HR0.out]; unfold tofn; (try rw [Hr1.out]); (try rw [hz2]); all_goals first | rfl | simp
        have e1 : fd = R1 := by rw [← HR1.out]; unfold tofd; (try rw [Hr1.out]); (try rw [hz2]); all_goals first | rfl | simp
        have e2 : tn = R2 := by rw [← HR2.out]; unfold totn; (try rw [Hr1.out]); (try rw [hz2]); all_goals first | rfl | simp
        have e3 : td = R3 := by rw [← HR3.out]; unfold totd; (try rw [Hr1.out]); (try rw [hz2]); all_goals first | rfl | simp
        have e4 : fo = R4 := by rw [← HR4.out]; unfold tofo; (try rw [Hr1.out]); (try rw [hz2]); all_goals first | rfl | simp
        have e5 : true = R5 := by rw [← HR5.out]; unfold toto; (try rw [Hr1.out]); (try rw [hz2]); all_goals first | rfl | simp
        subst e0
        subst e1
        subst e2
        subst e3
        subst e4
        subst e5
        go_wp2
        clear c1_17 f1_17 l1
        first | refine post_world ?_
        intro V5 hV5
        clear k2
        have D3 := Lib.hid k1.lt
        have D4 := Lib.hid hb0.size
        have nk1 : Blk V5 bp #[.int .u64 (wd0 fn), .int .u64 (wd1 fn), .int .u64 (wd2 fn), .int .u64 (wd3 fn), .int .u64 (wd0 fd), .int .u64 (wd1 fd), .int .u64 (wd2 fd), .int .u64 (wd3 fd), .int .u64 (wd0 tn), .int .u64 (wd1 tn), .int .u64 (wd2 tn), .int .u64 (wd3 tn), .int .u64 (wd0 td), .int .u64 (wd1 td), .int .u64 (wd2 td), .int .u64 (wd3 td), .bool fo, .bool true] 54 := by rw [hV5]; exact blk_eq ((blk_putL k1 17 [.bool true])) (by kernel_rfl)
        have nhb0 : Below bp w V5 := by rw [hV5]; exact (blw_setL hb0 (by have := HBL.out; omega) 17 [.bool true])
        clear k1
        clear hb0
        clear hV5
        have k1 := nk1
        clear nk1
        have hb0 := nhb0
        clear nhb0
        go_end0
        first | exact ⟨k1, hb0⟩ | exact ⟨rfl, k1, hb0⟩
  · have c1_8 : U3.cell? ⟨bp, 8, none⟩ = some (.int .u64 (wd0 tn)) := k1.cell 8
    have c1_9 : U3.cell? ⟨bp, 9, none⟩ = some (.int .u64 (wd1 tn)) := k1.cell 9
    have c1_10 : U3.cell? ⟨bp, 10, none⟩ = some (.int .u64 (wd2 tn)) := k1.cell 10
    have c1_11 : U3.cell? ⟨bp, 11, none⟩ = some (.int .u64 (wd3 tn)) := k1.cell 11
    have c1_12 : U3.cell? ⟨bp, 12, none⟩ = some (.int .u64 (wd0 td)) := k1.cell 12
    have c1_13 : U3.cell? ⟨bp, 13, none⟩ = some (.int .u64 (wd1 td)) := k1.cell 13
    have c1_14 : U3.cell? ⟨bp, 14, none⟩ = some (.int .u64 (wd2 td)) := k1.cell 14
    have c1_15 : U3.cell? ⟨bp, 15, none⟩ = some (.int .u64 (wd3 td)) := k1.cell 15
    have c1_17 : U3.cell? ⟨bp, 17, none⟩ = some (.bool to) := k1.cell 17
    have f1_8 := k1.free 8
    have f1_9 := k1.free 9
    have f1_10 := k1.free 10
    have f1_11 := k1.free 11
    have f1_12 := k1.free 12
    have f1_13 := k1.free 13
    have f1_14 := k1.free 14
    have f1_15 := k1.free 15
    have f1_17 := k1.free 17
    have l1 := k1.lt
    have c2_0 : U3.cell? ⟨w.heap.size, 0, none⟩ = some (.int .u64 (wd0 x)) := k2.cell 0
    have c2_1 : U3.cell? ⟨w.heap.size, 1, none⟩ = some (.int .u64 (wd1 x)) := k2.cell 1
    have c2_2 : U3.cell? ⟨w.heap.size, 2, none⟩ = some (.int .u64 (wd2 x)) := k2.cell 2
    have c2_3 : U3.cell? ⟨w.heap.size, 3, none⟩ = some (.int .u64 (wd3 x)) := k2.cell 3
    have c2_4 : U3.cell? ⟨w.heap.size, 4, none⟩ = some (.int .u64 (wd0 y)) := k2.cell 4
    have c2_5 : U3.cell? ⟨w.heap.size, 5, none⟩ = some (.int .u64 (wd1 y)) := k2.cell 5
    have c2_6 : U3.cell? ⟨w.heap.size, 6, none⟩ = some (.int .u64 (wd2 y)) := k2.cell 6
    have c2_7 : U3.cell? ⟨w.heap.size, 7, none⟩ = some (.int .u64 (wd3 y)) := k2.cell 7
    have l2 := k2.lt
    have p2_1 : w.heap.size ≠ bp := (by have := HBL.out; omega)
    have e0 : fn = R0 := by rw [← HR0.out]; unfold tofn; (try rw [Hr1.out]); (try rw [hz2]); all_goals first | rfl | simp
    have e1 : fd = R1 := by rw [← HR1.out]; unfold tofd; (try rw [Hr1.out]); (try rw [hz2]); all_goals first | rfl | simp
    have e2 : x = R2 := by rw [← HR2.out]; unfold totn; (try rw [Hr1.out]); (try rw [hz2]); all_goals first | rfl | simp
    have e3 : y = R3 := by rw [← HR3.out]; unfold totd; (try rw [Hr1.out]); (try rw [hz2]); all_goals first | rfl | simp
    have e4 : fo = R4 := by rw [← HR4.out]; unfold tofo; (try rw [Hr1.out]); (try rw [hz2]); all_goals first | rfl | simp
    have e5 : o = R5 := by rw [← HR5.out]; unfold toto; (try rw [Hr1.out]); (try rw [hz2]); all_goals first | rfl | simp
    subst e0
    subst e1
    subst e2
    subst e3
    subst e4
    subst e5
    go_wp2
    clear c1_8 c1_9 c1_10 c1_11 c1_12 c1_13 c1_14 c1_15 c1_17 f1_8 f1_9 f1_10 f1_11 f1_12 f1_13 f1_14 f1_15 f1_17 l1 c2_0 c2_1 c2_2 c2_3 c2_4 c2_5 c2_6 c2_7 l2 p2_1
    first | refine post_world ?_
    intro V6 hV6
    clear k2
    have D5 := Lib.hid k1.lt
    have D6 := Lib.hid hb0.size
    have nk1 : Blk V6 bp #[.int .u64 (wd0 fn), .int .u64 (wd1 fn), .int .u64 (wd2 fn), .int .u64 (wd3 fn), .int .u64 (wd0 fd), .int .u64 (wd1 fd), .int .u64 (wd2 fd), .int .u64 (wd3 fd), .int .u64 (wd0 x), .int .u64 (wd1 x), .int .u64 (wd2 x), .int .u64 (wd3 x), .int .u64 (wd0 y), .int .u64 (wd1 y), .int .u64 (wd2 y), .int .u64 (wd3 y), .bool fo, .bool o] 54 := by rw [hV6]; exact blk_eq ((blk_putL (blk_putL k1 8 [.int .u64 (wd0 x), .int .u64 (wd1 x), .int .u64 (wd2 x), .int .u64 (wd3 x), .int .u64 (wd0 y), .int .u64 (wd1 y), .int .u64 (wd2 y), .int .u64 (wd3 y)]) 17 [.bool o])) (by kernel_rfl)
    have nhb0 : Below bp w V6 := by rw [hV6]; exact (blw_setL (blw_setL hb0 (by have := HBL.out; omega) 8 [.int .u64 (wd0 x), .int .u64 (wd1 x), .int .u64 (wd2 x), .int .u64 (wd3 x), .int .u64 (wd0 y), .int .u64 (wd1 y), .int .u64 (wd2 y), .int .u64 (wd3 y)]) (by have := HBL.out; omega) 17 [.bool o])
    clear k1
    clear hb0
    clear hV6
    have k1 := nk1
    clear nk1
    have hb0 := nhb0
    clear nhb0
    go_end0
    first | exact ⟨k1, hb0⟩ | exact ⟨rfl, k1, hb0⟩

def smk_ (fn : Int) (fd : Int) (tn : Int) (td : Int) (fo : Bool) (to : Bool) : Bool := (bif decide ((pxl fn fd tn td) < 0) then true else (bif ((pxl fn fd tn td) == 0) then (bif fo then false else (!to)) else false))

def smfn (fn : Int) (_fd : Int) (_tn : Int) (_td : Int) (_fo : Bool) (_to : Bool) : Int := fn

def smfd (_fn : Int) (fd : Int) (_tn : Int) (_td : Int) (_fo : Bool) (_to : Bool) : Int := fd

def smtn (_fn : Int) (_fd : Int) (tn : Int) (_td : Int) (_fo : Bool) (_to : Bool) : Int := tn

def smtd (_fn : Int) (_fd : Int) (_tn : Int) (td : Int) (_fo : Bool) (_to : Bool) : Int := td

def smfo (fn : Int) (fd : Int) (tn : Int) (td : Int) (fo : Bool) (_to : Bool) : Bool := (bif decide ((pxl fn fd tn td) < 0) then fo else (bif ((pxl fn fd tn td) == 0) then (bif fo then true else false) else fo))

def smto (_fn : Int) (_fd : Int) (_tn : Int) (_td : Int) (_fo : Bool) (to : Bool) : Bool := to

set_option maxRecDepth 100000 in
set_option maxHeartbeats 4000000 in

theorem pxsm_is (fn : Int) (fd : Int) (tn : Int) (td : Int) (fo : Bool) (to : Bool)  (R0 : Bool) (R1 : Int) (R2 : Int) (R3 : Int) (R4 : Int) (R5 : Bool) (R6 : Bool) (hR0 : smk_ fn fd tn td fo to = R0) (hR1 : smfn fn fd tn td fo to = R1) (hR2 : smfd fn fd tn td fo to = R2) (hR3 : smtn fn fd tn td fo to = R3) (hR4 : smtd fn fd tn td fo to = R4) (hR5 : smfo fn fd tn td fo to = R5) (hR6 : smto fn fd tn td fo to = R6) (_ifn : InI fn) (_ifd : InI fd) (_itn : InI tn) (_itd : InI td) (bp : Nat) (w : World) (hkp : Blk w bp #[.int .u64 (wd0 fn), .int .u64 (wd1 fn), .int .u64 (wd2 fn), .int .u64 (wd3 fn), .int .u64 (wd0 fd), .int .u64 (wd1 fd), .int .u64 (wd2 fd), .int .u64 (wd3 fd), .int .u64 (wd0 tn), .int .u64 (wd1 tn), .int .u64 (wd2 tn), .int .u64 (wd3 tn), .int .u64 (wd0 td), .int .u64 (wd1 td), .int .u64 (wd2 td), .int .u64 (wd3 td), .bool fo, .bool to] 54) :
    Calls Try.prog 94 #[.pointer (some ⟨bp, 0, none⟩)] w fun e w' => e = .returned (.bool R0) ∧ Blk w' bp #[.int .u64 (wd0 R1), .int .u64 (wd1 R1), .int .u64 (wd2 R1), .int .u64 (wd3 R1), .int .u64 (wd0 R2), .int .u64 (wd1 R2), .int .u64 (wd2 R2), .int .u64 (wd3 R2), .int .u64 (wd0 R3), .int .u64 (wd1 R3), .int .u64 (wd2 R3), .int .u64 (wd3 R3), .int .u64 (wd0 R4), .int .u64 (wd1 R4), .int .u64 (wd2 R4), .int .u64 (wd3 R4), .bool R5, .bool R6] 54 ∧ Below bp w w' := by

  have HBL := Lib.hid hkp.lt
  have k1 := hkp
  clear hkp
  have HR0 := Lib.hid hR0
  clear hR0
  have HR1 := Lib.hid hR1
  clear hR1
  have HR2 := Lib.hid hR2
  clear hR2
  have HR3 := Lib.hid hR3
  clear hR3
  have HR4 := Lib.hid hR4
  clear hR4
  have HR5 := Lib.hid hR5
  clear hR5
  have HR6 := Lib.hid hR6
  clear hR6
  go_enter Try.func94, Try.ntmps94
  go_wp2_with fail
  have c1_0 : w.cell? ⟨bp, 0, none⟩ = some (.int .u64 (wd0 fn)) := k1.cell 0
  have c1_1 : w.cell? ⟨bp, 1, none⟩ = some (.int .u64 (wd1 fn)) := k1.cell 1
  have c1_2 : w.cell? ⟨bp, 2, none⟩ = some (.int .u64 (wd2 fn)) := k1.cell 2
  have c1_3 : w.cell? ⟨bp, 3, none⟩ = some (.int .u64 (wd3 fn)) := k1.cell 3
  have c1_4 : w.cell? ⟨bp, 4, none⟩ = some (.int .u64 (wd0 fd)) := k1.cell 4
  have c1_5 : w.cell? ⟨bp, 5, none⟩ = some (.int .u64 (wd1 fd)) := k1.cell 5
  have c1_6 : w.cell? ⟨bp, 6, none⟩ = some (.int .u64 (wd2 fd)) := k1.cell 6
  have c1_7 : w.cell? ⟨bp, 7, none⟩ = some (.int .u64 (wd3 fd)) := k1.cell 7
  have c1_8 : w.cell? ⟨bp, 8, none⟩ = some (.int .u64 (wd0 tn)) := k1.cell 8
  have c1_9 : w.cell? ⟨bp, 9, none⟩ = some (.int .u64 (wd1 tn)) := k1.cell 9
  have c1_10 : w.cell? ⟨bp, 10, none⟩ = some (.int .u64 (wd2 tn)) := k1.cell 10
  have c1_11 : w.cell? ⟨bp, 11, none⟩ = some (.int .u64 (wd3 tn)) := k1.cell 11
  have c1_12 : w.cell? ⟨bp, 12, none⟩ = some (.int .u64 (wd0 td)) := k1.cell 12
  have c1_13 : w.cell? ⟨bp, 13, none⟩ = some (.int .u64 (wd1 td)) := k1.cell 13
  have c1_14 : w.cell? ⟨bp, 14, none⟩ = some (.int .u64 (wd2 td)) := k1.cell 14
  have c1_15 : w.cell? ⟨bp, 15, none⟩ = some (.int .u64 (wd3 td)) := k1.cell 15
  have l1 := k1.lt
  have Kk1 := Lib.hid k1
  clear k1
  refine wp_region_up w.heap.size 8 [(true, 0), (true, 1), (true, 2), (true, 3), (true, 4), (true, 5), (true, 6), (true, 7)] (by kernel_rfl) (by kernel_rfl) (fun _ _ d _ _ h => by cases d <;> exact h) ?_
  have hb : Below w.heap.size w w.drew := (Below.refl _ _).drew
  iterate 8
    first | refine wpS_takeL rfl rfl ?_ | refine wpS_takeN rfl ⟨_, rfl⟩ ?_
    go_big_quiet_step (rfl)
    refine wpQuiet_nil ?_
  refine wpS_nil ?_
  simp only [List.drop_succ_cons, List.drop_zero]
  first | refine calls_w ?_ | refine name_world ?_ | refine list_world ?_ | refine post_world ?_
  intro U1 hU1
  first | (subst hU1; have u_ := U1; clear u_) | (rw [← hU1] at hb; clear hU1)
  clear c1_0 c1_1 c1_2 c1_3 c1_4 c1_5 c1_6 c1_7 c1_8 c1_9 c1_10 c1_11 c1_12 c1_13 c1_14 c1_15 l1
  have k1 := Kk1.out.of hb
  clear Kk1
  have hb0 := hb.mono (Nat.le_of_lt HBL.out)
  clear hb
  go_wp2_with fail
  obtain ⟨r1, hr1⟩ : ∃ o_o : Int, pxl fn fd tn td = o_o := ⟨_, rfl⟩
  have Hr1 := Lib.hid hr1
  clear hr1
  refine (pxls_is fn fd tn td r1 Hr1.out _ifn _ifd _itn _itd  _).mono ?_
  rintro e U2 ⟨rfl, hn⟩
  replace k1 := k1.of hn
  replace hb0 := hb0.trans (hn.mono (Nat.le_trans (Nat.le_of_lt HBL.out) hb0.size))
  clear hn
  obtain ⟨z2, hz2⟩ : ∃ o_o : Bool, decide (r1 < 0) = o_o := ⟨_, rfl⟩
  cases z2
  · obtain ⟨z3, hz3⟩ : ∃ o_o : Bool, (r1 == 0) = o_o := ⟨_, rfl⟩
    cases z3
    · have nz3 : ¬ r1 = 0 := by simpa using hz3
      have e0 : false = R0 := by rw [← HR0.out]; unfold smk_; (try rw [Hr1.out]); (try rw [hz2]); (try rw [hz3]); all_goals first | rfl | simp
      have e1 : fn = R1 := by rw [← HR1.out]; unfold smfn; (try rw [Hr1.out]); (try rw [hz2]); (try rw [hz3]); all_goals first | rfl | simp
      have e2 : fd = R2 := by rw [← HR2.out]; unfold smfd; (try rw [Hr1.out]); (try rw [hz2]); (try rw [hz3]); all_goals first | rfl | simp
      have e3 : tn = R3 := by rw [← HR3.out]; unfold smtn; (try rw [Hr1.out]); (try rw [hz2]); (try rw [hz3]); all_goals first | rfl | simp
      have e4 : td = R4 := by rw [← HR4.out]; unfold smtd; (try rw [Hr1.out]); (try rw [hz2]); (try rw [hz3]); all_goals first | rfl | simp
      have e5 : fo = R5 := by rw [← HR5.out]; unfold smfo; (try rw [Hr1.out]); (try rw [hz2]); (try rw [hz3]); all_goals first | rfl | simp
      have e6 : to = R6 := by rw [← HR6.out]; unfold smto; (try rw [Hr1.out]); (try rw [hz2]); (try rw [hz3]); all_goals first | rfl | simp
      subst e0
      subst e1
      subst e2
      subst e3
      subst e4
      subst e5
      subst e6
      go_wp2
      first | go_ret | go_ret2
      exact ⟨by first | rfl | simp, k1, hb0⟩
    · obtain rfl : r1 = 0 := by simpa using hz3
      clear hz3
      cases fo
      · have c1_16 : U2.cell? ⟨bp, 16, none⟩ = some (.bool false) := k1.cell 16
        have c1_17 : U2.cell? ⟨bp, 17, none⟩ = some (.bool to) := k1.cell 17
        have l1 := k1.lt
        have e0 : (!to) = R0 := by rw [← HR0.out]; unfold smk_; (try rw [Hr1.out]); (try rw [hz2]); all_goals first | rfl | simp
        have e1 : fn = R1 := by rw [← HR1.out]; unfold smfn; (try rw [Hr1.out]); (try rw [hz2]); all_goals first | rfl | simp
        have e2 : fd = R2 := by rw [← HR2.out]; unfold smfd; (try rw [Hr1.out]); (try rw [hz2]); all_goals first | rfl | simp
        have e3 : tn = R3 := by rw [← HR3.out]; unfold smtn; (try rw [Hr1.out]); (try rw [hz2]); all_goals first | rfl | simp
        have e4 : td = R4 := by rw [← HR4.out]; unfold smtd; (try rw [Hr1.out]); (try rw [hz2]); all_goals first | rfl | simp
        have e5 : false = R5 := by rw [← HR5.out]; unfold smfo; (try rw [Hr1.out]); (try rw [hz2]); all_goals first | rfl | simp
        have e6 : to = R6 := by rw [← HR6.out]; unfold smto; (try rw [Hr1.out]); (try rw [hz2]); all_goals first | rfl | simp
        subst e0
        subst e1
        subst e2
        subst e3
        subst e4
        subst e5
        subst e6
        go_wp2
        clear c1_16 c1_17 l1
        first | go_ret | go_ret2
        exact ⟨by first | rfl | simp, k1, hb0⟩
      · have c1_16 : U2.cell? ⟨bp, 16, none⟩ = some (.bool true) := k1.cell 16
        have l1 := k1.lt
        have e0 : false = R0 := by rw [← HR0.out]; unfold smk_; (try rw [Hr1.out]); (try rw [hz2]); all_goals first | rfl | simp
        have e1 : fn = R1 := by rw [← HR1.out]; unfold smfn; (try rw [Hr1.out]); (try rw [hz2]); all_goals first | rfl | simp
        have e2 : fd = R2 := by rw [← HR2.out]; unfold smfd; (try rw [Hr1.out]); (try rw [hz2]); all_goals first | rfl | simp
        have e3 : tn = R3 := by rw [← HR3.out]; unfold smtn; (try rw [Hr1.out]); (try rw [hz2]); all_goals first | rfl | simp
        have e4 : td = R4 := by rw [← HR4.out]; unfold smtd; (try rw [Hr1.out]); (try rw [hz2]); all_goals first | rfl | simp
        have e5 : true = R5 := by rw [← HR5.out]; unfold smfo; (try rw [Hr1.out]); (try rw [hz2]); all_goals first | rfl | simp
        have e6 : to = R6 := by rw [← HR6.out]; unfold smto; (try rw [Hr1.out]); (try rw [hz2]); all_goals first | rfl | simp
        subst e0
        subst e1
        subst e2
        subst e3
        subst e4
        subst e5
        subst e6
        go_wp2
        clear c1_16 l1
        first | go_ret | go_ret2
        exact ⟨by first | rfl | simp, k1, hb0⟩
  · have e0 : true = R0 := by rw [← HR0.out]; unfold smk_; (try rw [Hr1.out]); (try rw [hz2]); all_goals first | rfl | simp
    have e1 : fn = R1 := by rw [← HR1.out]; unfold smfn; (try rw [Hr1.out]); (try rw [hz2]); all_goals first | rfl | simp
    have e2 : fd = R2 := by rw [← HR2.out]; unfold smfd; (try rw [Hr1.out]); (try rw [hz2]); all_goals first | rfl | simp
    have e3 : tn = R3 := by rw [← HR3.out]; unfold smtn; (try rw [Hr1.out]); (try rw [hz2]); all_goals first | rfl | simp
    have e4 : td = R4 := by rw [← HR4.out]; unfold smtd; (try rw [Hr1.out]); (try rw [hz2]); all_goals first | rfl | simp
    have e5 : fo = R5 := by rw [← HR5.out]; unfold smfo; (try rw [Hr1.out]); (try rw [hz2]); all_goals first | rfl | simp
    have e6 : to = R6 := by rw [← HR6.out]; unfold smto; (try rw [Hr1.out]); (try rw [hz2]); all_goals first | rfl | simp
    subst e0
    subst e1
    subst e2
    subst e3
    subst e4
    subst e5
    subst e6
    go_wp2
    first | go_ret | go_ret2
    exact ⟨by first | rfl | simp, k1, hb0⟩
end Go.Proofs.Ytlcbomjdbdgbmaa

namespace Go.Proofs.Ytlcbomjdbdgbmaa
open Go.RowKit

def bak (_fn : Int) (_fd : Int) (_tn : Int) (_td : Int) (_fo : Bool) (_to : Bool) (a : Int) (b : Int) (c : Int) (d : Int) : Bool := (bif decide (0 < (wrap64 (2 * b))) then true else (bif decide ((wrap64 (2 * b)) < 0) then true else (bif decide (c ≤ (wrap64 (2 * a))) then decide ((wrap64 (2 * a)) < d) else false)))

def bafn (fn : Int) (fd : Int) (tn : Int) (td : Int) (fo : Bool) (to : Bool) (a : Int) (b : Int) (c : Int) (d : Int) : Int := (bif decide (0 < (wrap64 (2 * b))) then (tofn (frfn fn fd tn td fo to (pxbn (wrap64 (c - (wrap64 (2 * a)))) (wrap64 (2 * b))) (pxbd (wrap64 (c - (wrap64 (2 * a)))) (wrap64 (2 * b))) false) (frfd fn fd tn td fo to (pxbn (wrap64 (c - (wrap64 (2 * a)))) (wrap64 (2 * b))) (pxbd (wrap64 (c - (wrap64 (2 * a)))) (wrap64 (2 * b))) false) (frtn fn fd tn td fo to (pxbn (wrap64 (c - (wrap64 (2 * a)))) (wrap64 (2 * b))) (pxbd (wrap64 (c - (wrap64 (2 * a)))) (wrap64 (2 * b))) false) (frtd fn fd tn td fo to (pxbn (wrap64 (c - (wrap64 (2 * a)))) (wrap64 (2 * b))) (pxbd (wrap64 (c - (wrap64 (2 * a)))) (wrap64 (2 * b))) false) (frfo fn fd tn td fo to (pxbn (wrap64 (c - (wrap64 (2 * a)))) (wrap64 (2 * b))) (pxbd (wrap64 (c - (wrap64 (2 * a)))) (wrap64 (2 * b))) false) (frto fn fd tn td fo to (pxbn (wrap64 (c - (wrap64 (2 * a)))) (wrap64 (2 * b))) (pxbd (wrap64 (c - (wrap64 (2 * a)))) (wrap64 (2 * b))) false) (pxbn (wrap64 (d - (wrap64 (2 * a)))) (wrap64 (2 * b))) (pxbd (wrap64 (d - (wrap64 (2 * a)))) (wrap64 (2 * b))) true) else (bif decide ((wrap64 (2 * b)) < 0) then (tofn (frfn fn fd tn td fo to (pxbn (wrap64 ((wrap64 (2 * a)) - d)) (wrap64 (-(wrap64 (2 * b))))) (pxbd (wrap64 ((wrap64 (2 * a)) - d)) (wrap64 (-(wrap64 (2 * b))))) true) (frfd fn fd tn td fo to (pxbn (wrap64 ((wrap64 (2 * a)) - d)) (wrap64 (-(wrap64 (2 * b))))) (pxbd (wrap64 ((wrap64 (2 * a)) - d)) (wrap64 (-(wrap64 (2 * b))))) true) (frtn fn fd tn td fo to (pxbn (wrap64 ((wrap64 (2 * a)) - d)) (wrap64 (-(wrap64 (2 * b))))) (pxbd (wrap64 ((wrap64 (2 * a)) - d)) (wrap64 (-(wrap64 (2 * b))))) true) (frtd fn fd tn td fo to (pxbn (wrap64 ((wrap64 (2 * a)) - d)) (wrap64 (-(wrap64 (2 * b))))) (pxbd (wrap64 ((wrap64 (2 * a)) - d)) (wrap64 (-(wrap64 (2 * b))))) true) (frfo fn fd tn td fo to (pxbn (wrap64 ((wrap64 (2 * a)) - d)) (wrap64 (-(wrap64 (2 * b))))) (pxbd (wrap64 ((wrap64 (2 * a)) - d)) (wrap64 (-(wrap64 (2 * b))))) true) (frto fn fd tn td fo to (pxbn (wrap64 ((wrap64 (2 * a)) - d)) (wrap64 (-(wrap64 (2 * b))))) (pxbd (wrap64 ((wrap64 (2 * a)) - d)) (wrap64 (-(wrap64 (2 * b))))) true) (pxbn (wrap64 ((wrap64 (2 * a)) - c)) (wrap64 (-(wrap64 (2 * b))))) (pxbd (wrap64 ((wrap64 (2 * a)) - c)) (wrap64 (-(wrap64 (2 * b))))) false) else fn))

def bafd (fn : Int) (fd : Int) (tn : Int) (td : Int) (fo : Bool) (to : Bool) (a : Int) (b : Int) (c : Int) (d : Int) : Int := (bif decide (0 < (wrap64 (2 * b))) then (tofd (frfn fn fd tn td fo to (pxbn (wrap64 (c - (wrap64 (2 * a)))) (wrap64 (2 * b))) (pxbd (wrap64 (c - (wrap64 (2 * a)))) (wrap64 (2 * b))) false) (frfd fn fd tn td fo to (pxbn (wrap64 (c - (wrap64 (2 * a)))) (wrap64 (2 * b))) (pxbd (wrap64 (c - (wrap64 (2 * a)))) (wrap64 (2 * b))) false) (frtn fn fd tn td fo to (pxbn (wrap64 (c - (wrap64 (2 * a)))) (wrap64 (2 * b))) (pxbd (wrap64 (c - (wrap64 (2 * a)))) (wrap64 (2 * b))) false) (frtd fn fd tn td fo to (pxbn (wrap64 (c - (wrap64 (2 * a)))) (wrap64 (2 * b))) (pxbd (wrap64 (c - (wrap64 (2 * a)))) (wrap64 (2 * b))) false) (frfo fn fd tn td fo to (pxbn (wrap64 (c - (wrap64 (2 * a)))) (wrap64 (2 * b))) (pxbd (wrap64 (c - (wrap64 (2 * a)))) (wrap64 (2 * b))) false) (frto fn fd tn td fo to (pxbn (wrap64 (c - (wrap64 (2 * a)))) (wrap64 (2 * b))) (pxbd (wrap64 (c - (wrap64 (2 * a)))) (wrap64 (2 * b))) false) (pxbn (wrap64 (d - (wrap64 (2 * a)))) (wrap64 (2 * b))) (pxbd (wrap64 (d - (wrap64 (2 * a)))) (wrap64 (2 * b))) true) else (bif decide ((wrap64 (2 * b)) < 0) then (tofd (frfn fn fd tn td fo to (pxbn (wrap64 ((wrap64 (2 * a)) - d)) (wrap64 (-(wrap64 (2 * b))))) (pxbd (wrap64 ((wrap64 (2 * a)) - d)) (wrap64 (-(wrap64 (2 * b))))) true) (frfd fn fd tn td fo to (pxbn (wrap64 ((wrap64 (2 * a)) - d)) (wrap64 (-(wrap64 (2 * b))))) (pxbd (wrap64 ((wrap64 (2 * a)) - d)) (wrap64 (-(wrap64 (2 * b))))) true) (frtn fn fd tn td fo to (pxbn (wrap64 ((wrap64 (2 * a)) - d)) (wrap64 (-(wrap64 (2 * b))))) (pxbd (wrap64 ((wrap64 (2 * a)) - d)) (wrap64 (-(wrap64 (2 * b))))) true) (frtd fn fd tn td fo to (pxbn (wrap64 ((wrap64 (2 * a)) - d)) (wrap64 (-(wrap64 (2 * b))))) (pxbd (wrap64 ((wrap64 (2 * a)) - d)) (wrap64 (-(wrap64 (2 * b))))) true) (frfo fn fd tn td fo to (pxbn (wrap64 ((wrap64 (2 * a)) - d)) (wrap64 (-(wrap64 (2 * b))))) (pxbd (wrap64 ((wrap64 (2 * a)) - d)) (wrap64 (-(wrap64 (2 * b))))) true) (frto fn fd tn td fo to (pxbn (wrap64 ((wrap64 (2 * a)) - d)) (wrap64 (-(wrap64 (2 * b))))) (pxbd (wrap64 ((wrap64 (2 * a)) - d)) (wrap64 (-(wrap64 (2 * b))))) true) (pxbn (wrap64 ((wrap64 (2 * a)) - c)) (wrap64 (-(wrap64 (2 * b))))) (pxbd (wrap64 ((wrap64 (2 * a)) - c)) (wrap64 (-(wrap64 (2 * b))))) false) else fd))

def batn (fn : Int) (fd : Int) (tn : Int) (td : Int) (fo : Bool) (to : Bool) (a : Int) (b : Int) (c : Int) (d : Int) : Int := (bif decide (0 < (wrap64 (2 * b))) then (totn (frfn fn fd tn td fo to (pxbn (wrap64 (c - (wrap64 (2 * a)))) (wrap64 (2 * b))) (pxbd (wrap64 (c - (wrap64 (2 * a)))) (wrap64 (2 * b))) false) (frfd fn fd tn td fo to (pxbn (wrap64 (c - (wrap64 (2 * a)))) (wrap64 (2 * b))) (pxbd (wrap64 (c - (wrap64 (2 * a)))) (wrap64 (2 * b))) false) (frtn fn fd tn td fo to (pxbn (wrap64 (c - (wrap64 (2 * a)))) (wrap64 (2 * b))) (pxbd (wrap64 (c - (wrap64 (2 * a)))) (wrap64 (2 * b))) false) (frtd fn fd tn td fo to (pxbn (wrap64 (c - (wrap64 (2 * a)))) (wrap64 (2 * b))) (pxbd (wrap64 (c - (wrap64 (2 * a)))) (wrap64 (2 * b))) false) (frfo fn fd tn td fo to (pxbn (wrap64 (c - (wrap64 (2 * a)))) (wrap64 (2 * b))) (pxbd (wrap64 (c - (wrap64 (2 * a)))) (wrap64 (2 * b))) false) (frto fn fd tn td fo to (pxbn (wrap64 (c - (wrap64 (2 * a)))) (wrap64 (2 * b))) (pxbd (wrap64 (c - (wrap64 (2 * a)))) (wrap64 (2 * b))) false) (pxbn (wrap64 (d - (wrap64 (2 * a)))) (wrap64 (2 * b))) (pxbd (wrap64 (d - (wrap64 (2 * a)))) (wrap64 (2 * b))) true) else (bif decide ((wrap64 (2 * b)) < 0) then (totn (frfn fn fd tn td fo to (pxbn (wrap64 ((wrap64 (2 * a)) - d)) (wrap64 (-(wrap64 (2 * b))))) (pxbd (wrap64 ((wrap64 (2 * a)) - d)) (wrap64 (-(wrap64 (2 * b))))) true) (frfd fn fd tn td fo to (pxbn (wrap64 ((wrap64 (2 * a)) - d)) (wrap64 (-(wrap64 (2 * b))))) (pxbd (wrap64 ((wrap64 (2 * a)) - d)) (wrap64 (-(wrap64 (2 * b))))) true) (frtn fn fd tn td fo to (pxbn (wrap64 ((wrap64 (2 * a)) - d)) (wrap64 (-(wrap64 (2 * b))))) (pxbd (wrap64 ((wrap64 (2 * a)) - d)) (wrap64 (-(wrap64 (2 * b))))) true) (frtd fn fd tn td fo to (pxbn (wrap64 ((wrap64 (2 * a)) - d)) (wrap64 (-(wrap64 (2 * b))))) (pxbd (wrap64 ((wrap64 (2 * a)) - d)) (wrap64 (-(wrap64 (2 * b))))) true) (frfo fn fd tn td fo to (pxbn (wrap64 ((wrap64 (2 * a)) - d)) (wrap64 (-(wrap64 (2 * b))))) (pxbd (wrap64 ((wrap64 (2 * a)) - d)) (wrap64 (-(wrap64 (2 * b))))) true) (frto fn fd tn td fo to (pxbn (wrap64 ((wrap64 (2 * a)) - d)) (wrap64 (-(wrap64 (2 * b))))) (pxbd (wrap64 ((wrap64 (2 * a)) - d)) (wrap64 (-(wrap64 (2 * b))))) true) (pxbn (wrap64 ((wrap64 (2 * a)) - c)) (wrap64 (-(wrap64 (2 * b))))) (pxbd (wrap64 ((wrap64 (2 * a)) - c)) (wrap64 (-(wrap64 (2 * b))))) false) else tn))

def batd (fn : Int) (fd : Int) (tn : Int) (td : Int) (fo : Bool) (to : Bool) (a : Int) (b : Int) (c : Int) (d : Int) : Int := (bif decide (0 < (wrap64 (2 * b))) then (totd (frfn fn fd tn td fo to (pxbn (wrap64 (c - (wrap64 (2 * a)))) (wrap64 (2 * b))) (pxbd (wrap64 (c - (wrap64 (2 * a)))) (wrap64 (2 * b))) false) (frfd fn fd tn td fo to (pxbn (wrap64 (c - (wrap64 (2 * a)))) (wrap64 (2 * b))) (pxbd (wrap64 (c - (wrap64 (2 * a)))) (wrap64 (2 * b))) false) (frtn fn fd tn td fo to (pxbn (wrap64 (c - (wrap64 (2 * a)))) (wrap64 (2 * b))) (pxbd (wrap64 (c - (wrap64 (2 * a)))) (wrap64 (2 * b))) false) (frtd fn fd tn td fo to (pxbn (wrap64 (c - (wrap64 (2 * a)))) (wrap64 (2 * b))) (pxbd (wrap64 (c - (wrap64 (2 * a)))) (wrap64 (2 * b))) false) (frfo fn fd tn td fo to (pxbn (wrap64 (c - (wrap64 (2 * a)))) (wrap64 (2 * b))) (pxbd (wrap64 (c - (wrap64 (2 * a)))) (wrap64 (2 * b))) false) (frto fn fd tn td fo to (pxbn (wrap64 (c - (wrap64 (2 * a)))) (wrap64 (2 * b))) (pxbd (wrap64 (c - (wrap64 (2 * a)))) (wrap64 (2 * b))) false) (pxbn (wrap64 (d - (wrap64 (2 * a)))) (wrap64 (2 * b))) (pxbd (wrap64 (d - (wrap64 (2 * a)))) (wrap64 (2 * b))) true) else (bif decide ((wrap64 (2 * b)) < 0) then (totd (frfn fn fd tn td fo to (pxbn (wrap64 ((wrap64 (2 * a)) - d)) (wrap64 (-(wrap64 (2 * b))))) (pxbd (wrap64 ((wrap64 (2 * a)) - d)) (wrap64 (-(wrap64 (2 * b))))) true) (frfd fn fd tn td fo to (pxbn (wrap64 ((wrap64 (2 * a)) - d)) (wrap64 (-(wrap64 (2 * b))))) (pxbd (wrap64 ((wrap64 (2 * a)) - d)) (wrap64 (-(wrap64 (2 * b))))) true) (frtn fn fd tn td fo to (pxbn (wrap64 ((wrap64 (2 * a)) - d)) (wrap64 (-(wrap64 (2 * b))))) (pxbd (wrap64 ((wrap64 (2 * a)) - d)) (wrap64 (-(wrap64 (2 * b))))) true) (frtd fn fd tn td fo to (pxbn (wrap64 ((wrap64 (2 * a)) - d)) (wrap64 (-(wrap64 (2 * b))))) (pxbd (wrap64 ((wrap64 (2 * a)) - d)) (wrap64 (-(wrap64 (2 * b))))) true) (frfo fn fd tn td fo to (pxbn (wrap64 ((wrap64 (2 * a)) - d)) (wrap64 (-(wrap64 (2 * b))))) (pxbd (wrap64 ((wrap64 (2 * a)) - d)) (wrap64 (-(wrap64 (2 * b))))) true) (frto fn fd tn td fo to (pxbn (wrap64 ((wrap64 (2 * a)) - d)) (wrap64 (-(wrap64 (2 * b))))) (pxbd (wrap64 ((wrap64 (2 * a)) - d)) (wrap64 (-(wrap64 (2 * b))))) true) (pxbn (wrap64 ((wrap64 (2 * a)) - c)) (wrap64 (-(wrap64 (2 * b))))) (pxbd (wrap64 ((wrap64 (2 * a)) - c)) (wrap64 (-(wrap64 (2 * b))))) false) else td))

def bafo (fn : Int) (fd : Int) (tn : Int) (td : Int) (fo : Bool) (to : Bool) (a : Int) (b : Int) (c : Int) (d : Int) : Bool := (bif decide (0 < (wrap64 (2 * b))) then (tofo (frfn fn fd tn td fo to (pxbn (wrap64 (c - (wrap64 (2 * a)))) (wrap64 (2 * b))) (pxbd (wrap64 (c - (wrap64 (2 * a)))) (wrap64 (2 * b))) false) (frfd fn fd tn td fo to (pxbn (wrap64 (c - (wrap64 (2 * a)))) (wrap64 (2 * b))) (pxbd (wrap64 (c - (wrap64 (2 * a)))) (wrap64 (2 * b))) false) (frtn fn fd tn td fo to (pxbn (wrap64 (c - (wrap64 (2 * a)))) (wrap64 (2 * b))) (pxbd (wrap64 (c - (wrap64 (2 * a)))) (wrap64 (2 * b))) false) (frtd fn fd tn td fo to (pxbn (wrap64 (c - (wrap64 (2 * a)))) (wrap64 (2 * b))) (pxbd (wrap64 (c - (wrap64 (2 * a)))) (wrap64 (2 * b))) false) (frfo fn fd tn td fo to (pxbn (wrap64 (c - (wrap64 (2 * a)))) (wrap64 (2 * b))) (pxbd (wrap64 (c - (wrap64 (2 * a)))) (wrap64 (2 * b))) false) (frto fn fd tn td fo to (pxbn (wrap64 (c - (wrap64 (2 * a)))) (wrap64 (2 * b))) (pxbd (wrap64 (c - (wrap64 (2 * a)))) (wrap64 (2 * b))) false) (pxbn (wrap64 (d - (wrap64 (2 * a)))) (wrap64 (2 * b))) (pxbd (wrap64 (d - (wrap64 (2 * a)))) (wrap64 (2 * b))) true) else (bif decide ((wrap64 (2 * b)) < 0) then (tofo (frfn fn fd tn td fo to (pxbn (wrap64 ((wrap64 (2 * a)) - d)) (wrap64 (-(wrap64 (2 * b))))) (pxbd (wrap64 ((wrap64 (2 * a)) - d)) (wrap64 (-(wrap64 (2 * b))))) true) (frfd fn fd tn td fo to (pxbn (wrap64 ((wrap64 (2 * a)) - d)) (wrap64 (-(wrap64 (2 * b))))) (pxbd (wrap64 ((wrap64 (2 * a)) - d)) (wrap64 (-(wrap64 (2 * b))))) true) (frtn fn fd tn td fo to (pxbn (wrap64 ((wrap64 (2 * a)) - d)) (wrap64 (-(wrap64 (2 * b))))) (pxbd (wrap64 ((wrap64 (2 * a)) - d)) (wrap64 (-(wrap64 (2 * b))))) true) (frtd fn fd tn td fo to (pxbn (wrap64 ((wrap64 (2 * a)) - d)) (wrap64 (-(wrap64 (2 * b))))) (pxbd (wrap64 ((wrap64 (2 * a)) - d)) (wrap64 (-(wrap64 (2 * b))))) true) (frfo fn fd tn td fo to (pxbn (wrap64 ((wrap64 (2 * a)) - d)) (wrap64 (-(wrap64 (2 * b))))) (pxbd (wrap64 ((wrap64 (2 * a)) - d)) (wrap64 (-(wrap64 (2 * b))))) true) (frto fn fd tn td fo to (pxbn (wrap64 ((wrap64 (2 * a)) - d)) (wrap64 (-(wrap64 (2 * b))))) (pxbd (wrap64 ((wrap64 (2 * a)) - d)) (wrap64 (-(wrap64 (2 * b))))) true) (pxbn (wrap64 ((wrap64 (2 * a)) - c)) (wrap64 (-(wrap64 (2 * b))))) (pxbd (wrap64 ((wrap64 (2 * a)) - c)) (wrap64 (-(wrap64 (2 * b))))) false) else fo))

def bato (fn : Int) (fd : Int) (tn : Int) (td : Int) (fo : Bool) (to : Bool) (a : Int) (b : Int) (c : Int) (d : Int) : Bool := (bif decide (0 < (wrap64 (2 * b))) then (toto (frfn fn fd tn td fo to (pxbn (wrap64 (c - (wrap64 (2 * a)))) (wrap64 (2 * b))) (pxbd (wrap64 (c - (wrap64 (2 * a)))) (wrap64 (2 * b))) false) (frfd fn fd tn td fo to (pxbn (wrap64 (c - (wrap64 (2 * a)))) (wrap64 (2 * b))) (pxbd (wrap64 (c - (wrap64 (2 * a)))) (wrap64 (2 * b))) false) (frtn fn fd tn td fo to (pxbn (wrap64 (c - (wrap64 (2 * a)))) (wrap64 (2 * b))) (pxbd (wrap64 (c - (wrap64 (2 * a)))) (wrap64 (2 * b))) false) (frtd fn fd tn td fo to (pxbn (wrap64 (c - (wrap64 (2 * a)))) (wrap64 (2 * b))) (pxbd (wrap64 (c - (wrap64 (2 * a)))) (wrap64 (2 * b))) false) (frfo fn fd tn td fo to (pxbn (wrap64 (c - (wrap64 (2 * a)))) (wrap64 (2 * b))) (pxbd (wrap64 (c - (wrap64 (2 * a)))) (wrap64 (2 * b))) false) (frto fn fd tn td fo to (pxbn (wrap64 (c - (wrap64 (2 * a)))) (wrap64 (2 * b))) (pxbd (wrap64 (c - (wrap64 (2 * a)))) (wrap64 (2 * b))) false) (pxbn (wrap64 (d - (wrap64 (2 * a)))) (wrap64 (2 * b))) (pxbd (wrap64 (d - (wrap64 (2 * a)))) (wrap64 (2 * b))) true) else (bif decide ((wrap64 (2 * b)) < 0) then (toto (frfn fn fd tn td fo to (pxbn (wrap64 ((wrap64 (2 * a)) - d)) (wrap64 (-(wrap64 (2 * b))))) (pxbd (wrap64 ((wrap64 (2 * a)) - d)) (wrap64 (-(wrap64 (2 * b))))) true) (frfd fn fd tn td fo to (pxbn (wrap64 ((wrap64 (2 * a)) - d)) (wrap64 (-(wrap64 (2 * b))))) (pxbd (wrap64 ((wrap64 (2 * a)) - d)) (wrap64 (-(wrap64 (2 * b))))) true) (frtn fn fd tn td fo to (pxbn (wrap64 ((wrap64 (2 * a)) - d)) (wrap64 (-(wrap64 (2 * b))))) (pxbd (wrap64 ((wrap64 (2 * a)) - d)) (wrap64 (-(wrap64 (2 * b))))) true) (frtd fn fd tn td fo to (pxbn (wrap64 ((wrap64 (2 * a)) - d)) (wrap64 (-(wrap64 (2 * b))))) (pxbd (wrap64 ((wrap64 (2 * a)) - d)) (wrap64 (-(wrap64 (2 * b))))) true) (frfo fn fd tn td fo to (pxbn (wrap64 ((wrap64 (2 * a)) - d)) (wrap64 (-(wrap64 (2 * b))))) (pxbd (wrap64 ((wrap64 (2 * a)) - d)) (wrap64 (-(wrap64 (2 * b))))) true) (frto fn fd tn td fo to (pxbn (wrap64 ((wrap64 (2 * a)) - d)) (wrap64 (-(wrap64 (2 * b))))) (pxbd (wrap64 ((wrap64 (2 * a)) - d)) (wrap64 (-(wrap64 (2 * b))))) true) (pxbn (wrap64 ((wrap64 (2 * a)) - c)) (wrap64 (-(wrap64 (2 * b))))) (pxbd (wrap64 ((wrap64 (2 * a)) - c)) (wrap64 (-(wrap64 (2 * b))))) false) else to))

theorem bafn_in (fn : Int) (fd : Int) (tn : Int) (td : Int) (fo : Bool) (to : Bool) (a : Int) (b : Int) (c : Int) (d : Int) (_ifn : InI fn) (_ifd : InI fd) (_itn : InI tn) (_itd : InI td) (_ia : In64 a) (_ib : In64 b) (_ic : In64 c) (_id : In64 d) : InI (bafn fn fd tn td fo to a b c d) := by
  unfold bafn
  exact (cond_in (tofn_in (frfn fn fd tn td fo to (pxbn (wrap64 (c - (wrap64 (2 * a)))) (wrap64 (2 * b))) (pxbd (wrap64 (c - (wrap64 (2 * a)))) (wrap64 (2 * b))) false) (frfd fn fd tn td fo to (pxbn (wrap64 (c - (wrap64 (2 * a)))) (wrap64 (2 * b))) (pxbd (wrap64 (c - (wrap64 (2 * a)))) (wrap64 (2 * b))) false) (frtn fn fd tn td fo to (pxbn (wrap64 (c - (wrap64 (2 * a)))) (wrap64 (2 * b))) (pxbd (wrap64 (c - (wrap64 (2 * a)))) (wrap64 (2 * b))) false) (frtd fn fd tn td fo to (pxbn (wrap64 (c - (wrap64 (2 * a)))) (wrap64 (2 * b))) (pxbd (wrap64 (c - (wrap64 (2 * a)))) (wrap64 (2 * b))) false) (frfo fn fd tn td fo to (pxbn (wrap64 (c - (wrap64 (2 * a)))) (wrap64 (2 * b))) (pxbd (wrap64 (c - (wrap64 (2 * a)))) (wrap64 (2 * b))) false) (frto fn fd tn td fo to (pxbn (wrap64 (c - (wrap64 (2 * a)))) (wrap64 (2 * b))) (pxbd (wrap64 (c - (wrap64 (2 * a)))) (wrap64 (2 * b))) false) (pxbn (wrap64 (d - (wrap64 (2 * a)))) (wrap64 (2 * b))) (pxbd (wrap64 (d - (wrap64 (2 * a)))) (wrap64 (2 * b))) true (frfn_in fn fd tn td fo to (pxbn (wrap64 (c - (wrap64 (2 * a)))) (wrap64 (2 * b))) (pxbd (wrap64 (c - (wrap64 (2 * a)))) (wrap64 (2 * b))) false _ifn _ifd _itn _itd (pxbn_in (wrap64 (c - (wrap64 (2 * a)))) (wrap64 (2 * b)) (wrap64_in _) (wrap64_in _)) (pxbd_in (wrap64 (c - (wrap64 (2 * a)))) (wrap64 (2 * b)) (wrap64_in _) (wrap64_in _))) (frfd_in fn fd tn td fo to (pxbn (wrap64 (c - (wrap64 (2 * a)))) (wrap64 (2 * b))) (pxbd (wrap64 (c - (wrap64 (2 * a)))) (wrap64 (2 * b))) false _ifn _ifd _itn _itd (pxbn_in (wrap64 (c - (wrap64 (2 * a)))) (wrap64 (2 * b)) (wrap64_in _) (wrap64_in _)) (pxbd_in (wrap64 (c - (wrap64 (2 * a)))) (wrap64 (2 * b)) (wrap64_in _) (wrap64_in _))) (frtn_in fn fd tn td fo to (pxbn (wrap64 (c - (wrap64 (2 * a)))) (wrap64 (2 * b))) (pxbd (wrap64 (c - (wrap64 (2 * a)))) (wrap64 (2 * b))) false _ifn _ifd _itn _itd (pxbn_in (wrap64 (c - (wrap64 (2 * a)))) (wrap64 (2 * b)) (wrap64_in _) (wrap64_in _)) (pxbd_in (wrap64 (c - (wrap64 (2 * a)))) (wrap64 (2 * b)) (wrap64_in _) (wrap64_in _))) (frtd_in fn fd tn td fo to (pxbn (wrap64 (c - (wrap64 (2 * a)))) (wrap64 (2 * b))) (pxbd (wrap64 (c - (wrap64 (2 * a)))) (wrap64 (2 * b))) false _ifn _ifd _itn _itd (pxbn_in (wrap64 (c - (wrap64 (2 * a)))) (wrap64 (2 * b)) (wrap64_in _) (wrap64_in _)) (pxbd_in (wrap64 (c - (wrap64 (2 * a)))) (wrap64 (2 * b)) (wrap64_in _) (wrap64_in _))) (pxbn_in (wrap64 (d - (wrap64 (2 * a)))) (wrap64 (2 * b)) (wrap64_in _) (wrap64_in _)) (pxbd_in (wrap64 (d - (wrap64 (2 * a)))) (wrap64 (2 * b)) (wrap64_in _) (wrap64_in _))) (cond_in (tofn_in (frfn fn fd tn td fo to (pxbn (wrap64 ((wrap64 (2 * a)) - d)) (wrap64 (-(wrap64 (2 * b))))) (pxbd (wrap64 ((wrap64 (2 * a)) - d)) (wrap64 (-(wrap64 (2 * b))))) true) (frfd fn fd tn td fo to (pxbn (wrap64 ((wrap64 (2 * a)) - d)) (wrap64 (-(wrap64 (2 * b))))) (pxbd (wrap64 ((wrap64 (2 * a)) - d)) (wrap64 (-(wrap64 (2 * b))))) true) (frtn fn fd tn td fo to (pxbn (wrap64 ((wrap64 (2 * a)) - d)) (wrap64 (-(wrap64 (2 * b))))) (pxbd (wrap64 ((wrap64 (2 * a)) - d)) (wrap64 (-(wrap64 (2 * b))))) true) (frtd fn fd tn td fo to (pxbn (wrap64 ((wrap64 (2 * a)) - d)) (wrap64 (-(wrap64 (2 * b))))) (pxbd (wrap64 ((wrap64 (2 * a)) - d)) (wrap64 (-(wrap64 (2 * b))))) true) (frfo fn fd tn td fo to (pxbn (wrap64 ((wrap64 (2 * a)) - d)) (wrap64 (-(wrap64 (2 * b))))) (pxbd (wrap64 ((wrap64 (2 * a)) - d)) (wrap64 (-(wrap64 (2 * b))))) true) (frto fn fd tn td fo to (pxbn (wrap64 ((wrap64 (2 * a)) - d)) (wrap64 (-(wrap64 (2 * b))))) (pxbd (wrap64 ((wrap64 (2 * a)) - d)) (wrap64 (-(wrap64 (2 * b))))) true) (pxbn (wrap64 ((wrap64 (2 * a)) - c)) (wrap64 (-(wrap64 (2 * b))))) (pxbd (wrap64 ((wrap64 (2 * a)) - c)) (wrap64 (-(wrap64 (2 * b))))) false (frfn_in fn fd tn td fo to (pxbn (wrap64 ((wrap64 (2 * a)) - d)) (wrap64 (-(wrap64 (2 * b))))) (pxbd (wrap64 ((wrap64 (2 * a)) - d)) (wrap64 (-(wrap64 (2 * b))))) true _ifn _ifd _itn _itd (pxbn_in (wrap64 ((wrap64 (2 * a)) - d)) (wrap64 (-(wrap64 (2 * b)))) (wrap64_in _) (wrap64_in _)) (pxbd_in (wrap64 ((wrap64 (2 * a)) - d)) (wrap64 (-(wrap64 (2 * b)))) (wrap64_in _) (wrap64_in _))) (frfd_in fn fd tn td fo to (pxbn (wrap64 ((wrap64 (2 * a)) - d)) (wrap64 (-(wrap64 (2 * b))))) (pxbd (wrap64 ((wrap64 (2 * a)) - d)) (wrap64 (-(wrap64 (2 * b))))) true _ifn _ifd _itn _itd (pxbn_in (wrap64 ((wrap64 (2 * a)) - d)) (wrap64 (-(wrap64 (2 * b)))) (wrap64_in _) (wrap64_in _)) (pxbd_in (wrap64 ((wrap64 (2 * a)) - d)) (wrap64 (-(wrap64 (2 * b)))) (wrap64_in _) (wrap64_in _))) (frtn_in fn fd tn td fo to (pxbn (wrap64 ((wrap64 (2 * a)) - d)) (wrap64 (-(wrap64 (2 * b))))) (pxbd (wrap64 ((wrap64 (2 * a)) - d)) (wrap64 (-(wrap64 (2 * b))))) true _ifn _ifd _itn _itd (pxbn_in (wrap64 ((wrap64 (2 * a)) - d)) (wrap64 (-(wrap64 (2 * b)))) (wrap64_in _) (wrap64_in _)) (pxbd_in (wrap64 ((wrap64 (2 * a)) - d)) (wrap64 (-(wrap64 (2 * b)))) (wrap64_in _) (wrap64_in _))) (frtd_in fn fd tn td fo to (pxbn (wrap64 ((wrap64 (2 * a)) - d)) (wrap64 (-(wrap64 (2 * b))))) (pxbd (wrap64 ((wrap64 (2 * a)) - d)) (wrap64 (-(wrap64 (2 * b))))) true _ifn _ifd _itn _itd (pxbn_in (wrap64 ((wrap64 (2 * a)) - d)) (wrap64 (-(wrap64 (2 * b)))) (wrap64_in _) (wrap64_in _)) (pxbd_in (wrap64 ((wrap64 (2 * a)) - d)) (wrap64 (-(wrap64 (2 * b)))) (wrap64_in _) (wrap64_in _))) (pxbn_in (wrap64 ((wrap64 (2 * a)) - c)) (wrap64 (-(wrap64 (2 * b)))) (wrap64_in _) (wrap64_in _)) (pxbd_in (wrap64 ((wrap64 (2 * a)) - c)) (wrap64 (-(wrap64 (2 * b)))) (wrap64_in _) (wrap64_in _))) _ifn))

theorem bafd_in (fn : Int) (fd : Int) (tn : Int) (td : Int) (fo : Bool) (to : Bool) (a : Int) (b : Int) (c : Int) (d : Int) (_ifn : InI fn) (_ifd : InI fd) (_itn : InI tn) (_itd : InI td) (_ia : In64 a) (_ib : In64 b) (_ic : In64 c) (_id : In64 d) : InI (bafd fn fd tn td fo to a b c d) := by
  unfold bafd
  exact (cond_in (tofd_in (frfn fn fd tn td fo to (pxbn (wrap64 (c - (wrap64 (2 * a)))) (wrap64 (2 * b))) (pxbd (wrap64 (c - (wrap64 (2 * a)))) (wrap64 (2 * b))) false) (frfd fn fd tn td fo to (pxbn (wrap64 (c - (wrap64 (2 * a)))) (wrap64 (2 * b))) (pxbd (wrap64 (c - (wrap64 (2 * a)))) (wrap64 (2 * b))) false) (frtn fn fd tn td fo to (pxbn (wrap64 (c - (wrap64 (2 * a)))) (wrap64 (2 * b))) (pxbd (wrap64 (c - (wrap64 (2 * a)))) (wrap64 (2 * b))) false) (frtd fn fd tn td fo to (pxbn (wrap64 (c - (wrap64 (2 * a)))) (wrap64 (2 * b))) (pxbd (wrap64 (c - (wrap64 (2 * a)))) (wrap64 (2 * b))) false) (frfo fn fd tn td fo to (pxbn (wrap64 (c - (wrap64 (2 * a)))) (wrap64 (2 * b))) (pxbd (wrap64 (c - (wrap64 (2 * a)))) (wrap64 (2 * b))) false) (frto fn fd tn td fo to (pxbn (wrap64 (c - (wrap64 (2 * a)))) (wrap64 (2 * b))) (pxbd (wrap64 (c - (wrap64 (2 * a)))) (wrap64 (2 * b))) false) (pxbn (wrap64 (d - (wrap64 (2 * a)))) (wrap64 (2 * b))) (pxbd (wrap64 (d - (wrap64 (2 * a)))) (wrap64 (2 * b))) true (frfn_in fn fd tn td fo to (pxbn (wrap64 (c - (wrap64 (2 * a)))) (wrap64 (2 * b))) (pxbd (wrap64 (c - (wrap64 (2 * a)))) (wrap64 (2 * b))) false _ifn _ifd _itn _itd (pxbn_in (wrap64 (c - (wrap64 (2 * a)))) (wrap64 (2 * b)) (wrap64_in _) (wrap64_in _)) (pxbd_in (wrap64 (c - (wrap64 (2 * a)))) (wrap64 (2 * b)) (wrap64_in _) (wrap64_in _))) (frfd_in fn fd tn td fo to (pxbn (wrap64 (c - (wrap64 (2 * a)))) (wrap64 (2 * b))) (pxbd (wrap64 (c - (wrap64 (2 * a)))) (wrap64 (2 * b))) false _ifn _ifd _itn _itd (pxbn_in (wrap64 (c - (wrap64 (2 * a)))) (wrap64 (2 * b)) (wrap64_in _) (wrap64_in _)) (pxbd_in (wrap64 (c - (wrap64 (2 * a)))) (wrap64 (2 * b)) (wrap64_in _) (wrap64_in _))) (frtn_in fn fd tn td fo to (pxbn (wrap64 (c - (wrap64 (2 * a)))) (wrap64 (2 * b))) (pxbd (wrap64 (c - (wrap64 (2 * a)))) (wrap64 (2 * b))) false _ifn _ifd _itn _itd (pxbn_in (wrap64 (c - (wrap64 (2 * a)))) (wrap64 (2 * b)) (wrap64_in _) (wrap64_in _)) (pxbd_in (wrap64 (c - (wrap64 (2 * a)))) (wrap64 (2 * b)) (wrap64_in _) (wrap64_in _))) (frtd_in fn fd tn td fo to (pxbn (wrap64 (c - (wrap64 (2 * a)))) (wrap64 (2 * b))) (pxbd (wrap64 (c - (wrap64 (2 * a)))) (wrap64 (2 * b))) false _ifn _ifd _itn _itd (pxbn_in (wrap64 (c - (wrap64 (2 * a)))) (wrap64 (2 * b)) (wrap64_in _) (wrap64_in _)) (pxbd_in (wrap64 (c - (wrap64 (2 * a)))) (wrap64 (2 * b)) (wrap64_in _) (wrap64_in _))) (pxbn_in (wrap64 (d - (wrap64 (2 * a)))) (wrap64 (2 * b)) (wrap64_in _) (wrap64_in _)) (pxbd_in (wrap64 (d - (wrap64 (2 * a)))) (wrap64 (2 * b)) (wrap64_in _) (wrap64_in _))) (cond_in (tofd_in (frfn fn fd tn td fo to (pxbn (wrap64 ((wrap64 (2 * a)) - d)) (wrap64 (-(wrap64 (2 * b))))) (pxbd (wrap64 ((wrap64 (2 * a)) - d)) (wrap64 (-(wrap64 (2 * b))))) true) (frfd fn fd tn td fo to (pxbn (wrap64 ((wrap64 (2 * a)) - d)) (wrap64 (-(wrap64 (2 * b))))) (pxbd (wrap64 ((wrap64 (2 * a)) - d)) (wrap64 (-(wrap64 (2 * b))))) true) (frtn fn fd tn td fo to (pxbn (wrap64 ((wrap64 (2 * a)) - d)) (wrap64 (-(wrap64 (2 * b))))) (pxbd (wrap64 ((wrap64 (2 * a)) - d)) (wrap64 (-(wrap64 (2 * b))))) true) (frtd fn fd tn td fo to (pxbn (wrap64 ((wrap64 (2 * a)) - d)) (wrap64 (-(wrap64 (2 * b))))) (pxbd (wrap64 ((wrap64 (2 * a)) - d)) (wrap64 (-(wrap64 (2 * b))))) true) (frfo fn fd tn td fo to (pxbn (wrap64 ((wrap64 (2 * a)) - d)) (wrap64 (-(wrap64 (2 * b))))) (pxbd (wrap64 ((wrap64 (2 * a)) - d)) (wrap64 (-(wrap64 (2 * b))))) true) (frto fn fd tn td fo to (pxbn (wrap64 ((wrap64 (2 * a)) - d)) (wrap64 (-(wrap64 (2 * b))))) (pxbd (wrap64 ((wrap64 (2 * a)) - d)) (wrap64 (-(wrap64 (2 * b))))) true) (pxbn (wrap64 ((wrap64 (2 * a)) - c)) (wrap64 (-(wrap64 (2 * b))))) (pxbd (wrap64 ((wrap64 (2 * a)) - c)) (wrap64 (-(wrap64 (2 * b))))) false (frfn_in fn fd tn td fo to (pxbn (wrap64 ((wrap64 (2 * a)) - d)) (wrap64 (-(wrap64 (2 * b))))) (pxbd (wrap64 ((wrap64 (2 * a)) - d)) (wrap64 (-(wrap64 (2 * b))))) true _ifn _ifd _itn _itd (pxbn_in (wrap64 ((wrap64 (2 * a)) - d)) (wrap64 (-(wrap64 (2 * b)))) (wrap64_in _) (wrap64_in _)) (pxbd_in (wrap64 ((wrap64 (2 * a)) - d)) (wrap64 (-(wrap64 (2 * b)))) (wrap64_in _) (wrap64_in _))) (frfd_in fn fd tn td fo to (pxbn (wrap64 ((wrap64 (2 * a)) - d)) (wrap64 (-(wrap64 (2 * b))))) (pxbd (wrap64 ((wrap64 (2 * a)) - d)) (wrap64 (-(wrap64 (2 * b))))) true _ifn _ifd _itn _itd (pxbn_in (wrap64 ((wrap64 (2 * a)) - d)) (wrap64 (-(wrap64 (2 * b)))) (wrap64_in _) (wrap64_in _)) (pxbd_in (wrap64 ((wrap64 (2 * a)) - d)) (wrap64 (-(wrap64 (2 * b)))) (wrap64_in _) (wrap64_in _))) (frtn_in fn fd tn td fo to (pxbn (wrap64 ((wrap64 (2 * a)) - d)) (wrap64 (-(wrap64 (2 * b))))) (pxbd (wrap64 ((wrap64 (2 * a)) - d)) (wrap64 (-(wrap64 (2 * b))))) true _ifn _ifd _itn _itd (pxbn_in (wrap64 ((wrap64 (2 * a)) - d)) (wrap64 (-(wrap64 (2 * b)))) (wrap64_in _) (wrap64_in _)) (pxbd_in (wrap64 ((wrap64 (2 * a)) - d)) (wrap64 (-(wrap64 (2 * b)))) (wrap64_in _) (wrap64_in _))) (frtd_in fn fd tn td fo to (pxbn (wrap64 ((wrap64 (2 * a)) - d)) (wrap64 (-(wrap64 (2 * b))))) (pxbd (wrap64 ((wrap64 (2 * a)) - d)) (wrap64 (-(wrap64 (2 * b))))) true _ifn _ifd _itn _itd (pxbn_in (wrap64 ((wrap64 (2 * a)) - d)) (wrap64 (-(wrap64 (2 * b)))) (wrap64_in _) (wrap64_in _)) (pxbd_in (wrap64 ((wrap64 (2 * a)) - d)) (wrap64 (-(wrap64 (2 * b)))) (wrap64_in _) (wrap64_in _))) (pxbn_in (wrap64 ((wrap64 (2 * a)) - c)) (wrap64 (-(wrap64 (2 * b)))) (wrap64_in _) (wrap64_in _)) (pxbd_in (wrap64 ((wrap64 (2 * a)) - c)) (wrap64 (-(wrap64 (2 * b)))) (wrap64_in _) (wrap64_in _))) _ifd))

theorem batn_in (fn : Int) (fd : Int) (tn : Int) (td : Int) (fo : Bool) (to : Bool) (a : Int) (b : Int) (c : Int) (d : Int) (_ifn : InI fn) (_ifd : InI fd) (_itn : InI tn) (_itd : InI td) (_ia : In64 a) (_ib : In64 b) (_ic : In64 c) (_id : In64 d) : InI (batn fn fd tn td fo to a b c d) := by
  unfold batn
  exact (cond_in (totn_in (frfn fn fd tn td fo to (pxbn (wrap64 (c - (wrap64 (2 * a)))) (wrap64 (2 * b))) (pxbd (wrap64 (c - (wrap64 (2 * a)))) (wrap64 (2 * b))) false) (frfd fn fd tn td fo to (pxbn (wrap64 (c - (wrap64 (2 * a)))) (wrap64 (2 * b))) (pxbd (wrap64 (c - (wrap64 (2 * a)))) (wrap64 (2 * b))) false) (frtn fn fd tn td fo to (pxbn (wrap64 (c - (wrap64 (2 * a)))) (wrap64 (2 * b))) (pxbd (wrap64 (c - (wrap64 (2 * a)))) (wrap64 (2 * b))) false) (frtd fn fd tn td fo to (pxbn (wrap64 (c - (wrap64 (2 * a)))) (wrap64 (2 * b))) (pxbd (wrap64 (c - (wrap64 (2 * a)))) (wrap64 (2 * b))) false) (frfo fn fd tn td fo to (pxbn (wrap64 (c - (wrap64 (2 * a)))) (wrap64 (2 * b))) (pxbd (wrap64 (c - (wrap64 (2 * a)))) (wrap64 (2 * b))) false) (frto fn fd tn td fo to (pxbn (wrap64 (c - (wrap64 (2 * a)))) (wrap64 (2 * b))) (pxbd (wrap64 (c - (wrap64 (2 * a)))) (wrap64 (2 * b))) false) (pxbn (wrap64 (d - (wrap64 (2 * a)))) (wrap64 (2 * b))) (pxbd (wrap64 (d - (wrap64 (2 * a)))) (wrap64 (2 * b))) true (frfn_in fn fd tn td fo to (pxbn (wrap64 (c - (wrap64 (2 * a)))) (wrap64 (2 * b))) (pxbd (wrap64 (c - (wrap64 (2 * a)))) (wrap64 (2 * b))) false _ifn _ifd _itn _itd (pxbn_in (wrap64 (c - (wrap64 (2 * a)))) (wrap64 (2 * b)) (wrap64_in _) (wrap64_in _)) (pxbd_in (wrap64 (c - (wrap64 (2 * a)))) (wrap64 (2 * b)) (wrap64_in _) (wrap64_in _))) (frfd_in fn fd tn td fo to (pxbn (wrap64 (c - (wrap64 (2 * a)))) (wrap64 (2 * b))) (pxbd (wrap64 (c - (wrap64 (2 * a)))) (wrap64 (2 * b))) false _ifn _ifd _itn _itd (pxbn_in (wrap64 (c - (wrap64 (2 * a)))) (wrap64 (2 * b)) (wrap64_in _) (wrap64_in _)) (pxbd_in (wrap64 (c - (wrap64 (2 * a)))) (wrap64 (2 * b)) (wrap64_in _) (wrap64_in _))) (frtn_in fn fd tn td fo to (pxbn (wrap64 (c - (wrap64 (2 * a)))) (wrap64 (2 * b))) (pxbd (wrap64 (c - (wrap64 (2 * a)))) (wrap64 (2 * b))) false _ifn _ifd _itn _itd (pxbn_in (wrap64 (c - (wrap64 (2 * a)))) (wrap64 (2 * b)) (wrap64_in _) (wrap64_in _)) (pxbd_in (wrap64 (c - (wrap64 (2 * a)))) (wrap64 (2 * b)) (wrap64_in _) (wrap64_in _))) (frtd_in fn fd tn td fo to (pxbn (wrap64 (c - (wrap64 (2 * a)))) (wrap64 (2 * b))) (pxbd (wrap64 (c - (wrap64 (2 * a)))) (wrap64 (2 * b))) false _ifn _ifd _itn _itd (pxbn_in (wrap64 (c - (wrap64 (2 * a)))) (wrap64 (2 * b)) (wrap64_in _) (wrap64_in _)) (pxbd_in (wrap64 (c - (wrap64 (2 * a)))) (wrap64 (2 * b)) (wrap64_in _) (wrap64_in _))) (pxbn_in (wrap64 (d - (wrap64 (2 * a)))) (wrap64 (2 * b)) (wrap64_in _) (wrap64_in _)) (pxbd_in (wrap64 (d - (wrap64 (2 * a)))) (wrap64 (2 * b)) (wrap64_in _) (wrap64_in _))) (cond_in (totn_in (frfn fn fd tn td fo to (pxbn (wrap64 ((wrap64 (2 * a)) - d)) (wrap64 (-(wrap64 (2 * b))))) (pxbd (wrap64 ((wrap64 (2 * a)) - d)) (wrap64 (-(wrap64 (2 * b))))) true) (frfd fn fd tn td fo to (pxbn (wrap64 ((wrap64 (2 * a)) - d)) (wrap64 (-(wrap64 (2 * b))))) (pxbd (wrap64 ((wrap64 (2 * a)) - d)) (wrap64 (-(wrap64 (2 * b))))) true) (frtn fn fd tn td fo to (pxbn (wrap64 ((wrap64 (2 * a)) - d)) (wrap64 (-(wrap64 (2 * b))))) (pxbd (wrap64 ((wrap64 (2 * a)) - d)) (wrap64 (-(wrap64 (2 * b))))) true) (frtd fn fd tn td fo to (pxbn (wrap64 ((wrap64 (2 * a)) - d)) (wrap64 (-(wrap64 (2 * b))))) (pxbd (wrap64 ((wrap64 (2 * a)) - d)) (wrap64 (-(wrap64 (2 * b))))) true) (frfo fn fd tn td fo to (pxbn (wrap64 ((wrap64 (2 * a)) - d)) (wrap64 (-(wrap64 (2 * b))))) (pxbd (wrap64 ((wrap64 (2 * a)) - d)) (wrap64 (-(wrap64 (2 * b))))) true) (frto fn fd tn td fo to (pxbn (wrap64 ((wrap64 (2 * a)) - d)) (wrap64 (-(wrap64 (2 * b))))) (pxbd (wrap64 ((wrap64 (2 * a)) - d)) (wrap64 (-(wrap64 (2 * b))))) true) (pxbn (wrap64 ((wrap64 (2 * a)) - c)) (wrap64 (-(wrap64 (2 * b))))) (pxbd (wrap64 ((wrap64 (2 * a)) - c)) (wrap64 (-(wrap64 (2 * b))))) false (frfn_in fn fd tn td fo to (pxbn (wrap64 ((wrap64 (2 * a)) - d)) (wrap64 (-(wrap64 (2 * b))))) (pxbd (wrap64 ((wrap64 (2 * a)) - d)) (wrap64 (-(wrap64 (2 * b))))) true _ifn _ifd _itn _itd (pxbn_in (wrap64 ((wrap64 (2 * a)) - d)) (wrap64 (-(wrap64 (2 * b)))) (wrap64_in _) (wrap64_in _)) (pxbd_in (wrap64 ((wrap64 (2 * a)) - d)) (wrap64 (-(wrap64 (2 * b)))) (wrap64_in _) (wrap64_in _))) (frfd_in fn fd tn td fo to (pxbn (wrap64 ((wrap64 (2 * a)) - d)) (wrap64 (-(wrap64 (2 * b))))) (pxbd (wrap64 ((wrap64 (2 * a)) - d)) (wrap64 (-(wrap64 (2 * b))))) true _ifn _ifd _itn _itd (pxbn_in (wrap64 ((wrap64 (2 * a)) - d)) (wrap64 (-(wrap64 (2 * b)))) (wrap64_in _) (wrap64_in _)) (pxbd_in (wrap64 ((wrap64 (2 * a)) - d)) (wrap64 (-(wrap64 (2 * b)))) (wrap64_in _) (wrap64_in _))) (frtn_in fn fd tn td fo to (pxbn (wrap64 ((wrap64 (2 * a)) - d)) (wrap64 (-(wrap64 (2 * b))))) (pxbd (wrap64 ((wrap64 (2 * a)) - d)) (wrap64 (-(wrap64 (2 * b))))) true _ifn _ifd _itn _itd (pxbn_in (wrap64 ((wrap64 (2 * a)) - d)) (wrap64 (-(wrap64 (2 * b)))) (wrap64_in _) (wrap64_in _)) (pxbd_in (wrap64 ((wrap64 (2 * a)) - d)) (wrap64 (-(wrap64 (2 * b)))) (wrap64_in _) (wrap64_in _))) (frtd_in fn fd tn td fo to (pxbn (wrap64 ((wrap64 (2 * a)) - d)) (wrap64 (-(wrap64 (2 * b))))) (pxbd (wrap64 ((wrap64 (2 * a)) - d)) (wrap64 (-(wrap64 (2 * b))))) true _ifn _ifd _itn _itd (pxbn_in (wrap64 ((wrap64 (2 * a)) - d)) (wrap64 (-(wrap64 (2 * b)))) (wrap64_in _) (wrap64_in _)) (pxbd_in (wrap64 ((wrap64 (2 * a)) - d)) (wrap64 (-(wrap64 (2 * b)))) (wrap64_in _) (wrap64_in _))) (pxbn_in (wrap64 ((wrap64 (2 * a)) - c)) (wrap64 (-(wrap64 (2 * b)))) (wrap64_in _) (wrap64_in _)) (pxbd_in (wrap64 ((wrap64 (2 * a)) - c)) (wrap64 (-(wrap64 (2 * b)))) (wrap64_in _) (wrap64_in _))) _itn))

theorem batd_in (fn : Int) (fd : Int) (tn : Int) (td : Int) (fo : Bool) (to : Bool) (a : Int) (b : Int) (c : Int) (d : Int) (_ifn : InI fn) (_ifd : InI fd) (_itn : InI tn) (_itd : InI td) (_ia : In64 a) (_ib : In64 b) (_ic : In64 c) (_id : In64 d) : InI (batd fn fd tn td fo to a b c d) := by
  unfold batd
  exact (cond_in (totd_in (frfn fn fd tn td fo to (pxbn (wrap64 (c - (wrap64 (2 * a)))) (wrap64 (2 * b))) (pxbd (wrap64 (c - (wrap64 (2 * a)))) (wrap64 (2 * b))) false) (frfd fn fd tn td fo to (pxbn (wrap64 (c - (wrap64 (2 * a)))) (wrap64 (2 * b))) (pxbd (wrap64 (c - (wrap64 (2 * a)))) (wrap64 (2 * b))) false) (frtn fn fd tn td fo to (pxbn (wrap64 (c - (wrap64 (2 * a)))) (wrap64 (2 * b))) (pxbd (wrap64 (c - (wrap64 (2 * a)))) (wrap64 (2 * b))) false) (frtd fn fd tn td fo to (pxbn (wrap64 (c - (wrap64 (2 * a)))) (wrap64 (2 * b))) (pxbd (wrap64 (c - (wrap64 (2 * a)))) (wrap64 (2 * b))) false) (frfo fn fd tn td fo to (pxbn (wrap64 (c - (wrap64 (2 * a)))) (wrap64 (2 * b))) (pxbd (wrap64 (c - (wrap64 (2 * a)))) (wrap64 (2 * b))) false) (frto fn fd tn td fo to (pxbn (wrap64 (c - (wrap64 (2 * a)))) (wrap64 (2 * b))) (pxbd (wrap64 (c - (wrap64 (2 * a)))) (wrap64 (2 * b))) false) (pxbn (wrap64 (d - (wrap64 (2 * a)))) (wrap64 (2 * b))) (pxbd (wrap64 (d - (wrap64 (2 * a)))) (wrap64 (2 * b))) true (frfn_in fn fd tn td fo to (pxbn (wrap64 (c - (wrap64 (2 * a)))) (wrap64 (2 * b))) (pxbd (wrap64 (c - (wrap64 (2 * a)))) (wrap64 (2 * b))) false _ifn _ifd _itn _itd (pxbn_in (wrap64 (c - (wrap64 (2 * a)))) (wrap64 (2 * b)) (wrap64_in _) (wrap64_in _)) (pxbd_in (wrap64 (c - (wrap64 (2 * a)))) (wrap64 (2 * b)) (wrap64_in _) (wrap64_in _))) (frfd_in fn fd tn td fo to (pxbn (wrap64 (c - (wrap64 (2 * a)))) (wrap64 (2 * b))) (pxbd (wrap64 (c - (wrap64 (2 * a)))) (wrap64 (2 * b))) false _ifn _ifd _itn _itd (pxbn_in (wrap64 (c - (wrap64 (2 * a)))) (wrap64 (2 * b)) (wrap64_in _) (wrap64_in _)) (pxbd_in (wrap64 (c - (wrap64 (2 * a)))) (wrap64 (2 * b)) (wrap64_in _) (wrap64_in _))) (frtn_in fn fd tn td fo to (pxbn (wrap64 (c - (wrap64 (2 * a)))) (wrap64 (2 * b))) (pxbd (wrap64 (c - (wrap64 (2 * a)))) (wrap64 (2 * b))) false _ifn _ifd _itn _itd (pxbn_in (wrap64 (c - (wrap64 (2 * a)))) (wrap64 (2 * b)) (wrap64_in _) (wrap64_in _)) (pxbd_in (wrap64 (c - (wrap64 (2 * a)))) (wrap64 (2 * b)) (wrap64_in _) (wrap64_in _))) (frtd_in fn fd tn td fo to (pxbn (wrap64 (c - (wrap64 (2 * a)))) (wrap64 (2 * b))) (pxbd (wrap64 (c - (wrap64 (2 * a)))) (wrap64 (2 * b))) false _ifn _ifd _itn _itd (pxbn_in (wrap64 (c - (wrap64 (2 * a)))) (wrap64 (2 * b)) (wrap64_in _) (wrap64_in _)) (pxbd_in (wrap64 (c - (wrap64 (2 * a)))) (wrap64 (2 * b)) (wrap64_in _) (wrap64_in _))) (pxbn_in (wrap64 (d - (wrap64 (2 * a)))) (wrap64 (2 * b)) (wrap64_in _) (wrap64_in _)) (pxbd_in (wrap64 (d - (wrap64 (2 * a)))) (wrap64 (2 * b)) (wrap64_in _) (wrap64_in _))) (cond_in (totd_in (frfn fn fd tn td fo to (pxbn (wrap64 ((wrap64 (2 * a)) - d)) (wrap64 (-(wrap64 (2 * b))))) (pxbd (wrap64 ((wrap64 (2 * a)) - d)) (wrap64 (-(wrap64 (2 * b))))) true) (frfd fn fd tn td fo to (pxbn (wrap64 ((wrap64 (2 * a)) - d)) (wrap64 (-(wrap64 (2 * b))))) (pxbd (wrap64 ((wrap64 (2 * a)) - d)) (wrap64 (-(wrap64 (2 * b))))) true) (frtn fn fd tn td fo to (pxbn (wrap64 ((wrap64 (2 * a)) - d)) (wrap64 (-(wrap64 (2 * b))))) (pxbd (wrap64 ((wrap64 (2 * a)) - d)) (wrap64 (-(wrap64 (2 * b))))) true) (frtd fn fd tn td fo to (pxbn (wrap64 ((wrap64 (2 * a)) - d)) (wrap64 (-(wrap64 (2 * b))))) (pxbd (wrap64 ((wrap64 (2 * a)) - d)) (wrap64 (-(wrap64 (2 * b))))) true) (frfo fn fd tn td fo to (pxbn (wrap64 ((wrap64 (2 * a)) - d)) (wrap64 (-(wrap64 (2 * b))))) (pxbd (wrap64 ((wrap64 (2 * a)) - d)) (wrap64 (-(wrap64 (2 * b))))) true) (frto fn fd tn td fo to (pxbn (wrap64 ((wrap64 (2 * a)) - d)) (wrap64 (-(wrap64 (2 * b))))) (pxbd (wrap64 ((wrap64 (2 * a)) - d)) (wrap64 (-(wrap64 (2 * b))))) true) (pxbn (wrap64 ((wrap64 (2 * a)) - c)) (wrap64 (-(wrap64 (2 * b))))) (pxbd (wrap64 ((wrap64 (2 * a)) - c)) (wrap64 (-(wrap64 (2 * b))))) false (frfn_in fn fd tn td fo to (pxbn (wrap64 ((wrap64 (2 * a)) - d)) (wrap64 (-(wrap64 (2 * b))))) (pxbd (wrap64 ((wrap64 (2 * a)) - d)) (wrap64 (-(wrap64 (2 * b))))) true _ifn _ifd _itn _itd (pxbn_in (wrap64 ((wrap64 (2 * a)) - d)) (wrap64 (-(wrap64 (2 * b)))) (wrap64_in _) (wrap64_in _)) (pxbd_in (wrap64 ((wrap64 (2 * a)) - d)) (wrap64 (-(wrap64 (2 * b)))) (wrap64_in _) (wrap64_in _))) (frfd_in fn fd tn td fo to (pxbn (wrap64 ((wrap64 (2 * a)) - d)) (wrap64 (-(wrap64 (2 * b))))) (pxbd (wrap64 ((wrap64 (2 * a)) - d)) (wrap64 (-(wrap64 (2 * b))))) true _ifn _ifd _itn _itd (pxbn_in (wrap64 ((wrap64 (2 * a)) - d)) (wrap64 (-(wrap64 (2 * b)))) (wrap64_in _) (wrap64_in _)) (pxbd_in (wrap64 ((wrap64 (2 * a)) - d)) (wrap64 (-(wrap64 (2 * b)))) (wrap64_in _) (wrap64_in _))) (frtn_in fn fd tn td fo to (pxbn (wrap64 ((wrap64 (2 * a)) - d)) (wrap64 (-(wrap64 (2 * b))))) (pxbd (wrap64 ((wrap64 (2 * a)) - d)) (wrap64 (-(wrap64 (2 * b))))) true _ifn _ifd _itn _itd (pxbn_in (wrap64 ((wrap64 (2 * a)) - d)) (wrap64 (-(wrap64 (2 * b)))) (wrap64_in _) (wrap64_in _)) (pxbd_in (wrap64 ((wrap64 (2 * a)) - d)) (wrap64 (-(wrap64 (2 * b)))) (wrap64_in _) (wrap64_in _))) (frtd_in fn fd tn td fo to (pxbn (wrap64 ((wrap64 (2 * a)) - d)) (wrap64 (-(wrap64 (2 * b))))) (pxbd (wrap64 ((wrap64 (2 * a)) - d)) (wrap64 (-(wrap64 (2 * b))))) true _ifn _ifd _itn _itd (pxbn_in (wrap64 ((wrap64 (2 * a)) - d)) (wrap64 (-(wrap64 (2 * b)))) (wrap64_in _) (wrap64_in _)) (pxbd_in (wrap64 ((wrap64 (2 * a)) - d)) (wrap64 (-(wrap64 (2 * b)))) (wrap64_in _) (wrap64_in _))) (pxbn_in (wrap64 ((wrap64 (2 * a)) - c)) (wrap64 (-(wrap64 (2 * b)))) (wrap64_in _) (wrap64_in _)) (pxbd_in (wrap64 ((wrap64 (2 * a)) - c)) (wrap64 (-(wrap64 (2 * b)))) (wrap64_in _) (wrap64_in _))) _itd))

set_option maxRecDepth 100000 in
set_option maxHeartbeats 4000000 in

theorem pxba_is (fn : Int) (fd : Int) (tn : Int) (td : Int) (fo : Bool) (to : Bool) (a : Int) (b : Int) (c : Int) (d : Int)  (R0 : Bool) (R1 : Int) (R2 : Int) (R3 : Int) (R4 : Int) (R5 : Bool) (R6 : Bool) (hR0 : bak fn fd tn td fo to a b c d = R0) (hR1 : bafn fn fd tn td fo to a b c d = R1) (hR2 : bafd fn fd tn td fo to a b c d = R2) (hR3 : batn fn fd tn td fo to a b c d = R3) (hR4 : batd fn fd tn td fo to a b c d = R4) (hR5 : bafo fn fd tn td fo to a b c d = R5) (hR6 : bato fn fd tn td fo to a b c d = R6) (_ifn : InI fn) (_ifd : InI fd) (_itn : InI tn) (_itd : InI td) (_ia : In64 a) (_ib : In64 b) (_ic : In64 c) (_id : In64 d) (bp : Nat) (w : World) (hkp : Blk w bp #[.int .u64 (wd0 fn), .int .u64 (wd1 fn), .int .u64 (wd2 fn), .int .u64 (wd3 fn), .int .u64 (wd0 fd), .int .u64 (wd1 fd), .int .u64 (wd2 fd), .int .u64 (wd3 fd), .int .u64 (wd0 tn), .int .u64 (wd1 tn), .int .u64 (wd2 tn), .int .u64 (wd3 tn), .int .u64 (wd0 td), .int .u64 (wd1 td), .int .u64 (wd2 td), .int .u64 (wd3 td), .bool fo, .bool to] 54) :
    Calls Try.prog 93 #[.pointer (some ⟨bp, 0, none⟩), .int .i64 a, .int .i64 b, .int .i64 c, .int .i64 d] w fun e w' => e = .returned (.bool R0) ∧ Blk w' bp #[.int .u64 (wd0 R1), .int .u64 (wd1 R1), .int .u64 (wd2 R1), .int .u64 (wd3 R1), .int .u64 (wd0 R2), .int .u64 (wd1 R2), .int .u64 (wd2 R2), .int .u64 (wd3 R2), .int .u64 (wd0 R3), .int .u64 (wd1 R3), .int .u64 (wd2 R3), .int .u64 (wd3 R3), .int .u64 (wd0 R4), .int .u64 (wd1 R4), .int .u64 (wd2 R4), .int .u64 (wd3 R4), .bool R5, .bool R6] 54 ∧ Below bp w w' := by

  have HBL := Lib.hid hkp.lt
  have k1 := hkp
  clear hkp
  have HR0 := Lib.hid hR0
  clear hR0
  have HR1 := Lib.hid hR1
  clear hR1
  have HR2 := Lib.hid hR2
  clear hR2
  have HR3 := Lib.hid hR3
  clear hR3
  have HR4 := Lib.hid hR4
  clear hR4
  have HR5 := Lib.hid hR5
  clear hR5
  have HR6 := Lib.hid hR6
  clear hR6
  obtain ⟨z1, hz1⟩ : ∃ o_o : Bool, decide (0 < (wrap64 (2 * b))) = o_o := ⟨_, rfl⟩
  cases z1
  · obtain ⟨z2, hz2⟩ : ∃ o_o : Bool, decide ((wrap64 (2 * b)) < 0) = o_o := ⟨_, rfl⟩
    cases z2
    · obtain ⟨z3, hz3⟩ : ∃ o_o : Bool, decide (c ≤ (wrap64 (2 * a))) = o_o := ⟨_, rfl⟩
      cases z3
      · go_enter Try.func93, Try.ntmps93
        have e0 : false = R0 := by rw [← HR0.out]; unfold bak; (try rw [hz1]); (try rw [hz2]); (try rw [hz3]); all_goals first | rfl | simp
        have e1 : fn = R1 := by rw [← HR1.out]; unfold bafn; (try rw [hz1]); (try rw [hz2]); (try rw [hz3]); all_goals first | rfl | simp
        have e2 : fd = R2 := by rw [← HR2.out]; unfold bafd; (try rw [hz1]); (try rw [hz2]); (try rw [hz3]); all_goals first | rfl | simp
        have e3 : tn = R3 := by rw [← HR3.out]; unfold batn; (try rw [hz1]); (try rw [hz2]); (try rw [hz3]); all_goals first | rfl | simp
        have e4 : td = R4 := by rw [← HR4.out]; unfold batd; (try rw [hz1]); (try rw [hz2]); (try rw [hz3]); all_goals first | rfl | simp
        have e5 : fo = R5 := by rw [← HR5.out]; unfold bafo; (try rw [hz1]); (try rw [hz2]); (try rw [hz3]); all_goals first | rfl | simp
        have e6 : to = R6 := by rw [← HR6.out]; unfold bato; (try rw [hz1]); (try rw [hz2]); (try rw [hz3]); all_goals first | rfl | simp
        subst e0
        subst e1
        subst e2
        subst e3
        subst e4
        subst e5
        subst e6
        go_wp2
        first | go_ret | go_ret2
        exact ⟨by first | rfl | simp, k1, Below.refl _ _⟩
      · go_enter Try.func93, Try.ntmps93
        have e0 : decide ((wrap64 (2 * a)) < d) = R0 := by rw [← HR0.out]; unfold bak; (try rw [hz1]); (try rw [hz2]); (try rw [hz3]); all_goals first | rfl | simp
        have e1 : fn = R1 := by rw [← HR1.out]; unfold bafn; (try rw [hz1]); (try rw [hz2]); (try rw [hz3]); all_goals first | rfl | simp
        have e2 : fd = R2 := by rw [← HR2.out]; unfold bafd; (try rw [hz1]); (try rw [hz2]); (try rw [hz3]); all_goals first | rfl | simp
        have e3 : tn = R3 := by rw [← HR3.out]; unfold batn; (try rw [hz1]); (try rw [hz2]); (try rw [hz3]); all_goals first | rfl | simp
        have e4 : td = R4 := by rw [← HR4.out]; unfold batd; (try rw [hz1]); (try rw [hz2]); (try rw [hz3]); all_goals first | rfl | simp
        have e5 : fo = R5 := by rw [← HR5.out]; unfold bafo; (try rw [hz1]); (try rw [hz2]); (try rw [hz3]); all_goals first | rfl | simp
        have e6 : to = R6 := by rw [← HR6.out]; unfold bato; (try rw [hz1]); (try rw [hz2]); (try rw [hz3]); all_goals first | rfl | simp
        subst e0
        subst e1
        subst e2
        subst e3
        subst e4
        subst e5
        subst e6
        go_wp2
        first | go_ret | go_ret2
        exact ⟨by first | rfl | simp, k1, Below.refl _ _⟩
    · go_enter Try.func93, Try.ntmps93
      go_wp2_with fail
      obtain ⟨r4, hr4⟩ : ∃ o_o : Int, pxbn (wrap64 ((wrap64 (2 * a)) - d)) (wrap64 (-(wrap64 (2 * b)))) = o_o := ⟨_, rfl⟩
      have Hr4 := Lib.hid hr4
      clear hr4
      obtain ⟨r5, hr5⟩ : ∃ o_o : Int, pxbd (wrap64 ((wrap64 (2 * a)) - d)) (wrap64 (-(wrap64 (2 * b)))) = o_o := ⟨_, rfl⟩
      have Hr5 := Lib.hid hr5
      clear hr5
      refine (pxbd_is (wrap64 ((wrap64 (2 * a)) - d)) (wrap64 (-(wrap64 (2 * b)))) r4 r5 Hr4.out Hr5.out (wrap64_in _) (wrap64_in _)  _).mono ?_
      rintro e U1 ⟨rfl, hn⟩
      replace k1 := k1.of hn
      have hb0 := hn.mono (Nat.le_of_lt HBL.out)
      clear hn
      go_wp2_with fail
      obtain ⟨r6, hr6⟩ : ∃ o_o : Int, frfn fn fd tn td fo to r4 r5 true = o_o := ⟨_, rfl⟩
      have Hr6 := Lib.hid hr6
      clear hr6
      obtain ⟨r7, hr7⟩ : ∃ o_o : Int, frfd fn fd tn td fo to r4 r5 true = o_o := ⟨_, rfl⟩
      have Hr7 := Lib.hid hr7
      clear hr7
      obtain ⟨r8, hr8⟩ : ∃ o_o : Int, frtn fn fd tn td fo to r4 r5 true = o_o := ⟨_, rfl⟩
      have Hr8 := Lib.hid hr8
      clear hr8
      obtain ⟨r9, hr9⟩ : ∃ o_o : Int, frtd fn fd tn td fo to r4 r5 true = o_o := ⟨_, rfl⟩
      have Hr9 := Lib.hid hr9
      clear hr9
      obtain ⟨z10, hz10⟩ : ∃ o_o : Bool, frfo fn fd tn td fo to r4 r5 true = o_o := ⟨_, rfl⟩
      have Hz10 := Lib.hid hz10
      clear hz10
      obtain ⟨z11, hz11⟩ : ∃ o_o : Bool, frto fn fd tn td fo to r4 r5 true = o_o := ⟨_, rfl⟩
      have Hz11 := Lib.hid hz11
      clear hz11
      refine (pxfr_is fn fd tn td fo to r4 r5 true r6 r7 r8 r9 z10 z11 Hr6.out Hr7.out Hr8.out Hr9.out Hz10.out Hz11.out _ifn _ifd _itn _itd (Hr4.out ▸ pxbn_in (wrap64 ((wrap64 (2 * a)) - d)) (wrap64 (-(wrap64 (2 * b)))) (wrap64_in _) (wrap64_in _)) (Hr5.out ▸ pxbd_in (wrap64 ((wrap64 (2 * a)) - d)) (wrap64 (-(wrap64 (2 * b)))) (wrap64_in _) (wrap64_in _)) bp _ k1).mono ?_
      rintro e U2 ⟨rfl, hk_, hn⟩
      replace k1 := hk_
      clear hk_
      replace hb0 := hb0.trans hn
      clear hn
      go_wp2_with fail
      obtain ⟨r12, hr12⟩ : ∃ o_o : Int, pxbn (wrap64 ((wrap64 (2 * a)) - c)) (wrap64 (-(wrap64 (2 * b)))) = o_o := ⟨_, rfl⟩
      have Hr12 := Lib.hid hr12
      clear hr12
      obtain ⟨r13, hr13⟩ : ∃ o_o : Int, pxbd (wrap64 ((wrap64 (2 * a)) - c)) (wrap64 (-(wrap64 (2 * b)))) = o_o := ⟨_, rfl⟩
      have Hr13 := Lib.hid hr13
      clear hr13
      refine (pxbd_is (wrap64 ((wrap64 (2 * a)) - c)) (wrap64 (-(wrap64 (2 * b)))) r12 r13 Hr12.out Hr13.out (wrap64_in _) (wrap64_in _)  _).mono ?_
      rintro e U3 ⟨rfl, hn⟩
      replace k1 := k1.of hn
      replace hb0 := hb0.trans (hn.mono (Nat.le_trans (Nat.le_of_lt HBL.out) hb0.size))
      clear hn
      go_wp2_with fail
      obtain ⟨r14, hr14⟩ : ∃ o_o : Int, tofn r6 r7 r8 r9 z10 z11 r12 r13 false = o_o := ⟨_, rfl⟩
      have Hr14 := Lib.hid hr14
      clear hr14
      obtain ⟨r15, hr15⟩ : ∃ o_o : Int, tofd r6 r7 r8 r9 z10 z11 r12 r13 false = o_o := ⟨_, rfl⟩
      have Hr15 := Lib.hid hr15
      clear hr15
      obtain ⟨r16, hr16⟩ : ∃ o_o : Int, totn r6 r7 r8 r9 z10 z11 r12 r13 false = o_o := ⟨_, rfl⟩
      have Hr16 := Lib.hid hr16
      clear hr16
      obtain ⟨r17, hr17⟩ : ∃ o_o : Int, totd r6 r7 r8 r9 z10 z11 r12 r13 false = o_o := ⟨_, rfl⟩
      have Hr17 := Lib.hid hr17
      clear hr17
      obtain ⟨z18, hz18⟩ : ∃ o_o : Bool, tofo r6 r7 r8 r9 z10 z11 r12 r13 false = o_o := ⟨_, rfl⟩
      have Hz18 := Lib.hid hz18
      clear hz18
      obtain ⟨z19, hz19⟩ : ∃ o_o : Bool, toto r6 r7 r8 r9 z10 z11 r12 r13 false = o_o := ⟨_, rfl⟩
      have Hz19 := Lib.hid hz19
      clear hz19
      refine (pxto_is r6 r7 r8 r9 z10 z11 r12 r13 false r14 r15 r16 r17 z18 z19 Hr14.out Hr15.out Hr16.out Hr17.out Hz18.out Hz19.out (Hr6.out ▸ frfn_in fn fd tn td fo to r4 r5 true _ifn _ifd _itn _itd (Hr4.out ▸ pxbn_in (wrap64 ((wrap64 (2 * a)) - d)) (wrap64 (-(wrap64 (2 * b)))) (wrap64_in _) (wrap64_in _)) (Hr5.out ▸ pxbd_in (wrap64 ((wrap64 (2 * a)) - d)) (wrap64 (-(wrap64 (2 * b)))) (wrap64_in _) (wrap64_in _))) (Hr7.out ▸ frfd_in fn fd tn td fo to r4 r5 true _ifn _ifd _itn _itd (Hr4.out ▸ pxbn_in (wrap64 ((wrap64 (2 * a)) - d)) (wrap64 (-(wrap64 (2 * b)))) (wrap64_in _) (wrap64_in _)) (Hr5.out ▸ pxbd_in (wrap64 ((wrap64 (2 * a)) - d)) (wrap64 (-(wrap64 (2 * b)))) (wrap64_in _) (wrap64_in _))) (Hr8.out ▸ frtn_in fn fd tn td fo to r4 r5 true _ifn _ifd _itn _itd (Hr4.out ▸ pxbn_in (wrap64 ((wrap64 (2 * a)) - d)) (wrap64 (-(wrap64 (2 * b)))) (wrap64_in _) (wrap64_in _)) (Hr5.out ▸ pxbd_in (wrap64 ((wrap64 (2 * a)) - d)) (wrap64 (-(wrap64 (2 * b)))) (wrap64_in _) (wrap64_in _))) (Hr9.out ▸ frtd_in fn fd tn td fo to r4 r5 true _ifn _ifd _itn _itd (Hr4.out ▸ pxbn_in (wrap64 ((wrap64 (2 * a)) - d)) (wrap64 (-(wrap64 (2 * b)))) (wrap64_in _) (wrap64_in _)) (Hr5.out ▸ pxbd_in (wrap64 ((wrap64 (2 * a)) - d)) (wrap64 (-(wrap64 (2 * b)))) (wrap64_in _) (wrap64_in _))) (Hr12.out ▸ pxbn_in (wrap64 ((wrap64 (2 * a)) - c)) (wrap64 (-(wrap64 (2 * b)))) (wrap64_in _) (wrap64_in _)) (Hr13.out ▸ pxbd_in (wrap64 ((wrap64 (2 * a)) - c)) (wrap64 (-(wrap64 (2 * b)))) (wrap64_in _) (wrap64_in _)) bp _ k1).mono ?_
      rintro e U4 ⟨rfl, hk_, hn⟩
      replace k1 := hk_
      clear hk_
      replace hb0 := hb0.trans hn
      clear hn
      have e0 : true = R0 := by rw [← HR0.out]; unfold bak; (try rw [hz1]); (try rw [hz2]); (try rw [Hr4.out]); (try rw [Hr5.out]); (try rw [Hr6.out]); (try rw [Hr7.out]); (try rw [Hr8.out]); (try rw [Hr9.out]); (try rw [Hz10.out]); (try rw [Hz11.out]); (try rw [Hr12.out]); (try rw [Hr13.out]); (try rw [Hr14.out]); (try rw [Hr15.out]); (try rw [Hr16.out]); (try rw [Hr17.out]); (try rw [Hz18.out]); (try rw [Hz19.out]); all_goals first | rfl | simp
      have e1 : r14 = R1 := by rw [← HR1.out]; unfold bafn; (try rw [hz1]); (try rw [hz2]); (try rw [Hr4.out]); (try rw [Hr5.out]); (try rw [Hr6.out]); (try rw [Hr7.out]); (try rw [Hr8.out]); (try rw [Hr9.out]); (try rw [Hz10.out]); (try rw [Hz11.out]); (try rw [Hr12.out]); (try rw [Hr13.out]); (try rw [Hr14.out]); (try rw [Hr15.out]); (try rw [Hr16.out]); (try rw [Hr17.out]); (try rw [Hz18.out]); (try rw [Hz19.out]); all_goals first | rfl | simp
      have e2 : r15 = R2 := by rw [← HR2.out]; unfold bafd; (try rw [hz1]); (try rw [hz2]); (try rw [Hr4.out]); (try rw [Hr5.out]); (try rw [Hr6.out]); (try rw [Hr7.out]); (try rw [Hr8.out]); (try rw [Hr9.out]); (try rw [Hz10.out]); (try rw [Hz11.out]); (try rw [Hr12.out]); (try rw [Hr13.out]); (try rw [Hr14.out]); (try rw [Hr15.out]); (try rw [Hr16.out]); (try rw [Hr17.out]); (try rw [Hz18.out]); (try rw [Hz19.out]); all_goals first | rfl | simp
      have e3 : r16 = R3 := by rw [← HR3.out]; unfold batn; (try rw [hz1]); (try rw [hz2]); (try rw [Hr4.out]); (try rw [Hr5.out]); (try rw [Hr6.out]); (try rw [Hr7.out]); (try rw [Hr8.out]); (try rw [Hr9.out]); (try rw [Hz10.out]); (try rw [Hz11.out]); (try rw [Hr12.out]); (try rw [Hr13.out]); (try rw [Hr14.out]); (try rw [Hr15.out]); (try rw [Hr16.out]); (try rw [Hr17.out]); (try rw [Hz18.out]); (try rw [Hz19.out]); all_goals first | rfl | simp
      have e4 : r17 = R4 := by rw [← HR4.out]; unfold batd; (try rw [hz1]); (try rw [hz2]); (try rw [Hr4.out]); (try rw [Hr5.out]); (try rw [Hr6.out]); (try rw [Hr7.out]); (try rw [Hr8.out]); (try rw [Hr9.out]); (try rw [Hz10.out]); (try rw [Hz11.out]); (try rw [Hr12.out]); (try rw [Hr13.out]); (try rw [Hr14.out]); (try rw [Hr15.out]); (try rw [Hr16.out]); (try rw [Hr17.out]); (try rw [Hz18.out]); (try rw [Hz19.out]); all_goals first | rfl | simp
      have e5 : z18 = R5 := by rw [← HR5.out]; unfold bafo; (try rw [hz1]); (try rw [hz2]); (try rw [Hr4.out]); (try rw [Hr5.out]); (try rw [Hr6.out]); (try rw [Hr7.out]); (try rw [Hr8.out]); (try rw [Hr9.out]); (try rw [Hz10.out]); (try rw [Hz11.out]); (try rw [Hr12.out]); (try rw [Hr13.out]); (try rw [Hr14.out]); (try rw [Hr15.out]); (try rw [Hr16.out]); (try rw [Hr17.out]); (try rw [Hz18.out]); (try rw [Hz19.out]); all_goals first | rfl | simp
      have e6 : z19 = R6 := by rw [← HR6.out]; unfold bato; (try rw [hz1]); (try rw [hz2]); (try rw [Hr4.out]); (try rw [Hr5.out]); (try rw [Hr6.out]); (try rw [Hr7.out]); (try rw [Hr8.out]); (try rw [Hr9.out]); (try rw [Hz10.out]); (try rw [Hz11.out]); (try rw [Hr12.out]); (try rw [Hr13.out]); (try rw [Hr14.out]); (try rw [Hr15.out]); (try rw [Hr16.out]); (try rw [Hr17.out]); (try rw [Hz18.out]); (try rw [Hz19.out]); all_goals first | rfl | simp
      subst e0
      subst e1
      subst e2
      subst e3
      subst e4
      subst e5
      subst e6
      go_wp2
      first | go_ret | go_ret2
      exact ⟨by first | rfl | simp, k1, hb0⟩
  · go_enter Try.func93, Try.ntmps93
    go_wp2_with fail
    obtain ⟨r20, hr20⟩ : ∃ o_o : Int, pxbn (wrap64 (c - (wrap64 (2 * a)))) (wrap64 (2 * b)) = o_o := ⟨_, rfl⟩
    have Hr20 := Lib.hid hr20
    clear hr20
    obtain ⟨r21, hr21⟩ : ∃ o_o : Int, pxbd (wrap64 (c - (wrap64 (2 * a)))) (wrap64 (2 * b)) = o_o := ⟨_, rfl⟩
    have Hr21 := Lib.hid hr21
    clear hr21
    refine (pxbd_is (wrap64 (c - (wrap64 (2 * a)))) (wrap64 (2 * b)) r20 r21 Hr20.out Hr21.out (wrap64_in _) (wrap64_in _)  _).mono ?_
    rintro e U5 ⟨rfl, hn⟩
    replace k1 := k1.of hn
    have hb0 := hn.mono (Nat.le_of_lt HBL.out)
    clear hn
    go_wp2_with fail
    obtain ⟨r22, hr22⟩ : ∃ o_o : Int, frfn fn fd tn td fo to r20 r21 false = o_o := ⟨_, rfl⟩
    have Hr22 := Lib.hid hr22
    clear hr22
    obtain ⟨r23, hr23⟩ : ∃ o_o : Int, frfd fn fd tn td fo to r20 r21 false = o_o := ⟨_, rfl⟩
    have Hr23 := Lib.hid hr23
    clear hr23
    obtain ⟨r24, hr24⟩ : ∃ o_o : Int, frtn fn fd tn td fo to r20 r21 false = o_o := ⟨_, rfl⟩
    have Hr24 := Lib.hid hr24
    clear hr24
    obtain ⟨r25, hr25⟩ : ∃ o_o : Int, frtd fn fd tn td fo to r20 r21 false = o_o := ⟨_, rfl⟩
    have Hr25 := Lib.hid hr25
    clear hr25
    obtain ⟨z26, hz26⟩ : ∃ o_o : Bool, frfo fn fd tn td fo to r20 r21 false = o_o := ⟨_, rfl⟩
    have Hz26 := Lib.hid hz26
    clear hz26
    obtain ⟨z27, hz27⟩ : ∃ o_o : Bool, frto fn fd tn td fo to r20 r21 false = o_o := ⟨_, rfl⟩
    have Hz27 := Lib.hid hz27
    clear hz27
    refine (pxfr_is fn fd tn td fo to r20 r21 false r22 r23 r24 r25 z26 z27 Hr22.out Hr23.out Hr24.out Hr25.out Hz26.out Hz27.out _ifn _ifd _itn _itd (Hr20.out ▸ pxbn_in (wrap64 (c - (wrap64 (2 * a)))) (wrap64 (2 * b)) (wrap64_in _) (wrap64_in _)) (Hr21.out ▸ pxbd_in (wrap64 (c - (wrap64 (2 * a)))) (wrap64 (2 * b)) (wrap64_in _) (wrap64_in _)) bp _ k1).mono ?_
    rintro e U6 ⟨rfl, hk_, hn⟩
    replace k1 := hk_
    clear hk_
    replace hb0 := hb0.trans hn
    clear hn
    go_wp2_with fail
    obtain ⟨r28, hr28⟩ : ∃ o_o : Int, pxbn (wrap64 (d - (wrap64 (2 * a)))) (wrap64 (2 * b)) = o_o := ⟨_, rfl⟩
    have Hr28 := Lib.hid hr28
    clear hr28
    obtain ⟨r29, hr29⟩ : ∃ o_o : Int, pxbd (wrap64 (d - (wrap64 (2 * a)))) (wrap64 (2 * b)) = o_o := ⟨_, rfl⟩
    have Hr29 := Lib.hid hr29
    clear hr29
    refine (pxbd_is (wrap64 (d - (wrap64 (2 * a)))) (wrap64 (2 * b)) r28 r29 Hr28.out Hr29.out (wrap64_in _) (wrap64_in _)  _).mono ?_
    rintro e U7 ⟨rfl, hn⟩
    replace k1 := k1.of hn
    replace hb0 := hb0.trans (hn.mono (Nat.le_trans (Nat.le_of_lt HBL.out) hb0.size))
    clear hn
    go_wp2_with fail
    obtain ⟨r30, hr30⟩ : ∃ o_o : Int, tofn r22 r23 r24 r25 z26 z27 r28 r29 true = o_o := ⟨_, rfl⟩
    have Hr30 := Lib.hid hr30
    clear hr30
    obtain ⟨r31, hr31⟩ : ∃ o_o : Int, tofd r22 r23 r24 r25 z26 z27 r28 r29 true = o_o := ⟨_, rfl⟩
    have Hr31 := Lib.hid hr31
    clear hr31
    obtain ⟨r32, hr32⟩ : ∃ o_o : Int, totn r22 r23 r24 r25 z26 z27 r28 r29 true = o_o := ⟨_, rfl⟩
    have Hr32 := Lib.hid hr32
    clear hr32
    obtain ⟨r33, hr33⟩ : ∃ o_o : Int, totd r22 r23 r24 r25 z26 z27 r28 r29 true = o_o := ⟨_, rfl⟩
    have Hr33 := Lib.hid hr33
    clear hr33
    obtain ⟨z34, hz34⟩ : ∃ o_o : Bool, tofo r22 r23 r24 r25 z26 z27 r28 r29 true = o_o := ⟨_, rfl⟩
    have Hz34 := Lib.hid hz34
    clear hz34
    obtain ⟨z35, hz35⟩ : ∃ o_o : Bool, toto r22 r23 r24 r25 z26 z27 r28 r29 true = o_o := ⟨_, rfl⟩
    have Hz35 := Lib.hid hz35
    clear hz35
    refine (pxto_is r22 r23 r24 r25 z26 z27 r28 r29 true r30 r31 r32 r33 z34 z35 Hr30.out Hr31.out Hr32.out Hr33.out Hz34.out Hz35.out (Hr22.out ▸ frfn_in fn fd tn td fo to r20 r21 false _ifn _ifd _itn _itd (Hr20.out ▸ pxbn_in (wrap64 (c - (wrap64 (2 * a)))) (wrap64 (2 * b)) (wrap64_in _) (wrap64_in _)) (Hr21.out ▸ pxbd_in (wrap64 (c - (wrap64 (2 * a)))) (wrap64 (2 * b)) (wrap64_in _) (wrap64_in _))) (Hr23.out ▸ frfd_in fn fd tn td fo to r20 r21 false _ifn _ifd _itn _itd (Hr20.out ▸ pxbn_in (wrap64 (c - (wrap64 (2 * a)))) (wrap64 (2 * b)) (wrap64_in _) (wrap64_in _)) (Hr21.out ▸ pxbd_in (wrap64 (c - (wrap64 (2 * a)))) (wrap64 (2 * b)) (wrap64_in _) (wrap64_in _))) (Hr24.out ▸ frtn_in fn fd tn td fo to r20 r21 false _ifn _ifd _itn _itd (Hr20.out ▸ pxbn_in (wrap64 (c - (wrap64 (2 * a)))) (wrap64 (2 * b)) (wrap64_in _) (wrap64_in _)) (Hr21.out ▸ pxbd_in (wrap64 (c - (wrap64 (2 * a)))) (wrap64 (2 * b)) (wrap64_in _) (wrap64_in _))) (Hr25.out ▸ frtd_in fn fd tn td fo to r20 r21 false _ifn _ifd _itn _itd (Hr20.out ▸ pxbn_in (wrap64 (c - (wrap64 (2 * a)))) (wrap64 (2 * b)) (wrap64_in _) (wrap64_in _)) (Hr21.out ▸ pxbd_in (wrap64 (c - (wrap64 (2 * a)))) (wrap64 (2 * b)) (wrap64_in _) (wrap64_in _))) (Hr28.out ▸ pxbn_in (wrap64 (d - (wrap64 (2 * a)))) (wrap64 (2 * b)) (wrap64_in _) (wrap64_in _)) (Hr29.out ▸ pxbd_in (wrap64 (d - (wrap64 (2 * a)))) (wrap64 (2 * b)) (wrap64_in _) (wrap64_in _)) bp _ k1).mono ?_
    rintro e U8 ⟨rfl, hk_, hn⟩
    replace k1 := hk_
    clear hk_
    replace hb0 := hb0.trans hn
    clear hn
    have e0 : true = R0 := by rw [← HR0.out]; unfold bak; (try rw [hz1]); (try rw [Hr20.out]); (try rw [Hr21.out]); (try rw [Hr22.out]); (try rw [Hr23.out]); (try rw [Hr24.out]); (try rw [Hr25.out]); (try rw [Hz26.out]); (try rw [Hz27.out]); (try rw [Hr28.out]); (try rw [Hr29.out]); (try rw [Hr30.out]); (try rw [Hr31.out]); (try rw [Hr32.out]); (try rw [Hr33.out]); (try rw [Hz34.out]); (try rw [Hz35.out]); all_goals first | rfl | simp
    have e1 : r30 = R1 := by rw [← HR1.out]; unfold bafn; (try rw [hz1]); (try rw [Hr20.out]); (try rw [Hr21.out]); (try rw [Hr22.out]); (try rw [Hr23.out]); (try rw [Hr24.out]); (try rw [Hr25.out]); (try rw [Hz26.out]); (try rw [Hz27.out]); (try rw [Hr28.out]); (try rw [Hr29.out]); (try rw [Hr30.out]); (try rw [Hr31.out]); (try rw [Hr32.out]); (try rw [Hr33.out]); (try rw [Hz34.out]); (try rw [Hz35.out]); all_goals first | rfl | simp
    have e2 : r31 = R2 := by rw [← HR2.out]; unfold bafd; (try rw [hz1]); (try rw [Hr20.out]); (try rw [Hr21.out]); (try rw [Hr22.out]); (try rw [Hr23.out]); (try rw [Hr24.out]); (try rw [Hr25.out]); (try rw [Hz26.out]); (try rw [Hz27.out]); (try rw [Hr28.out]); (try rw [Hr29.out]); (try rw [Hr30.out]); (try rw [Hr31.out]); (try rw [Hr32.out]); (try rw [Hr33.out]); (try rw [Hz34.out]); (try rw [Hz35.out]); all_goals first | rfl | simp
    have e3 : r32 = R3 := by rw [← HR3.out]; unfold batn; (try rw [hz1]); (try rw [Hr20.out]); (try rw [Hr21.out]); (try rw [Hr22.out]); (try rw [Hr23.out]); (try rw [Hr24.out]); (try rw [Hr25.out]); (try rw [Hz26.out]); (try rw [Hz27.out]); (try rw [Hr28.out]); (try rw [Hr29.out]); (try rw [Hr30.out]); (try rw [Hr31.out]); (try rw [Hr32.out]); (try rw [Hr33.out]); (try rw [Hz34.out]); (try rw [Hz35.out]); all_goals first | rfl | simp
    have e4 : r33 = R4 := by rw [← HR4.out]; unfold batd; (try rw [hz1]); (try rw [Hr20.out]); (try rw [Hr21.out]); (try rw [Hr22.out]); (try rw [Hr23.out]); (try rw [Hr24.out]); (try rw [Hr25.out]); (try rw [Hz26.out]); (try rw [Hz27.out]); (try rw [Hr28.out]); (try rw [Hr29.out]); (try rw [Hr30.out]); (try rw [Hr31.out]); (try rw [Hr32.out]); (try rw [Hr33.out]); (try rw [Hz34.out]); (try rw [Hz35.out]); all_goals first | rfl | simp
    have e5 : z34 = R5 := by rw [← HR5.out]; unfold bafo; (try rw [hz1]); (try rw [Hr20.out]); (try rw [Hr21.out]); (try rw [Hr22.out]); (try rw [Hr23.out]); (try rw [Hr24.out]); (try rw [Hr25.out]); (try rw [Hz26.out]); (try rw [Hz27.out]); (try rw [Hr28.out]); (try rw [Hr29.out]); (try rw [Hr30.out]); (try rw [Hr31.out]); (try rw [Hr32.out]); (try rw [Hr33.out]); (try rw [Hz34.out]); (try rw [Hz35.out]); all_goals first | rfl | simp
    have e6 : z35 = R6 := by rw [← HR6.out]; unfold bato; (try rw [hz1]); (try rw [Hr20.out]); (try rw [Hr21.out]); (try rw [Hr22.out]); (try rw [Hr23.out]); (try rw [Hr24.out]); (try rw [Hr25.out]); (try rw [Hz26.out]); (try rw [Hz27.out]); (try rw [Hr28.out]); (try rw [Hr29.out]); (try rw [Hr30.out]); (try rw [Hr31.out]); (try rw [Hr32.out]); (try rw [Hr33.out]); (try rw [Hz34.out]); (try rw [Hz35.out]); all_goals first | rfl | simp
    subst e0
    subst e1
    subst e2
    subst e3
    subst e4
    subst e5
    subst e6
    go_wp2
    first | go_ret | go_ret2
    exact ⟨by first | rfl | simp, k1, hb0⟩
end Go.Proofs.Ytlcbomjdbdgbmaa

