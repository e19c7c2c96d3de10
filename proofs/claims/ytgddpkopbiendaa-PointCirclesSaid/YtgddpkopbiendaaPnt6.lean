/- The walk of package point's Circle. Conditions: none. -/
import Derived.Test.YtgddpkopbiendaaPnt5
namespace Go.Proofs.Ytgddpkopbiendaa
open Go.RowKit

theorem far_is (ax ay bx b_y f : Int) (hf : frr ax ay bx b_y = f) (h1 : Co ax) (h2 : Co ay) (h3 : Co bx) (h4 : Co b_y) (w : World) :
    Calls Try.prog 86 #[pI ax ay, pI bx b_y] w fun e w' => e = .returned (wI f) ∧ Below w.heap.size w w' := hf ▸ far_any ax ay bx b_y h1 h2 h3 h4 w
theorem turn_is (ax ay bx b_y cx cy f : Int) (hf : trn ax ay bx b_y cx cy = f) (h1 : Co ax) (h2 : Co ay) (h3 : Co bx) (h4 : Co b_y) (h5 : Co cx) (h6 : Co cy) (w : World) :
    Calls Try.prog 79 #[pI ax ay, pI bx b_y, pI cx cy] w fun e w' => e = .returned (wI f) ∧ Below w.heap.size w w' := hf ▸ turn_any ax ay bx b_y cx cy h1 h2 h3 h4 h5 h6 w

/-- the sum of the three -/
def crs (ax ay bx b_y cx cy px py : Int) : Int := frr ax ay px py * trn px py bx b_y cx cy + frr bx b_y px py * trn px py cx cy ax ay + frr cx cy px py * trn px py ax ay bx b_y
/-- where one lies to a circle -/
def crc (ax ay bx b_y cx cy px py : Int) : Int := bif rp4 ax ay bx b_y cx cy px py then (crs ax ay bx b_y cx cy px py).sign * (trn ax ay bx b_y cx cy).sign else 0
theorem rp4_co {ax ay bx b_y cx cy dx dy : Int} (h : rp4 ax ay bx b_y cx cy dx dy = true) : Co ax ∧ Co ay ∧ Co bx ∧ Co b_y ∧ Co cx ∧ Co cy ∧ Co dx ∧ Co dy := by
  unfold rp4 at h; rw [Bool.and_eq_true, Bool.and_eq_true, Bool.and_eq_true] at h
  obtain ⟨⟨⟨h1, h2⟩, h3⟩, h4⟩ := h
  exact ⟨(rp_co h1).1, (rp_co h1).2, (rp_co h2).1, (rp_co h2).2, (rp_co h3).1, (rp_co h3).2, (rp_co h4).1, (rp_co h4).2⟩

set_option maxRecDepth 100000 in
set_option maxHeartbeats 4000000 in
theorem Circle_go (ax ay bx b_y cx cy px py f1 f2 f3 t0 t1 t2 t3 m1 m2 m3 s1 s2 z1 z2 z : Int) (A1 : Co ax) (A2 : Co ay) (B1 : Co bx) (B2 : Co b_y) (C1 : Co cx) (C2 : Co cy) (P1 : Co px) (P2 : Co py) (hg : rp4 ax ay bx b_y cx cy px py = true)
    (hf1 : frr ax ay px py = f1) (hf2 : frr bx b_y px py = f2) (hf3 : frr cx cy px py = f3) (ht0 : trn ax ay bx b_y cx cy = t0) (ht1 : trn px py bx b_y cx cy = t1) (ht2 : trn px py cx cy ax ay = t2) (ht3 : trn px py ax ay bx b_y = t3)
    (hm1 : f1 * t1 = m1) (hm2 : f2 * t2 = m2) (hm3 : f3 * t3 = m3) (hs1 : m1 + m2 = s1) (hs2 : s1 + m3 = s2) (hz1 : s2.sign = z1) (hz2 : t0.sign = z2) (hz : wrap64 (z1 * z2) = z)
    (if1 : InI f1) (if2 : InI f2) (if3 : InI f3) (it0 : InI t0) (it1 : InI t1) (it2 : InI t2) (it3 : InI t3) (im1 : InI m1) (im2 : InI m2) (im3 : InI m3) (is1 : InI s1) (is2 : InI s2) (w : World) :
    Calls Try.prog 47 #[pI ax ay, pI bx b_y, pI cx cy, pI px py] w fun e w' => e = .returned (.int .i64 z) ∧ Below w.heap.size w w' := by
  have HG := Lib.hid hg
  clear hg
  have HF1 := Lib.hid hf1
  clear hf1
  have HF2 := Lib.hid hf2
  clear hf2
  have HF3 := Lib.hid hf3
  clear hf3
  have HT0 := Lib.hid ht0
  clear ht0
  have HT1 := Lib.hid ht1
  clear ht1
  have HT2 := Lib.hid ht2
  clear ht2
  have HT3 := Lib.hid ht3
  clear ht3
  have HM1 := Lib.hid hm1
  clear hm1
  have HM2 := Lib.hid hm2
  clear hm2
  have HM3 := Lib.hid hm3
  clear hm3
  have HS1 := Lib.hid hs1
  clear hs1
  have HS2 := Lib.hid hs2
  clear hs2
  have HZ1 := Lib.hid hz1
  clear hz1
  have HZ2 := Lib.hid hz2
  clear hz2
  have HZ := Lib.hid hz
  clear hz
  go_enter Try.func47, Try.ntmps47
  go_wp2_with fail
  refine calls_w ?_
  intro W hW
  have ka : PVar W w.heap.size ax ay := by rw [hW]; exact (Blk.new w _ _).alloc _ |>.alloc _ |>.alloc _ |>.alloc _
  have kb : PVar W (w.heap.size + 1) bx b_y := by rw [hW]; exact (Blk.new1 w _ _ _).alloc _ |>.alloc _ |>.alloc _
  have kc : PVar W (w.heap.size + 1 + 1) cx cy := by rw [hW]; exact (Blk.new2 w _ _ _ _).alloc _ |>.alloc _
  have kp : PVar W (w.heap.size + 1 + 1 + 1) px py := by rw [hW]; exact (Blk.new3 w _ _ _ _ _).alloc _
  have kl : Blk W (w.heap.size + 1 + 1 + 1 + 1) #[.int .i64 ax, .int .i64 ay, .int .i64 bx, .int .i64 b_y, .int .i64 cx, .int .i64 cy, .int .i64 px, .int .i64 py] 57 := by rw [hW]; exact Blk.newAt _ _ (by simp) _ _
  have hb0 : Below w.heap.size w W := by rw [hW]; exact ((below_a3 _ _ _ _).alloc (by simp; omega) _).alloc (by simp; omega) _
  clear hW
  refine (right4_is ax ay bx b_y cx cy px py true HG.out _ _ _ kl).mono ?_
  rintro e u1 ⟨rfl, hn⟩
  replace ka : PVar u1 _ _ _ := ka.of hn
  replace kb : PVar u1 _ _ _ := kb.of hn
  replace kc : PVar u1 _ _ _ := kc.of hn
  replace kp : PVar u1 _ _ _ := kp.of hn
  replace hb0 := hb0.trans (hn.mono hb0.size)
  clear hn kl
  go_wp2_with fail
  have ca := PVar.c ka
  have cb := PVar.c kb
  have cc := PVar.c kc
  have cp := PVar.c kp
  have la := ka.lt
  have lb := kb.lt
  have lc := kc.lt
  have lp := kp.lt
  have KA := Lib.hid ka
  have KB := Lib.hid kb
  have KC := Lib.hid kc
  have KP := Lib.hid kp
  clear ka kb kc kp
  refine wp_region_float1 27 26 [(true, 0), (true, 1), (true, 3), (true, 4), (true, 5), (true, 8), (true, 9), (true, 11), (true, 12), (true, 13), (true, 17), (true, 18), (true, 20), (true, 21), (true, 22), (false, 2), (false, 6), (false, 7), (false, 10), (false, 14), (false, 15), (false, 16), (false, 19), (false, 23), (false, 24), (false, 25)] (by kernel_rfl) (by kernel_rfl) (fun _ _ d _ _ => by cases d <;> exact Iff.rfl) rfl rfl rfl allocI ?_
  have hb : Below u1.heap.size u1 u1.drew := (Below.refl _ _).drew
  iterate 15
    refine wpF_take rfl rfl ?_
    go_big_quiet_step (rfl)
    refine wpQuiet_nil ?_
  refine wpF_do rfl ?_
  intro w1 hg K hK
  replace hb := hb.trans (hg.mono hb.size)
  clear hg
  go_wp2_with ((first | (go_at_call 86; (with_reducible refine (far_is ax ay px py f1 HF1.out A1 A2 P1 P2 _).mono ?_); rintro e w2 ⟨rfl, hn⟩) | (go_at_call 79; (with_reducible refine (turn_is px py bx b_y cx cy t1 HT1.out P1 P2 B1 B2 C1 C2 _).mono ?_); rintro e w2 ⟨rfl, hn⟩) | (go_at_call 85; (with_reducible refine (times_is f1 t1 m1 HM1.out im1 _ if1 it1).mono ?_); rintro e w2 ⟨rfl, hn⟩) | (go_at_call 86; (with_reducible refine (far_is bx b_y px py f2 HF2.out B1 B2 P1 P2 _).mono ?_); rintro e w2 ⟨rfl, hn⟩) | (go_at_call 79; (with_reducible refine (turn_is px py cx cy ax ay t2 HT2.out P1 P2 C1 C2 A1 A2 _).mono ?_); rintro e w2 ⟨rfl, hn⟩) | (go_at_call 85; (with_reducible refine (times_is f2 t2 m2 HM2.out im2 _ if2 it2).mono ?_); rintro e w2 ⟨rfl, hn⟩) | (go_at_call 84; (with_reducible refine (plus_is m1 m2 s1 HS1.out is1 _ im1 im2).mono ?_); rintro e w2 ⟨rfl, hn⟩) | (go_at_call 86; (with_reducible refine (far_is cx cy px py f3 HF3.out C1 C2 P1 P2 _).mono ?_); rintro e w2 ⟨rfl, hn⟩) | (go_at_call 79; (with_reducible refine (turn_is px py ax ay bx b_y t3 HT3.out P1 P2 A1 A2 B1 B2 _).mono ?_); rintro e w2 ⟨rfl, hn⟩) | (go_at_call 85; (with_reducible refine (times_is f3 t3 m3 HM3.out im3 _ if3 it3).mono ?_); rintro e w2 ⟨rfl, hn⟩) | (go_at_call 84; (with_reducible refine (plus_is s1 m3 s2 HS2.out is2 _ is1 im3).mono ?_); rintro e w2 ⟨rfl, hn⟩)))
  refine hK.out _ _ hn ?_
  replace hb := hb.trans (hn.mono hb.size)
  clear hK K
  clear hn
  refine wpF_do rfl ?_
  intro w1 hg K hK
  replace hb := hb.trans (hg.mono hb.size)
  clear hg
  go_wp2_with ((first | (go_at_call 86; (with_reducible refine (far_is ax ay px py f1 HF1.out A1 A2 P1 P2 _).mono ?_); rintro e w2 ⟨rfl, hn⟩) | (go_at_call 79; (with_reducible refine (turn_is px py bx b_y cx cy t1 HT1.out P1 P2 B1 B2 C1 C2 _).mono ?_); rintro e w2 ⟨rfl, hn⟩) | (go_at_call 85; (with_reducible refine (times_is f1 t1 m1 HM1.out im1 _ if1 it1).mono ?_); rintro e w2 ⟨rfl, hn⟩) | (go_at_call 86; (with_reducible refine (far_is bx b_y px py f2 HF2.out B1 B2 P1 P2 _).mono ?_); rintro e w2 ⟨rfl, hn⟩) | (go_at_call 79; (with_reducible refine (turn_is px py cx cy ax ay t2 HT2.out P1 P2 C1 C2 A1 A2 _).mono ?_); rintro e w2 ⟨rfl, hn⟩) | (go_at_call 85; (with_reducible refine (times_is f2 t2 m2 HM2.out im2 _ if2 it2).mono ?_); rintro e w2 ⟨rfl, hn⟩) | (go_at_call 84; (with_reducible refine (plus_is m1 m2 s1 HS1.out is1 _ im1 im2).mono ?_); rintro e w2 ⟨rfl, hn⟩) | (go_at_call 86; (with_reducible refine (far_is cx cy px py f3 HF3.out C1 C2 P1 P2 _).mono ?_); rintro e w2 ⟨rfl, hn⟩) | (go_at_call 79; (with_reducible refine (turn_is px py ax ay bx b_y t3 HT3.out P1 P2 A1 A2 B1 B2 _).mono ?_); rintro e w2 ⟨rfl, hn⟩) | (go_at_call 85; (with_reducible refine (times_is f3 t3 m3 HM3.out im3 _ if3 it3).mono ?_); rintro e w2 ⟨rfl, hn⟩) | (go_at_call 84; (with_reducible refine (plus_is s1 m3 s2 HS2.out is2 _ is1 im3).mono ?_); rintro e w2 ⟨rfl, hn⟩)))
  refine hK.out _ _ hn ?_
  replace hb := hb.trans (hn.mono hb.size)
  clear hK K
  clear hn
  refine wpF_do rfl ?_
  intro w1 hg K hK
  replace hb := hb.trans (hg.mono hb.size)
  clear hg
  go_wp2_with ((first | (go_at_call 86; (with_reducible refine (far_is ax ay px py f1 HF1.out A1 A2 P1 P2 _).mono ?_); rintro e w2 ⟨rfl, hn⟩) | (go_at_call 79; (with_reducible refine (turn_is px py bx b_y cx cy t1 HT1.out P1 P2 B1 B2 C1 C2 _).mono ?_); rintro e w2 ⟨rfl, hn⟩) | (go_at_call 85; (with_reducible refine (times_is f1 t1 m1 HM1.out im1 _ if1 it1).mono ?_); rintro e w2 ⟨rfl, hn⟩) | (go_at_call 86; (with_reducible refine (far_is bx b_y px py f2 HF2.out B1 B2 P1 P2 _).mono ?_); rintro e w2 ⟨rfl, hn⟩) | (go_at_call 79; (with_reducible refine (turn_is px py cx cy ax ay t2 HT2.out P1 P2 C1 C2 A1 A2 _).mono ?_); rintro e w2 ⟨rfl, hn⟩) | (go_at_call 85; (with_reducible refine (times_is f2 t2 m2 HM2.out im2 _ if2 it2).mono ?_); rintro e w2 ⟨rfl, hn⟩) | (go_at_call 84; (with_reducible refine (plus_is m1 m2 s1 HS1.out is1 _ im1 im2).mono ?_); rintro e w2 ⟨rfl, hn⟩) | (go_at_call 86; (with_reducible refine (far_is cx cy px py f3 HF3.out C1 C2 P1 P2 _).mono ?_); rintro e w2 ⟨rfl, hn⟩) | (go_at_call 79; (with_reducible refine (turn_is px py ax ay bx b_y t3 HT3.out P1 P2 A1 A2 B1 B2 _).mono ?_); rintro e w2 ⟨rfl, hn⟩) | (go_at_call 85; (with_reducible refine (times_is f3 t3 m3 HM3.out im3 _ if3 it3).mono ?_); rintro e w2 ⟨rfl, hn⟩) | (go_at_call 84; (with_reducible refine (plus_is s1 m3 s2 HS2.out is2 _ is1 im3).mono ?_); rintro e w2 ⟨rfl, hn⟩)))
  refine hK.out _ _ hn ?_
  replace hb := hb.trans (hn.mono hb.size)
  clear hK K
  clear hn
  refine wpF_do rfl ?_
  intro w1 hg K hK
  replace hb := hb.trans (hg.mono hb.size)
  clear hg
  go_wp2_with ((first | (go_at_call 86; (with_reducible refine (far_is ax ay px py f1 HF1.out A1 A2 P1 P2 _).mono ?_); rintro e w2 ⟨rfl, hn⟩) | (go_at_call 79; (with_reducible refine (turn_is px py bx b_y cx cy t1 HT1.out P1 P2 B1 B2 C1 C2 _).mono ?_); rintro e w2 ⟨rfl, hn⟩) | (go_at_call 85; (with_reducible refine (times_is f1 t1 m1 HM1.out im1 _ if1 it1).mono ?_); rintro e w2 ⟨rfl, hn⟩) | (go_at_call 86; (with_reducible refine (far_is bx b_y px py f2 HF2.out B1 B2 P1 P2 _).mono ?_); rintro e w2 ⟨rfl, hn⟩) | (go_at_call 79; (with_reducible refine (turn_is px py cx cy ax ay t2 HT2.out P1 P2 C1 C2 A1 A2 _).mono ?_); rintro e w2 ⟨rfl, hn⟩) | (go_at_call 85; (with_reducible refine (times_is f2 t2 m2 HM2.out im2 _ if2 it2).mono ?_); rintro e w2 ⟨rfl, hn⟩) | (go_at_call 84; (with_reducible refine (plus_is m1 m2 s1 HS1.out is1 _ im1 im2).mono ?_); rintro e w2 ⟨rfl, hn⟩) | (go_at_call 86; (with_reducible refine (far_is cx cy px py f3 HF3.out C1 C2 P1 P2 _).mono ?_); rintro e w2 ⟨rfl, hn⟩) | (go_at_call 79; (with_reducible refine (turn_is px py ax ay bx b_y t3 HT3.out P1 P2 A1 A2 B1 B2 _).mono ?_); rintro e w2 ⟨rfl, hn⟩) | (go_at_call 85; (with_reducible refine (times_is f3 t3 m3 HM3.out im3 _ if3 it3).mono ?_); rintro e w2 ⟨rfl, hn⟩) | (go_at_call 84; (with_reducible refine (plus_is s1 m3 s2 HS2.out is2 _ is1 im3).mono ?_); rintro e w2 ⟨rfl, hn⟩)))
  refine hK.out _ _ hn ?_
  replace hb := hb.trans (hn.mono hb.size)
  clear hK K
  clear hn
  refine wpF_do rfl ?_
  intro w1 hg K hK
  replace hb := hb.trans (hg.mono hb.size)
  clear hg
  go_wp2_with ((first | (go_at_call 86; (with_reducible refine (far_is ax ay px py f1 HF1.out A1 A2 P1 P2 _).mono ?_); rintro e w2 ⟨rfl, hn⟩) | (go_at_call 79; (with_reducible refine (turn_is px py bx b_y cx cy t1 HT1.out P1 P2 B1 B2 C1 C2 _).mono ?_); rintro e w2 ⟨rfl, hn⟩) | (go_at_call 85; (with_reducible refine (times_is f1 t1 m1 HM1.out im1 _ if1 it1).mono ?_); rintro e w2 ⟨rfl, hn⟩) | (go_at_call 86; (with_reducible refine (far_is bx b_y px py f2 HF2.out B1 B2 P1 P2 _).mono ?_); rintro e w2 ⟨rfl, hn⟩) | (go_at_call 79; (with_reducible refine (turn_is px py cx cy ax ay t2 HT2.out P1 P2 C1 C2 A1 A2 _).mono ?_); rintro e w2 ⟨rfl, hn⟩) | (go_at_call 85; (with_reducible refine (times_is f2 t2 m2 HM2.out im2 _ if2 it2).mono ?_); rintro e w2 ⟨rfl, hn⟩) | (go_at_call 84; (with_reducible refine (plus_is m1 m2 s1 HS1.out is1 _ im1 im2).mono ?_); rintro e w2 ⟨rfl, hn⟩) | (go_at_call 86; (with_reducible refine (far_is cx cy px py f3 HF3.out C1 C2 P1 P2 _).mono ?_); rintro e w2 ⟨rfl, hn⟩) | (go_at_call 79; (with_reducible refine (turn_is px py ax ay bx b_y t3 HT3.out P1 P2 A1 A2 B1 B2 _).mono ?_); rintro e w2 ⟨rfl, hn⟩) | (go_at_call 85; (with_reducible refine (times_is f3 t3 m3 HM3.out im3 _ if3 it3).mono ?_); rintro e w2 ⟨rfl, hn⟩) | (go_at_call 84; (with_reducible refine (plus_is s1 m3 s2 HS2.out is2 _ is1 im3).mono ?_); rintro e w2 ⟨rfl, hn⟩)))
  refine hK.out _ _ hn ?_
  replace hb := hb.trans (hn.mono hb.size)
  clear hK K
  clear hn
  refine wpF_do rfl ?_
  intro w1 hg K hK
  replace hb := hb.trans (hg.mono hb.size)
  clear hg
  go_wp2_with ((first | (go_at_call 86; (with_reducible refine (far_is ax ay px py f1 HF1.out A1 A2 P1 P2 _).mono ?_); rintro e w2 ⟨rfl, hn⟩) | (go_at_call 79; (with_reducible refine (turn_is px py bx b_y cx cy t1 HT1.out P1 P2 B1 B2 C1 C2 _).mono ?_); rintro e w2 ⟨rfl, hn⟩) | (go_at_call 85; (with_reducible refine (times_is f1 t1 m1 HM1.out im1 _ if1 it1).mono ?_); rintro e w2 ⟨rfl, hn⟩) | (go_at_call 86; (with_reducible refine (far_is bx b_y px py f2 HF2.out B1 B2 P1 P2 _).mono ?_); rintro e w2 ⟨rfl, hn⟩) | (go_at_call 79; (with_reducible refine (turn_is px py cx cy ax ay t2 HT2.out P1 P2 C1 C2 A1 A2 _).mono ?_); rintro e w2 ⟨rfl, hn⟩) | (go_at_call 85; (with_reducible refine (times_is f2 t2 m2 HM2.out im2 _ if2 it2).mono ?_); rintro e w2 ⟨rfl, hn⟩) | (go_at_call 84; (with_reducible refine (plus_is m1 m2 s1 HS1.out is1 _ im1 im2).mono ?_); rintro e w2 ⟨rfl, hn⟩) | (go_at_call 86; (with_reducible refine (far_is cx cy px py f3 HF3.out C1 C2 P1 P2 _).mono ?_); rintro e w2 ⟨rfl, hn⟩) | (go_at_call 79; (with_reducible refine (turn_is px py ax ay bx b_y t3 HT3.out P1 P2 A1 A2 B1 B2 _).mono ?_); rintro e w2 ⟨rfl, hn⟩) | (go_at_call 85; (with_reducible refine (times_is f3 t3 m3 HM3.out im3 _ if3 it3).mono ?_); rintro e w2 ⟨rfl, hn⟩) | (go_at_call 84; (with_reducible refine (plus_is s1 m3 s2 HS2.out is2 _ is1 im3).mono ?_); rintro e w2 ⟨rfl, hn⟩)))
  refine hK.out _ _ hn ?_
  replace hb := hb.trans (hn.mono hb.size)
  clear hK K
  clear hn
  refine wpF_do rfl ?_
  intro w1 hg K hK
  replace hb := hb.trans (hg.mono hb.size)
  clear hg
  go_wp2_with ((first | (go_at_call 86; (with_reducible refine (far_is ax ay px py f1 HF1.out A1 A2 P1 P2 _).mono ?_); rintro e w2 ⟨rfl, hn⟩) | (go_at_call 79; (with_reducible refine (turn_is px py bx b_y cx cy t1 HT1.out P1 P2 B1 B2 C1 C2 _).mono ?_); rintro e w2 ⟨rfl, hn⟩) | (go_at_call 85; (with_reducible refine (times_is f1 t1 m1 HM1.out im1 _ if1 it1).mono ?_); rintro e w2 ⟨rfl, hn⟩) | (go_at_call 86; (with_reducible refine (far_is bx b_y px py f2 HF2.out B1 B2 P1 P2 _).mono ?_); rintro e w2 ⟨rfl, hn⟩) | (go_at_call 79; (with_reducible refine (turn_is px py cx cy ax ay t2 HT2.out P1 P2 C1 C2 A1 A2 _).mono ?_); rintro e w2 ⟨rfl, hn⟩) | (go_at_call 85; (with_reducible refine (times_is f2 t2 m2 HM2.out im2 _ if2 it2).mono ?_); rintro e w2 ⟨rfl, hn⟩) | (go_at_call 84; (with_reducible refine (plus_is m1 m2 s1 HS1.out is1 _ im1 im2).mono ?_); rintro e w2 ⟨rfl, hn⟩) | (go_at_call 86; (with_reducible refine (far_is cx cy px py f3 HF3.out C1 C2 P1 P2 _).mono ?_); rintro e w2 ⟨rfl, hn⟩) | (go_at_call 79; (with_reducible refine (turn_is px py ax ay bx b_y t3 HT3.out P1 P2 A1 A2 B1 B2 _).mono ?_); rintro e w2 ⟨rfl, hn⟩) | (go_at_call 85; (with_reducible refine (times_is f3 t3 m3 HM3.out im3 _ if3 it3).mono ?_); rintro e w2 ⟨rfl, hn⟩) | (go_at_call 84; (with_reducible refine (plus_is s1 m3 s2 HS2.out is2 _ is1 im3).mono ?_); rintro e w2 ⟨rfl, hn⟩)))
  refine hK.out _ _ hn ?_
  replace hb := hb.trans (hn.mono hb.size)
  clear hK K
  clear hn
  refine wpF_do rfl ?_
  intro w1 hg K hK
  replace hb := hb.trans (hg.mono hb.size)
  clear hg
  go_wp2_with ((first | (go_at_call 86; (with_reducible refine (far_is ax ay px py f1 HF1.out A1 A2 P1 P2 _).mono ?_); rintro e w2 ⟨rfl, hn⟩) | (go_at_call 79; (with_reducible refine (turn_is px py bx b_y cx cy t1 HT1.out P1 P2 B1 B2 C1 C2 _).mono ?_); rintro e w2 ⟨rfl, hn⟩) | (go_at_call 85; (with_reducible refine (times_is f1 t1 m1 HM1.out im1 _ if1 it1).mono ?_); rintro e w2 ⟨rfl, hn⟩) | (go_at_call 86; (with_reducible refine (far_is bx b_y px py f2 HF2.out B1 B2 P1 P2 _).mono ?_); rintro e w2 ⟨rfl, hn⟩) | (go_at_call 79; (with_reducible refine (turn_is px py cx cy ax ay t2 HT2.out P1 P2 C1 C2 A1 A2 _).mono ?_); rintro e w2 ⟨rfl, hn⟩) | (go_at_call 85; (with_reducible refine (times_is f2 t2 m2 HM2.out im2 _ if2 it2).mono ?_); rintro e w2 ⟨rfl, hn⟩) | (go_at_call 84; (with_reducible refine (plus_is m1 m2 s1 HS1.out is1 _ im1 im2).mono ?_); rintro e w2 ⟨rfl, hn⟩) | (go_at_call 86; (with_reducible refine (far_is cx cy px py f3 HF3.out C1 C2 P1 P2 _).mono ?_); rintro e w2 ⟨rfl, hn⟩) | (go_at_call 79; (with_reducible refine (turn_is px py ax ay bx b_y t3 HT3.out P1 P2 A1 A2 B1 B2 _).mono ?_); rintro e w2 ⟨rfl, hn⟩) | (go_at_call 85; (with_reducible refine (times_is f3 t3 m3 HM3.out im3 _ if3 it3).mono ?_); rintro e w2 ⟨rfl, hn⟩) | (go_at_call 84; (with_reducible refine (plus_is s1 m3 s2 HS2.out is2 _ is1 im3).mono ?_); rintro e w2 ⟨rfl, hn⟩)))
  refine hK.out _ _ hn ?_
  replace hb := hb.trans (hn.mono hb.size)
  clear hK K
  clear hn
  refine wpF_do rfl ?_
  intro w1 hg K hK
  replace hb := hb.trans (hg.mono hb.size)
  clear hg
  go_wp2_with ((first | (go_at_call 86; (with_reducible refine (far_is ax ay px py f1 HF1.out A1 A2 P1 P2 _).mono ?_); rintro e w2 ⟨rfl, hn⟩) | (go_at_call 79; (with_reducible refine (turn_is px py bx b_y cx cy t1 HT1.out P1 P2 B1 B2 C1 C2 _).mono ?_); rintro e w2 ⟨rfl, hn⟩) | (go_at_call 85; (with_reducible refine (times_is f1 t1 m1 HM1.out im1 _ if1 it1).mono ?_); rintro e w2 ⟨rfl, hn⟩) | (go_at_call 86; (with_reducible refine (far_is bx b_y px py f2 HF2.out B1 B2 P1 P2 _).mono ?_); rintro e w2 ⟨rfl, hn⟩) | (go_at_call 79; (with_reducible refine (turn_is px py cx cy ax ay t2 HT2.out P1 P2 C1 C2 A1 A2 _).mono ?_); rintro e w2 ⟨rfl, hn⟩) | (go_at_call 85; (with_reducible refine (times_is f2 t2 m2 HM2.out im2 _ if2 it2).mono ?_); rintro e w2 ⟨rfl, hn⟩) | (go_at_call 84; (with_reducible refine (plus_is m1 m2 s1 HS1.out is1 _ im1 im2).mono ?_); rintro e w2 ⟨rfl, hn⟩) | (go_at_call 86; (with_reducible refine (far_is cx cy px py f3 HF3.out C1 C2 P1 P2 _).mono ?_); rintro e w2 ⟨rfl, hn⟩) | (go_at_call 79; (with_reducible refine (turn_is px py ax ay bx b_y t3 HT3.out P1 P2 A1 A2 B1 B2 _).mono ?_); rintro e w2 ⟨rfl, hn⟩) | (go_at_call 85; (with_reducible refine (times_is f3 t3 m3 HM3.out im3 _ if3 it3).mono ?_); rintro e w2 ⟨rfl, hn⟩) | (go_at_call 84; (with_reducible refine (plus_is s1 m3 s2 HS2.out is2 _ is1 im3).mono ?_); rintro e w2 ⟨rfl, hn⟩)))
  refine hK.out _ _ hn ?_
  replace hb := hb.trans (hn.mono hb.size)
  clear hK K
  clear hn
  refine wpF_do rfl ?_
  intro w1 hg K hK
  replace hb := hb.trans (hg.mono hb.size)
  clear hg
  go_wp2_with ((first | (go_at_call 86; (with_reducible refine (far_is ax ay px py f1 HF1.out A1 A2 P1 P2 _).mono ?_); rintro e w2 ⟨rfl, hn⟩) | (go_at_call 79; (with_reducible refine (turn_is px py bx b_y cx cy t1 HT1.out P1 P2 B1 B2 C1 C2 _).mono ?_); rintro e w2 ⟨rfl, hn⟩) | (go_at_call 85; (with_reducible refine (times_is f1 t1 m1 HM1.out im1 _ if1 it1).mono ?_); rintro e w2 ⟨rfl, hn⟩) | (go_at_call 86; (with_reducible refine (far_is bx b_y px py f2 HF2.out B1 B2 P1 P2 _).mono ?_); rintro e w2 ⟨rfl, hn⟩) | (go_at_call 79; (with_reducible refine (turn_is px py cx cy ax ay t2 HT2.out P1 P2 C1 C2 A1 A2 _).mono ?_); rintro e w2 ⟨rfl, hn⟩) | (go_at_call 85; (with_reducible refine (times_is f2 t2 m2 HM2.out im2 _ if2 it2).mono ?_); rintro e w2 ⟨rfl, hn⟩) | (go_at_call 84; (with_reducible refine (plus_is m1 m2 s1 HS1.out is1 _ im1 im2).mono ?_); rintro e w2 ⟨rfl, hn⟩) | (go_at_call 86; (with_reducible refine (far_is cx cy px py f3 HF3.out C1 C2 P1 P2 _).mono ?_); rintro e w2 ⟨rfl, hn⟩) | (go_at_call 79; (with_reducible refine (turn_is px py ax ay bx b_y t3 HT3.out P1 P2 A1 A2 B1 B2 _).mono ?_); rintro e w2 ⟨rfl, hn⟩) | (go_at_call 85; (with_reducible refine (times_is f3 t3 m3 HM3.out im3 _ if3 it3).mono ?_); rintro e w2 ⟨rfl, hn⟩) | (go_at_call 84; (with_reducible refine (plus_is s1 m3 s2 HS2.out is2 _ is1 im3).mono ?_); rintro e w2 ⟨rfl, hn⟩)))
  refine hK.out _ _ hn ?_
  replace hb := hb.trans (hn.mono hb.size)
  clear hK K
  clear hn
  refine wpF_do rfl ?_
  intro w1 hg K hK
  replace hb := hb.trans (hg.mono hb.size)
  clear hg
  go_wp2_with ((first | (go_at_call 86; (with_reducible refine (far_is ax ay px py f1 HF1.out A1 A2 P1 P2 _).mono ?_); rintro e w2 ⟨rfl, hn⟩) | (go_at_call 79; (with_reducible refine (turn_is px py bx b_y cx cy t1 HT1.out P1 P2 B1 B2 C1 C2 _).mono ?_); rintro e w2 ⟨rfl, hn⟩) | (go_at_call 85; (with_reducible refine (times_is f1 t1 m1 HM1.out im1 _ if1 it1).mono ?_); rintro e w2 ⟨rfl, hn⟩) | (go_at_call 86; (with_reducible refine (far_is bx b_y px py f2 HF2.out B1 B2 P1 P2 _).mono ?_); rintro e w2 ⟨rfl, hn⟩) | (go_at_call 79; (with_reducible refine (turn_is px py cx cy ax ay t2 HT2.out P1 P2 C1 C2 A1 A2 _).mono ?_); rintro e w2 ⟨rfl, hn⟩) | (go_at_call 85; (with_reducible refine (times_is f2 t2 m2 HM2.out im2 _ if2 it2).mono ?_); rintro e w2 ⟨rfl, hn⟩) | (go_at_call 84; (with_reducible refine (plus_is m1 m2 s1 HS1.out is1 _ im1 im2).mono ?_); rintro e w2 ⟨rfl, hn⟩) | (go_at_call 86; (with_reducible refine (far_is cx cy px py f3 HF3.out C1 C2 P1 P2 _).mono ?_); rintro e w2 ⟨rfl, hn⟩) | (go_at_call 79; (with_reducible refine (turn_is px py ax ay bx b_y t3 HT3.out P1 P2 A1 A2 B1 B2 _).mono ?_); rintro e w2 ⟨rfl, hn⟩) | (go_at_call 85; (with_reducible refine (times_is f3 t3 m3 HM3.out im3 _ if3 it3).mono ?_); rintro e w2 ⟨rfl, hn⟩) | (go_at_call 84; (with_reducible refine (plus_is s1 m3 s2 HS2.out is2 _ is1 im3).mono ?_); rintro e w2 ⟨rfl, hn⟩)))
  refine hK.out _ _ hn ?_
  replace hb := hb.trans (hn.mono hb.size)
  clear hK K
  clear hn
  refine wpF_nil ?_
  clear hb
  intro w1 hg hb b1 lb1 nb1
  clear hg
  simp only [Act.put, ptrTo, List.setIfInBounds_toArray, List.set_cons_succ, List.set_cons_zero]
  simp only [List.drop_succ_cons, List.drop_zero]
  have v3 : Var w1 b1 0 := nb1
  have c3 := v3.c
  have f3' := v3.f
  have n3 : b1 < w1.heap.size := Blk.lt nb1
  have da : w.heap.size ≠ b1 := by omega
  have db : w.heap.size + 1 ≠ b1 := by omega
  have dc : w.heap.size + 1 + 1 ≠ b1 := by omega
  have hge : w.heap.size ≤ b1 := Nat.le_trans hb0.size lb1
  replace KA := Lib.hid (KA.out.of hb)
  replace KB := Lib.hid (KB.out.of hb)
  replace KC := Lib.hid (KC.out.of hb)
  replace hb0 := hb0.trans (hb.mono hb0.size)
  have V3 := Lib.hid v3
  clear hb nb1 v3 ca cb cc cp la lb lc lp KP lb1
  go_wp2_with fail
  refine name_world ?_
  intro V hV
  have k3 : Var V b1 s2 := by rw [hV]; exact Var.put4 V3.out s2
  have ka : PVar V w.heap.size ax ay := by rw [hV]; exact KA.out.set4 da _ _ _ _
  have kb : PVar V (w.heap.size + 1) bx b_y := by rw [hV]; exact KB.out.set4 db _ _ _ _
  have kc : PVar V (w.heap.size + 1 + 1) cx cy := by rw [hV]; exact KC.out.set4 dc _ _ _ _
  have hbV : Below w.heap.size w V := by rw [hV]; exact below_set4 hb0 hge (.int .u64 (wd0 s2)) (.int .u64 (wd1 s2)) (.int .u64 (wd2 s2)) (.int .u64 (wd3 s2))
  clear hV hb0 KA KB KC V3 c3 f3' n3 da db dc
  have ca := PVar.c ka
  have cb := PVar.c kb
  have cc := PVar.c kc
  have c3 := Var.c k3
  have la := ka.lt
  have lb := kb.lt
  have lc := kc.lt
  have l3 := k3.lt
  clear ka kb kc k3
  refine wp_region_up V.heap.size 5 [(true, 0), (true, 2), (true, 3), (true, 4), (false, 1)] (by kernel_rfl) (by kernel_rfl) (fun _ _ d _ _ h => by cases d <;> exact h) ?_
  have hb : Below V.heap.size V V.drew := (Below.refl _ _).drew
  iterate 4
    refine wpS_takeL rfl rfl ?_
    go_big_quiet_step (rfl)
    refine wpQuiet_nil ?_
  refine wpS_doL rfl ?_
  intro K hK
  go_wp2_with ((first | (go_at_call 51; (with_reducible refine (Sign_is s2 z1 HZ1.out _ is2).mono ?_); rintro e w2 ⟨rfl, hn⟩) | (go_at_call 79; (with_reducible refine (turn_is ax ay bx b_y cx cy t0 HT0.out A1 A2 B1 B2 C1 C2 _).mono ?_); rintro e w2 ⟨rfl, hn⟩) | (go_at_call 51; (with_reducible refine (Sign_is t0 z2 HZ2.out _ it0).mono ?_); rintro e w2 ⟨rfl, hn⟩)))
  replace hb := hb.trans (hn.mono hb.size)
  refine hK.out _ _ (up_iff.2 hb) ?_
  clear hK K
  clear hn
  refine wpS_nil ?_
  simp only [List.drop_succ_cons, List.drop_zero]
  replace hb0 := hbV.trans (hb.mono hbV.size)
  clear hb hbV ca cb cc c3 la lb lc l3
  go_wp2_with fail
  refine (turn_is ax ay bx b_y cx cy t0 HT0.out A1 A2 B1 B2 C1 C2 _).mono ?_
  rintro e u2 ⟨rfl, hn⟩
  replace hb0 := hb0.trans (hn.mono hb0.size)
  clear hn
  go_wp2_with fail
  refine (Sign_is t0 z2 HZ2.out _ it0).mono ?_
  rintro e u3 ⟨rfl, hn⟩
  replace hb0 := hb0.trans (hn.mono hb0.size)
  clear hn
  go_wp2
  go_ret
  exact ⟨by rw [HZ.out]; rfl, hb0⟩

set_option maxRecDepth 100000 in
set_option maxHeartbeats 1000000 in
theorem Circle_no (ax ay bx b_y cx cy px py : Int) (hg : rp4 ax ay bx b_y cx cy px py = false) (w : World) :
    Calls Try.prog 47 #[pI ax ay, pI bx b_y, pI cx cy, pI px py] w fun e w' => e = .returned (.int .i64 0) ∧ Below w.heap.size w w' := by
  have HG := Lib.hid hg
  clear hg
  go_enter Try.func47, Try.ntmps47
  go_wp2_with fail
  refine calls_w ?_
  intro W hW
  have kl : Blk W (w.heap.size + 1 + 1 + 1 + 1) #[.int .i64 ax, .int .i64 ay, .int .i64 bx, .int .i64 b_y, .int .i64 cx, .int .i64 cy, .int .i64 px, .int .i64 py] 57 := by rw [hW]; exact Blk.newAt _ _ (by simp) _ _
  have hb0 : Below w.heap.size w W := by rw [hW]; exact ((below_a3 _ _ _ _).alloc (by simp; omega) _).alloc (by simp; omega) _
  clear hW
  refine (right4_is ax ay bx b_y cx cy px py false HG.out _ _ _ kl).mono ?_
  rintro e u1 ⟨rfl, hn⟩
  replace hb0 := hb0.trans (hn.mono hb0.size)
  clear hn kl
  go_wp2
  go_ret
  exact ⟨rfl, hb0⟩

theorem sign_cases (n : Int) : n.sign = -1 ∨ n.sign = 0 ∨ n.sign = 1 := by
  rcases Int.lt_trichotomy n 0 with h | h | h
  · exact .inl (Int.sign_eq_neg_one_of_neg h)
  · subst h; exact .inr (.inl rfl)
  · exact .inr (.inr (Int.sign_eq_one_of_pos h))
theorem wrap_signs (m n : Int) : wrap64 (m.sign * n.sign) = m.sign * n.sign := by
  rcases sign_cases m with h | h | h <;> rcases sign_cases n with g | g | g <;> rw [h, g] <;> unfold wrap64 <;> omega
theorem Circle_any (ax ay bx b_y cx cy px py : Int) (w : World) :
    Calls Try.prog 47 #[pI ax ay, pI bx b_y, pI cx cy, pI px py] w fun e w' => e = .returned (.int .i64 (crc ax ay bx b_y cx cy px py)) ∧ Below w.heap.size w w' := by
  unfold crc
  obtain ⟨g, hg⟩ : ∃ g, rp4 ax ay bx b_y cx cy px py = g := ⟨_, rfl⟩
  rw [hg]
  cases g
  · exact Circle_no _ _ _ _ _ _ _ _ hg w
  · obtain ⟨h1, h2, h3, h4, h5, h6, h7, h8⟩ := rp4_co hg
    have a1 := frr_bd h1 h2 h7 h8
    have a2 := frr_bd h3 h4 h7 h8
    have a3 := frr_bd h5 h6 h7 h8
    have c0 := trn_bd h1 h2 h3 h4 h5 h6
    have c1 := trn_bd h7 h8 h3 h4 h5 h6
    have c2 := trn_bd h7 h8 h5 h6 h1 h2
    have c3 := trn_bd h7 h8 h1 h2 h3 h4
    have m1 := mul_bd (by decide) a1 c1
    have m2 := mul_bd (by decide) a2 c2
    have m3 := mul_bd (by decide) a3 c3
    refine Circle_go ax ay bx b_y cx cy px py _ _ _ _ _ _ _ _ _ _ _ _ _ _ _ h1 h2 h3 h4 h5 h6 h7 h8 hg rfl rfl rfl rfl rfl rfl rfl rfl rfl rfl rfl rfl rfl rfl (wrap_signs _ _) ?_ ?_ ?_ ?_ ?_ ?_ ?_ ?_ ?_ ?_ ?_ ?_ w
    · unfold InI b255; omega
    · unfold InI b255; omega
    · unfold InI b255; omega
    · unfold InI b255; omega
    · unfold InI b255; omega
    · unfold InI b255; omega
    · unfold InI b255; omega
    · generalize frr ax ay px py * trn px py bx b_y cx cy = p at *; unfold InI b255; omega
    · generalize frr bx b_y px py * trn px py cx cy ax ay = p at *; unfold InI b255; omega
    · generalize frr cx cy px py * trn px py ax ay bx b_y = p at *; unfold InI b255; omega
    · generalize frr ax ay px py * trn px py bx b_y cx cy = p at *
      generalize frr bx b_y px py * trn px py cx cy ax ay = q at *
      unfold InI b255; omega
    · generalize frr ax ay px py * trn px py bx b_y cx cy = p at *
      generalize frr bx b_y px py * trn px py cx cy ax ay = q at *
      generalize frr cx cy px py * trn px py ax ay bx b_y = r at *
      unfold InI b255; omega
end Go.Proofs.Ytgddpkopbiendaa
