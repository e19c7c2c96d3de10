/- The walks of package ratio's Cmp and of gromalaw02's RatioOrders. Conditions: the numbers are numbers of 256 bits. -/
import Derived.Test.YtgddpkopbiendaaRatio6
namespace Go.Proofs.Ytgddpkopbiendaa
open Go.RowKit

theorem okI_in {x : Int} {o : Bool} (h : okI x = o) (ho : o = true) : InI x := by subst ho; exact of_decide_eq_true h

set_option maxRecDepth 100000 in
set_option maxHeartbeats 2000000 in
theorem RatCmp_go (n d m e : Int) (w : World) (o : Bool) (p q : Int) (ip : o = true → InI p) (iq : o = true → InI q)
    (hT : ∀ w, Calls Try.prog 91 #[rI n d, rI m e] w fun e' w' => e' = .returned (.tuple #[wI p, wI q, .bool o]) ∧ Below w.heap.size w w') :
    Calls Try.prog 62 #[rI n d, rI m e] w fun e' w' => e' = .returned (.tuple #[.int .i64 (bif o then cmpI p q else 0), .bool o]) ∧ Below w.heap.size w w' := by
  have HT := Lib.hid hT
  have IP := Lib.hid ip
  have IQ := Lib.hid iq
  clear hT ip iq
  go_enter Try.func62, Try.ntmps62
  go_wp2_with fail
  refine calls_w ?_
  intro W hW
  have hb0 : Below w.heap.size w W := by rw [hW]; exact below_a2 _ _ _
  clear hW
  refine (HT.out _).mono ?_
  rintro e' u1 ⟨rfl, hn⟩
  replace hb0 := hb0.trans (hn.mono hb0.size)
  clear hn
  have hb1 : ∀ o1 o2, Below w.heap.size w ((u1.alloc o1).alloc o2) := fun o1 o2 => (hb0.alloc hb0.size _).alloc (by simp; have := hb0.size; omega) _
  have HB := Lib.hid hb1
  clear hb1 hb0
  cases o
  · go_wp2
    go_ret2
    exact ⟨rfl, HB.out _ _⟩
  · go_wp2_with fail
    refine (Cmp_any p q _ (IP.out trivial) (IQ.out trivial)).mono ?_
    rintro e' u2 ⟨rfl, hn⟩
    go_wp2
    go_ret2
    exact ⟨rfl, (HB.out _ _).trans (hn.mono (HB.out _ _).size)⟩

theorem allocBR : AllocRuns Try.prog 35 #[.bool false, .slice none 0 0, .bool false, .slice none 0 0] := fun w => by kernel_rfl
theorem BRVar.f {w : World} {b : Nat} {n1 : Bool} {a1 : Option Addr} {l1 c1 : Nat} {n2 : Bool} {a2 : Option Addr} {l2 c2 : Nat} (h : BRVar w b n1 a1 l1 c1 n2 a2 l2 c2) :
    (w.frozen? ⟨b, 0, none⟩ = false ∧ w.frozen? ⟨b, 1, none⟩ = false) ∧ (w.frozen? ⟨b, 2, none⟩ = false ∧ w.frozen? ⟨b, 3, none⟩ = false) := ⟨⟨h.free 0, h.free 1⟩, h.free 2, h.free 3⟩
theorem BRat.parts {w : World} {n1 : Bool} {a1 : Option Addr} {l1 c1 : Nat} {n2 : Bool} {a2 : Option Addr} {l2 c2 : Nat} {n d : Int} {L : Nat} (h : BRat w (.agg #[.bool n1, .slice a1 l1 c1, .bool n2, .slice a2 l2 c2]) n d L) :
    Big w (.agg #[.bool n1, .slice a1 l1 c1]) n L ∧ Big w (.agg #[.bool n2, .slice a2 l2 c2]) d L := by
  obtain ⟨m1, b1, k1, e1, m2, b2, k2, e2, h1, h2, h3⟩ := h
  simp only [Value.agg.injEq, Array.mk.injEq, List.cons.injEq, Value.bool.injEq, Value.slice.injEq, and_true] at h1
  obtain ⟨rfl, ⟨rfl, rfl, rfl⟩, rfl, rfl, rfl, rfl⟩ := h1
  exact ⟨h2, h3⟩
theorem BRat.mk {w : World} {n1 : Bool} {a1 : Option Addr} {l1 c1 : Nat} {n2 : Bool} {a2 : Option Addr} {l2 c2 : Nat} {n d : Int} {L : Nat} (h1 : Big w (.agg #[.bool n1, .slice a1 l1 c1]) n L) (h2 : Big w (.agg #[.bool n2, .slice a2 l2 c2]) d L) :
    BRat w (.agg #[.bool n1, .slice a1 l1 c1, .bool n2, .slice a2 l2 c2]) n d L := ⟨n1, a1, l1, c1, n2, a2, l2, c2, rfl, h1, h2⟩

set_option maxRecDepth 100000 in
set_option maxHeartbeats 8000000 in
theorem Orders_go (n d m e : Int) (w : World) (i1 : InI n) (i2 : InI d) (i3 : InI m) (i4 : InI e) (o1 o2 r1 r2 o : Bool) (ho1 : okI (n * e) = o1) (ho2 : okI (m * d) = o2) (hr1 : decide (0 < d) = r1) (hr2 : decide (0 < e) = r2) (ho : (o1 && o2 && r1 && r2) = o)
    (c : Int) (hc : (bif o then cmpI (n * e) (m * d) else 0) = c)
    (hT : ∀ w, Calls Try.prog 62 #[rI n d, rI m e] w fun e' w' => e' = .returned (.tuple #[.int .i64 c, .bool o]) ∧ Below w.heap.size w w') :
    Calls Try.prog 14 #[rI n d, rI m e] w fun e' w' => e' = .returned (.bool true) ∧ Below w.heap.size w w' := by
  have O1 := Lib.hid ho1
  have O2 := Lib.hid ho2
  have R1 := Lib.hid hr1
  have R2 := Lib.hid hr2
  have HO := Lib.hid ho
  have HC := Lib.hid hc
  have HT := Lib.hid hT
  have SN := Lib.hid (sg_id i1)
  have hss : (n.sign == n.sign) = true := by simp
  clear ho1 ho2 hr1 hr2 ho hc hT
  go_enter Try.func14, Try.ntmps14
  go_wp2_with fail
  refine name_world ?_
  intro W hW
  have kr : RVar W w.heap.size n d := by rw [hW]; exact (Blk.new _ _ _).alloc _
  have ks : RVar W (w.heap.size + 1) m e := by rw [hW]; exact Blk.new1 _ _ _ _
  have hb0 : Below w.heap.size w W := by rw [hW]; exact below_a2 _ _ _
  clear hW
  have cr := RVar.c kr
  have lr := kr.lt
  have KR := Lib.hid kr
  have KS := Lib.hid ks
  clear kr ks
  cases r1
  · skip
    skip
    refine wp_region_up W.heap.size 13 [(true, 0), (true, 2), (false, 1), (false, 3), (true, 4), (true, 5), (true, 6), (false, 7), (true, 8), (true, 9), (true, 11), (true, 12), (false, 10)] (by kernel_rfl) (by kernel_rfl) (fun _ _ d _ _ h => by cases d <;> exact h) ?_
    have hb : Below W.heap.size W W.drew := (Below.refl _ _).drew
    iterate 2
      refine wpS_takeL rfl rfl ?_
      go_big_quiet_step (rfl)
      refine wpQuiet_nil ?_
    refine wpS_doL rfl ?_
    intro K hK
    go_wp2_with ((first | (go_at_call 29; refine (Right_is n d _ i2 false R1.out).mono ?_; rintro e' w2 ⟨rfl, hn⟩) | (go_at_call 17; refine (right_is n d _ i2 false R1.out).mono ?_; rintro e' w2 ⟨rfl, hn⟩)))
    replace hb := hb.trans (hn.mono hb.size)
    refine hK.out _ _ (up_iff.2 hb) ?_
    clear hK K
    clear hn
    refine wpS_doL rfl ?_
    intro K hK
    go_wp2_with ((first | (go_at_call 29; refine (Right_is n d _ i2 false R1.out).mono ?_; rintro e' w2 ⟨rfl, hn⟩) | (go_at_call 17; refine (right_is n d _ i2 false R1.out).mono ?_; rintro e' w2 ⟨rfl, hn⟩)))
    replace hb := hb.trans (hn.mono hb.size)
    refine hK.out _ _ (up_iff.2 hb) ?_
    clear hK K
    clear hn
    iterate 3
      refine wpS_takeL rfl rfl ?_
      go_big_quiet_step (rfl)
      refine wpQuiet_nil ?_
    refine wpS_doL rfl ?_
    intro K hK
    go_wp2_with ((first | (go_at_call 29; refine (Right_is n d _ i2 false R1.out).mono ?_; rintro e' w2 ⟨rfl, hn⟩) | (go_at_call 17; refine (right_is n d _ i2 false R1.out).mono ?_; rintro e' w2 ⟨rfl, hn⟩)))
    try replace hb := hb.trans (hn.mono hb.size)
    refine hK.out _ _ (up_iff.2 hb) ?_
    clear hK K
    try clear hn
    iterate 4
      refine wpS_takeL rfl rfl ?_
      go_big_quiet_step (rfl)
      refine wpQuiet_nil ?_
    refine wpS_doL rfl ?_
    intro K hK
    go_wp2_with ((first | (go_at_call 29; refine (Right_is n d _ i2 false R1.out).mono ?_; rintro e' w2 ⟨rfl, hn⟩) | (go_at_call 17; refine (right_is n d _ i2 false R1.out).mono ?_; rintro e' w2 ⟨rfl, hn⟩)))
    try replace hb := hb.trans (hn.mono hb.size)
    refine hK.out _ _ (up_iff.2 hb) ?_
    clear hK K
    try clear hn
    refine wpS_nil ?_
    simp only [List.drop_succ_cons, List.drop_zero]
    have kr := KR.out.of hb
    have ks := KS.out.of hb
    replace hb0 := hb0.trans (hb.mono hb0.size)
    clear cr lr KR KS hb
    have cr := RVar.c kr
    go_wp2_with fail
    refine (right_is n d _ i2 false R1.out).mono ?_
    rintro e w3 ⟨rfl, hn⟩
    replace kr := kr.of hn
    replace ks := ks.of hn
    replace hb0 := hb0.trans (hn.mono hb0.size)
    clear hn 
    clear cr
    have cr := RVar.c kr
    go_wp2_with fail
    refine (RatSign_any n d _ i1 i2 false R1.out).mono ?_
    rintro e w4 ⟨rfl, hn⟩
    replace kr := kr.of hn
    replace ks := ks.of hn
    replace hb0 := hb0.trans (hn.mono hb0.size)
    clear hn 
    clear cr
    have cr := RVar.c kr
    have cs := RVar.c ks
    go_wp2_with fail
    refine (HT.out _).mono ?_
    rintro e w6 ⟨rfl, hn⟩
    replace kr := kr.of hn
    replace ks := ks.of hn
    replace hb0 := hb0.trans (hn.mono hb0.size)
    clear hn 
    clear cr cs
    go_wp2_with fail
    refine name_world ?_
    intro W hW
    replace kr : RVar W w.heap.size n d := by rw [hW]; exact kr
    replace ks : RVar W (w.heap.size + 1) m e := by rw [hW]; exact ks
    replace hb0 : Below w.heap.size w W := by rw [hW]; exact hb0
    clear hW
    have cr := RVar.c kr
    have cs := RVar.c ks
    have lr := kr.lt
    have ls := ks.lt
    have KR := Lib.hid kr
    have KS := Lib.hid ks
    clear kr ks
    refine wp_region_FG2 6 4 5 [(0, 0), (0, 2), (1, 1), (1, 3)] [(3, 6), (3, 7)] (by kernel_rfl) (by kernel_rfl) (fun _ _ d _ _ => by cases d <;> exact Iff.rfl) rfl rfl rfl allocBR rfl rfl rfl allocBR rfl ?_
    have hb : Below W.heap.size W W.drew := (Below.refl _ _).drew
    iterate 2
      refine wpFG_take0 rfl rfl ?_
      go_big_quiet_step (rfl)
      refine wpQuiet_nil ?_
    refine wpFG_do rfl ?_
    intro w1 hg K hK
    replace hb := hb.trans (hg.mono hb.size)
    try replace HA := Lib.hid (HA.out.of hg)
    clear hg
    go_wp2_with ((first | (go_at_call 20; (with_reducible refine (ref_any n d _ i1 i2).mono ?_); rintro e' wa ⟨vm, rfl, hbm, hn⟩; have HA := Lib.hid hbm; obtain ⟨m1, a1, l1, p1, m2, a2, l2, p2, rfl, _⟩ := hbm) | (go_at_call 20; (with_reducible refine (ref_any m e _ i3 i4).mono ?_); rintro e' wb ⟨vm, rfl, hbm, hn⟩; have HB := Lib.hid hbm; replace HA := Lib.hid (HA.out.of hn); obtain ⟨m3, a3, l3, p3, m4, a4, l4, p4, rfl, _⟩ := hbm)))
    refine hK.out _ _ hn ?_
    replace hb := hb.trans (hn.mono hb.size)
    clear hK K
    clear hn
    refine wpFG_do rfl ?_
    intro w1 hg K hK
    replace hb := hb.trans (hg.mono hb.size)
    try replace HA := Lib.hid (HA.out.of hg)
    clear hg
    go_wp2_with ((first | (go_at_call 20; (with_reducible refine (ref_any n d _ i1 i2).mono ?_); rintro e' wa ⟨vm, rfl, hbm, hn⟩; have HA := Lib.hid hbm; obtain ⟨m1, a1, l1, p1, m2, a2, l2, p2, rfl, _⟩ := hbm) | (go_at_call 20; (with_reducible refine (ref_any m e _ i3 i4).mono ?_); rintro e' wb ⟨vm, rfl, hbm, hn⟩; have HB := Lib.hid hbm; replace HA := Lib.hid (HA.out.of hn); obtain ⟨m3, a3, l3, p3, m4, a4, l4, p4, rfl, _⟩ := hbm)))
    refine hK.out _ _ hn ?_
    replace hb := hb.trans (hn.mono hb.size)
    clear hK K
    clear hn
    refine wpFG_nil ?_
    clear hb
    intro w1 hg hb b1 b2 hne lb1 nb1 lb2 nb2
    replace HA := Lib.hid (HA.out.of hg)
    replace HB := Lib.hid (HB.out.of hg)
    clear hg
    simp only [Act.put, ptrTo, List.setIfInBounds_toArray, List.set_cons_succ, List.set_cons_zero]
    have g1 : BRVar w1 b1 false none 0 0 false none 0 0 := nb1
    have g2 : BRVar w1 b2 false none 0 0 false none 0 0 := nb2
    have c1 := BRVar.c g1
    have f1 := BRVar.f g1
    have c2 := BRVar.c g2
    have f2 := BRVar.f g2
    clear cr cs lr ls
    refine wpG_do3 rfl ?_
    intro K hK
    go_wp2_with (fail)
    refine hK.out _ _ ?_
    clear hK K
    refine wpG_do3 rfl ?_
    intro K hK
    go_wp2_with (fail)
    refine hK.out _ _ ?_
    clear hK K
    refine wpG_nil ?_
    refine list_world ?_
    intro V hV
    have h1 : b1 ≠ b2 := hne
    have q2 : BRVar ((((w1.setCell ⟨b1, 0, none⟩ (.bool m1)).setCell ⟨b1, 1, none⟩ (.slice a1 l1 p1)).setCell ⟨b1, 2, none⟩ (.bool m2)).setCell ⟨b1, 3, none⟩ (.slice a2 l2 p2)) b2 false none 0 0 false none 0 0 := Blk.set4 g2 h1.symm _ _ _ _
    have hge1 : w.heap.size ≤ b1 := Nat.le_trans hb0.size lb1
    have hge2 : w.heap.size ≤ b2 := Nat.le_trans hb0.size lb2
    have kx : BRVar V b1 m1 a1 l1 p1 m2 a2 l2 p2 := by rw [hV]; exact Blk.set4 ((((Blk.put g1 0 _).put 1 _).put 2 _).put 3 _) h1 _ _ _ _
    have ky : BRVar V b2 m3 a3 l3 p3 m4 a4 l4 p4 := by rw [hV]; exact (((Blk.put q2 0 _).put 1 _).put 2 _).put 3 _
    obtain ⟨x1, x2⟩ := BRat.parts HA.out
    obtain ⟨y1, y2⟩ := BRat.parts HB.out
    have X1 := Lib.hid (show Big V (.agg #[.bool m1, .slice a1 l1 p1]) n 18 by rw [hV]; exact (x1.set4 (g1.cell 0) _ _ _ _).set4 (q2.cell 0) _ _ _ _)
    have X2 := Lib.hid (show Big V (.agg #[.bool m2, .slice a2 l2 p2]) d 18 by rw [hV]; exact (x2.set4 (g1.cell 0) _ _ _ _).set4 (q2.cell 0) _ _ _ _)
    have Y1 := Lib.hid (show Big V (.agg #[.bool m3, .slice a3 l3 p3]) m 18 by rw [hV]; exact (y1.set4 (g1.cell 0) _ _ _ _).set4 (q2.cell 0) _ _ _ _)
    have Y2 := Lib.hid (show Big V (.agg #[.bool m4, .slice a4 l4 p4]) e 18 by rw [hV]; exact (y2.set4 (g1.cell 0) _ _ _ _).set4 (q2.cell 0) _ _ _ _)
    have hr1 : w.heap.size ≠ b1 ∧ w.heap.size ≠ b2 := by have := KR.out.lt; omega
    have hs1 : w.heap.size + 1 ≠ b1 ∧ w.heap.size + 1 ≠ b2 := by have := KS.out.lt; omega
    have kr : RVar V w.heap.size n d := by rw [hV]; exact Blk.set4 (Blk.set4 (KR.out.of hb) hr1.1 _ _ _ _) hr1.2 _ _ _ _
    have ks : RVar V (w.heap.size + 1) m e := by rw [hV]; exact Blk.set4 (Blk.set4 (KS.out.of hb) hs1.1 _ _ _ _) hs1.2 _ _ _ _
    have hbV : Below w.heap.size w V := by rw [hV]; exact below_set4 (below_set4 (hb0.trans (hb.mono hb0.size)) hge1 _ _ _ _) hge2 _ _ _ _
    clear hV g1 g2 q2 nb1 nb2 c1 f1 c2 f2 lb1 lb2 hb KR KS hb0 hr1 hs1 x1 x2 y1 y2 HA HB hge1 hge2 h1 hne
    have cx := BRVar.c kx
    have cy := BRVar.c ky
    go_wp2_with fail
    refine (bigMul_any _ _ n e 18 18 _ X1.out Y2.out (by decide)).mono ?_
    rintro e v1 ⟨vm, rfl, hbm, hn⟩
    replace kr := kr.of hn
    replace ks := ks.of hn
    replace kx := kx.of hn
    replace ky := ky.of hn
    replace X1 := Lib.hid (X1.out.of hn)
    replace X2 := Lib.hid (X2.out.of hn)
    replace Y1 := Lib.hid (Y1.out.of hn)
    replace Y2 := Lib.hid (Y2.out.of hn)
    replace hbV := hbV.trans (hn.mono hbV.size)
    have H1 := Lib.hid hbm
    have hvm := hbm.shape
    clear hbm hn
    obtain ⟨n5, a5, q5, e5, rfl⟩ := hvm
    go_wp2_with fail
    refine (Fits_is _ (n * e) 36 o1 O1.out _ H1.out).mono ?_
    rintro e v2 ⟨rfl, hn⟩
    replace kr := kr.of hn
    replace ks := ks.of hn
    replace kx := kx.of hn
    replace ky := ky.of hn
    replace X1 := Lib.hid (X1.out.of hn)
    replace X2 := Lib.hid (X2.out.of hn)
    replace Y1 := Lib.hid (Y1.out.of hn)
    replace Y2 := Lib.hid (Y2.out.of hn)
    replace H1 := Lib.hid (H1.out.of hn)
    replace hbV := hbV.trans (hn.mono hbV.size)
    clear hn 
    clear H1
    clear cx cy
    have cx := BRVar.c kx
    have cy := BRVar.c ky
    cases o1
    · skip
      have cr := RVar.c kr
      have cs := RVar.c ks
      clear cx cy
      go_wp2_with fail
      refine (right_is n d _ i2 false R1.out).mono ?_
      rintro e y1 ⟨rfl, hn⟩
      replace kr := kr.of hn
      replace ks := ks.of hn
      replace kx := kx.of hn
      replace ky := ky.of hn
      replace X1 := Lib.hid (X1.out.of hn)
      replace X2 := Lib.hid (X2.out.of hn)
      replace Y1 := Lib.hid (Y1.out.of hn)
      replace Y2 := Lib.hid (Y2.out.of hn)
      replace hbV := hbV.trans (hn.mono hbV.size)
      clear hn 
      clear cr cs
      have ho : o = false := by have := HO.out; rw [← this]; simp
      have hc : c = 0 := by have := HC.out; rw [ho] at this; exact this.symm
      subst ho
      subst hc
      go_wp2_with fail
      refine (awake_any _).mono ?_
      rintro e' vz ⟨rfl, hn⟩
      have hbz := hbV.trans (hn.mono hbV.size)
      clear hn
      go_wp2
      go_ret
      exact ⟨rfl, hbz⟩
    · skip
      go_wp2_with fail
      refine (bigMul_any _ _ m d 18 18 _ Y1.out X2.out (by decide)).mono ?_
      rintro e v3 ⟨vm, rfl, hbm, hn⟩
      replace kr := kr.of hn
      replace ks := ks.of hn
      replace kx := kx.of hn
      replace ky := ky.of hn
      replace X1 := Lib.hid (X1.out.of hn)
      replace X2 := Lib.hid (X2.out.of hn)
      replace Y1 := Lib.hid (Y1.out.of hn)
      replace Y2 := Lib.hid (Y2.out.of hn)
      replace hbV := hbV.trans (hn.mono hbV.size)
      have H2 := Lib.hid hbm
      have hvm := hbm.shape
      clear hbm hn
      obtain ⟨n6, a6, q6, e6, rfl⟩ := hvm
      go_wp2_with fail
      refine (Fits_is _ (m * d) 36 o2 O2.out _ H2.out).mono ?_
      rintro e v4 ⟨rfl, hn⟩
      replace kr := kr.of hn
      replace ks := ks.of hn
      replace kx := kx.of hn
      replace ky := ky.of hn
      replace X1 := Lib.hid (X1.out.of hn)
      replace X2 := Lib.hid (X2.out.of hn)
      replace Y1 := Lib.hid (Y1.out.of hn)
      replace Y2 := Lib.hid (Y2.out.of hn)
      replace H2 := Lib.hid (H2.out.of hn)
      replace hbV := hbV.trans (hn.mono hbV.size)
      clear hn 
      clear H2
      cases o2
      · skip
        have cr := RVar.c kr
        have cs := RVar.c ks
        clear cx cy
        go_wp2_with fail
        refine (right_is n d _ i2 false R1.out).mono ?_
        rintro e y1 ⟨rfl, hn⟩
        replace kr := kr.of hn
        replace ks := ks.of hn
        replace kx := kx.of hn
        replace ky := ky.of hn
        replace X1 := Lib.hid (X1.out.of hn)
        replace X2 := Lib.hid (X2.out.of hn)
        replace Y1 := Lib.hid (Y1.out.of hn)
        replace Y2 := Lib.hid (Y2.out.of hn)
        replace hbV := hbV.trans (hn.mono hbV.size)
        clear hn 
        clear cr cs
        have ho : o = false := by have := HO.out; rw [← this]; simp
        have hc : c = 0 := by have := HC.out; rw [ho] at this; exact this.symm
        subst ho
        subst hc
        go_wp2_with fail
        refine (awake_any _).mono ?_
        rintro e' vz ⟨rfl, hn⟩
        have hbz := hbV.trans (hn.mono hbV.size)
        clear hn
        go_wp2
        go_ret
        exact ⟨rfl, hbz⟩
      · skip
        have cr := RVar.c kr
        have cs := RVar.c ks
        clear cx cy
        go_wp2_with fail
        refine (right_is n d _ i2 false R1.out).mono ?_
        rintro e y1 ⟨rfl, hn⟩
        replace kr := kr.of hn
        replace ks := ks.of hn
        replace kx := kx.of hn
        replace ky := ky.of hn
        replace X1 := Lib.hid (X1.out.of hn)
        replace X2 := Lib.hid (X2.out.of hn)
        replace Y1 := Lib.hid (Y1.out.of hn)
        replace Y2 := Lib.hid (Y2.out.of hn)
        replace hbV := hbV.trans (hn.mono hbV.size)
        clear hn 
        clear cr cs
        have ho : o = false := by have := HO.out; rw [← this]; simp
        have hc : c = 0 := by have := HC.out; rw [ho] at this; exact this.symm
        subst ho
        subst hc
        go_wp2_with fail
        refine (awake_any _).mono ?_
        rintro e' vz ⟨rfl, hn⟩
        have hbz := hbV.trans (hn.mono hbV.size)
        clear hn
        go_wp2
        go_ret
        exact ⟨rfl, hbz⟩
  · skip
    skip
    refine wp_region_up W.heap.size 13 [(true, 0), (true, 2), (false, 1), (false, 3), (true, 4), (true, 5), (true, 6), (false, 7), (true, 8), (true, 9), (true, 11), (true, 12), (false, 10)] (by kernel_rfl) (by kernel_rfl) (fun _ _ d _ _ h => by cases d <;> exact h) ?_
    have hb : Below W.heap.size W W.drew := (Below.refl _ _).drew
    iterate 2
      refine wpS_takeL rfl rfl ?_
      go_big_quiet_step (rfl)
      refine wpQuiet_nil ?_
    refine wpS_doL rfl ?_
    intro K hK
    go_wp2_with ((first | (go_at_call 29; refine (Right_is n d _ i2 true R1.out).mono ?_; rintro e' w2 ⟨rfl, hn⟩) | (go_at_call 17; refine (right_is n d _ i2 true R1.out).mono ?_; rintro e' w2 ⟨rfl, hn⟩) | (go_at_call 61; refine (RatSign_any n d _ i1 i2 true R1.out).mono ?_; rintro e' w2 ⟨rfl, hn⟩)))
    replace hb := hb.trans (hn.mono hb.size)
    refine hK.out _ _ (up_iff.2 hb) ?_
    clear hK K
    clear hn
    refine wpS_doL rfl ?_
    intro K hK
    go_wp2_with ((first | (go_at_call 29; refine (Right_is n d _ i2 true R1.out).mono ?_; rintro e' w2 ⟨rfl, hn⟩) | (go_at_call 17; refine (right_is n d _ i2 true R1.out).mono ?_; rintro e' w2 ⟨rfl, hn⟩) | (go_at_call 61; refine (RatSign_any n d _ i1 i2 true R1.out).mono ?_; rintro e' w2 ⟨rfl, hn⟩)))
    replace hb := hb.trans (hn.mono hb.size)
    refine hK.out _ _ (up_iff.2 hb) ?_
    clear hK K
    clear hn
    iterate 3
      refine wpS_takeL rfl rfl ?_
      go_big_quiet_step (rfl)
      refine wpQuiet_nil ?_
    refine wpS_doL rfl ?_
    intro K hK
    go_wp2_with ((first | (go_at_call 29; refine (Right_is n d _ i2 true R1.out).mono ?_; rintro e' w2 ⟨rfl, hn⟩) | (go_at_call 17; refine (right_is n d _ i2 true R1.out).mono ?_; rintro e' w2 ⟨rfl, hn⟩) | (go_at_call 61; refine (RatSign_any n d _ i1 i2 true R1.out).mono ?_; rintro e' w2 ⟨rfl, hn⟩)))
    try replace hb := hb.trans (hn.mono hb.size)
    refine hK.out _ _ (up_iff.2 hb) ?_
    clear hK K
    try clear hn
    iterate 4
      refine wpS_takeL rfl rfl ?_
      go_big_quiet_step (rfl)
      refine wpQuiet_nil ?_
    refine wpS_doL rfl ?_
    intro K hK
    go_wp2_with ((first | (go_at_call 29; refine (Right_is n d _ i2 true R1.out).mono ?_; rintro e' w2 ⟨rfl, hn⟩) | (go_at_call 17; refine (right_is n d _ i2 true R1.out).mono ?_; rintro e' w2 ⟨rfl, hn⟩) | (go_at_call 61; refine (RatSign_any n d _ i1 i2 true R1.out).mono ?_; rintro e' w2 ⟨rfl, hn⟩)))
    try replace hb := hb.trans (hn.mono hb.size)
    refine hK.out _ _ (up_iff.2 hb) ?_
    clear hK K
    try clear hn
    refine wpS_nil ?_
    simp only [List.drop_succ_cons, List.drop_zero]
    have kr := KR.out.of hb
    have ks := KS.out.of hb
    replace hb0 := hb0.trans (hb.mono hb0.size)
    clear cr lr KR KS hb
    go_wp2_with fail
    refine (Read_in n SN.out _).mono ?_
    rintro e' w3 ⟨vm, rfl, hbm, hn⟩
    replace kr := kr.of hn
    replace ks := ks.of hn
    replace hb0 := hb0.trans (hn.mono hb0.size)
    clear hn
    go_wp2_with fail
    refine (bigSign_any _ n 18 _ hbm).mono ?_
    rintro e w4 ⟨rfl, hn⟩
    replace kr := kr.of hn
    replace ks := ks.of hn
    replace hb0 := hb0.trans (hn.mono hb0.size)
    clear hn 
    clear hbm
    have cr := RVar.c kr
    go_wp2_with fail
    refine (right_is n d _ i2 true R1.out).mono ?_
    rintro e w5 ⟨rfl, hn⟩
    replace kr := kr.of hn
    replace ks := ks.of hn
    replace hb0 := hb0.trans (hn.mono hb0.size)
    clear hn 
    clear cr
    have cr := RVar.c kr
    have cs := RVar.c ks
    go_wp2_with fail
    refine (HT.out _).mono ?_
    rintro e w6 ⟨rfl, hn⟩
    replace kr := kr.of hn
    replace ks := ks.of hn
    replace hb0 := hb0.trans (hn.mono hb0.size)
    clear hn 
    clear cr cs
    go_wp2_with fail
    refine name_world ?_
    intro W hW
    replace kr : RVar W w.heap.size n d := by rw [hW]; exact kr
    replace ks : RVar W (w.heap.size + 1) m e := by rw [hW]; exact ks
    replace hb0 : Below w.heap.size w W := by rw [hW]; exact hb0
    clear hW
    have cr := RVar.c kr
    have cs := RVar.c ks
    have lr := kr.lt
    have ls := ks.lt
    have KR := Lib.hid kr
    have KS := Lib.hid ks
    clear kr ks
    refine wp_region_FG2 6 4 5 [(0, 0), (0, 2), (1, 1), (1, 3)] [(3, 6), (3, 7)] (by kernel_rfl) (by kernel_rfl) (fun _ _ d _ _ => by cases d <;> exact Iff.rfl) rfl rfl rfl allocBR rfl rfl rfl allocBR rfl ?_
    have hb : Below W.heap.size W W.drew := (Below.refl _ _).drew
    iterate 2
      refine wpFG_take0 rfl rfl ?_
      go_big_quiet_step (rfl)
      refine wpQuiet_nil ?_
    refine wpFG_do rfl ?_
    intro w1 hg K hK
    replace hb := hb.trans (hg.mono hb.size)
    try replace HA := Lib.hid (HA.out.of hg)
    clear hg
    go_wp2_with ((first | (go_at_call 20; (with_reducible refine (ref_any n d _ i1 i2).mono ?_); rintro e' wa ⟨vm, rfl, hbm, hn⟩; have HA := Lib.hid hbm; obtain ⟨m1, a1, l1, p1, m2, a2, l2, p2, rfl, _⟩ := hbm) | (go_at_call 20; (with_reducible refine (ref_any m e _ i3 i4).mono ?_); rintro e' wb ⟨vm, rfl, hbm, hn⟩; have HB := Lib.hid hbm; replace HA := Lib.hid (HA.out.of hn); obtain ⟨m3, a3, l3, p3, m4, a4, l4, p4, rfl, _⟩ := hbm)))
    refine hK.out _ _ hn ?_
    replace hb := hb.trans (hn.mono hb.size)
    clear hK K
    clear hn
    refine wpFG_do rfl ?_
    intro w1 hg K hK
    replace hb := hb.trans (hg.mono hb.size)
    try replace HA := Lib.hid (HA.out.of hg)
    clear hg
    go_wp2_with ((first | (go_at_call 20; (with_reducible refine (ref_any n d _ i1 i2).mono ?_); rintro e' wa ⟨vm, rfl, hbm, hn⟩; have HA := Lib.hid hbm; obtain ⟨m1, a1, l1, p1, m2, a2, l2, p2, rfl, _⟩ := hbm) | (go_at_call 20; (with_reducible refine (ref_any m e _ i3 i4).mono ?_); rintro e' wb ⟨vm, rfl, hbm, hn⟩; have HB := Lib.hid hbm; replace HA := Lib.hid (HA.out.of hn); obtain ⟨m3, a3, l3, p3, m4, a4, l4, p4, rfl, _⟩ := hbm)))
    refine hK.out _ _ hn ?_
    replace hb := hb.trans (hn.mono hb.size)
    clear hK K
    clear hn
    refine wpFG_nil ?_
    clear hb
    intro w1 hg hb b1 b2 hne lb1 nb1 lb2 nb2
    replace HA := Lib.hid (HA.out.of hg)
    replace HB := Lib.hid (HB.out.of hg)
    clear hg
    simp only [Act.put, ptrTo, List.setIfInBounds_toArray, List.set_cons_succ, List.set_cons_zero]
    have g1 : BRVar w1 b1 false none 0 0 false none 0 0 := nb1
    have g2 : BRVar w1 b2 false none 0 0 false none 0 0 := nb2
    have c1 := BRVar.c g1
    have f1 := BRVar.f g1
    have c2 := BRVar.c g2
    have f2 := BRVar.f g2
    clear cr cs lr ls
    refine wpG_do3 rfl ?_
    intro K hK
    go_wp2_with (fail)
    refine hK.out _ _ ?_
    clear hK K
    refine wpG_do3 rfl ?_
    intro K hK
    go_wp2_with (fail)
    refine hK.out _ _ ?_
    clear hK K
    refine wpG_nil ?_
    refine list_world ?_
    intro V hV
    have h1 : b1 ≠ b2 := hne
    have q2 : BRVar ((((w1.setCell ⟨b1, 0, none⟩ (.bool m1)).setCell ⟨b1, 1, none⟩ (.slice a1 l1 p1)).setCell ⟨b1, 2, none⟩ (.bool m2)).setCell ⟨b1, 3, none⟩ (.slice a2 l2 p2)) b2 false none 0 0 false none 0 0 := Blk.set4 g2 h1.symm _ _ _ _
    have hge1 : w.heap.size ≤ b1 := Nat.le_trans hb0.size lb1
    have hge2 : w.heap.size ≤ b2 := Nat.le_trans hb0.size lb2
    have kx : BRVar V b1 m1 a1 l1 p1 m2 a2 l2 p2 := by rw [hV]; exact Blk.set4 ((((Blk.put g1 0 _).put 1 _).put 2 _).put 3 _) h1 _ _ _ _
    have ky : BRVar V b2 m3 a3 l3 p3 m4 a4 l4 p4 := by rw [hV]; exact (((Blk.put q2 0 _).put 1 _).put 2 _).put 3 _
    obtain ⟨x1, x2⟩ := BRat.parts HA.out
    obtain ⟨y1, y2⟩ := BRat.parts HB.out
    have X1 := Lib.hid (show Big V (.agg #[.bool m1, .slice a1 l1 p1]) n 18 by rw [hV]; exact (x1.set4 (g1.cell 0) _ _ _ _).set4 (q2.cell 0) _ _ _ _)
    have X2 := Lib.hid (show Big V (.agg #[.bool m2, .slice a2 l2 p2]) d 18 by rw [hV]; exact (x2.set4 (g1.cell 0) _ _ _ _).set4 (q2.cell 0) _ _ _ _)
    have Y1 := Lib.hid (show Big V (.agg #[.bool m3, .slice a3 l3 p3]) m 18 by rw [hV]; exact (y1.set4 (g1.cell 0) _ _ _ _).set4 (q2.cell 0) _ _ _ _)
    have Y2 := Lib.hid (show Big V (.agg #[.bool m4, .slice a4 l4 p4]) e 18 by rw [hV]; exact (y2.set4 (g1.cell 0) _ _ _ _).set4 (q2.cell 0) _ _ _ _)
    have hr1 : w.heap.size ≠ b1 ∧ w.heap.size ≠ b2 := by have := KR.out.lt; omega
    have hs1 : w.heap.size + 1 ≠ b1 ∧ w.heap.size + 1 ≠ b2 := by have := KS.out.lt; omega
    have kr : RVar V w.heap.size n d := by rw [hV]; exact Blk.set4 (Blk.set4 (KR.out.of hb) hr1.1 _ _ _ _) hr1.2 _ _ _ _
    have ks : RVar V (w.heap.size + 1) m e := by rw [hV]; exact Blk.set4 (Blk.set4 (KS.out.of hb) hs1.1 _ _ _ _) hs1.2 _ _ _ _
    have hbV : Below w.heap.size w V := by rw [hV]; exact below_set4 (below_set4 (hb0.trans (hb.mono hb0.size)) hge1 _ _ _ _) hge2 _ _ _ _
    clear hV g1 g2 q2 nb1 nb2 c1 f1 c2 f2 lb1 lb2 hb KR KS hb0 hr1 hs1 x1 x2 y1 y2 HA HB hge1 hge2 h1 hne
    have cx := BRVar.c kx
    have cy := BRVar.c ky
    go_wp2_with fail
    refine (bigMul_any _ _ n e 18 18 _ X1.out Y2.out (by decide)).mono ?_
    rintro e v1 ⟨vm, rfl, hbm, hn⟩
    replace kr := kr.of hn
    replace ks := ks.of hn
    replace kx := kx.of hn
    replace ky := ky.of hn
    replace X1 := Lib.hid (X1.out.of hn)
    replace X2 := Lib.hid (X2.out.of hn)
    replace Y1 := Lib.hid (Y1.out.of hn)
    replace Y2 := Lib.hid (Y2.out.of hn)
    replace hbV := hbV.trans (hn.mono hbV.size)
    have H1 := Lib.hid hbm
    have hvm := hbm.shape
    clear hbm hn
    obtain ⟨n5, a5, q5, e5, rfl⟩ := hvm
    go_wp2_with fail
    refine (Fits_is _ (n * e) 36 o1 O1.out _ H1.out).mono ?_
    rintro e v2 ⟨rfl, hn⟩
    replace kr := kr.of hn
    replace ks := ks.of hn
    replace kx := kx.of hn
    replace ky := ky.of hn
    replace X1 := Lib.hid (X1.out.of hn)
    replace X2 := Lib.hid (X2.out.of hn)
    replace Y1 := Lib.hid (Y1.out.of hn)
    replace Y2 := Lib.hid (Y2.out.of hn)
    replace H1 := Lib.hid (H1.out.of hn)
    replace hbV := hbV.trans (hn.mono hbV.size)
    clear hn 
    clear H1
    clear cx cy
    have cx := BRVar.c kx
    have cy := BRVar.c ky
    cases o1
    · skip
      have cr := RVar.c kr
      have cs := RVar.c ks
      clear cx cy
      go_wp2_with fail
      refine (right_is n d _ i2 true R1.out).mono ?_
      rintro e y1 ⟨rfl, hn⟩
      replace kr := kr.of hn
      replace ks := ks.of hn
      replace kx := kx.of hn
      replace ky := ky.of hn
      replace X1 := Lib.hid (X1.out.of hn)
      replace X2 := Lib.hid (X2.out.of hn)
      replace Y1 := Lib.hid (Y1.out.of hn)
      replace Y2 := Lib.hid (Y2.out.of hn)
      replace hbV := hbV.trans (hn.mono hbV.size)
      clear hn 
      clear cr cs
      have cs := RVar.c ks
      go_wp2_with fail
      refine (right_is m e _ i4 r2 R2.out).mono ?_
      rintro e y2 ⟨rfl, hn⟩
      replace kr := kr.of hn
      replace ks := ks.of hn
      replace kx := kx.of hn
      replace ky := ky.of hn
      replace X1 := Lib.hid (X1.out.of hn)
      replace X2 := Lib.hid (X2.out.of hn)
      replace Y1 := Lib.hid (Y1.out.of hn)
      replace Y2 := Lib.hid (Y2.out.of hn)
      replace hbV := hbV.trans (hn.mono hbV.size)
      clear hn 
      clear cs
      cases r2
      · skip
        have ho : o = false := by have := HO.out; rw [← this]; simp
        have hc : c = 0 := by have := HC.out; rw [ho] at this; exact this.symm
        subst ho
        subst hc
        go_wp2_with fail
        refine (awake_any _).mono ?_
        rintro e' vz ⟨rfl, hn⟩
        have hbz := hbV.trans (hn.mono hbV.size)
        clear hn
        go_wp2
        go_ret
        exact ⟨rfl, hbz⟩
      · skip
        have ho : o = false := by have := HO.out; rw [← this]; simp
        have hc : c = 0 := by have := HC.out; rw [ho] at this; exact this.symm
        subst ho
        subst hc
        go_wp2_with fail
        refine (awake_any _).mono ?_
        rintro e' vz ⟨rfl, hn⟩
        have hbz := hbV.trans (hn.mono hbV.size)
        clear hn
        go_wp2
        go_ret
        exact ⟨rfl, hbz⟩
    · skip
      go_wp2_with fail
      refine (bigMul_any _ _ m d 18 18 _ Y1.out X2.out (by decide)).mono ?_
      rintro e v3 ⟨vm, rfl, hbm, hn⟩
      replace kr := kr.of hn
      replace ks := ks.of hn
      replace kx := kx.of hn
      replace ky := ky.of hn
      replace X1 := Lib.hid (X1.out.of hn)
      replace X2 := Lib.hid (X2.out.of hn)
      replace Y1 := Lib.hid (Y1.out.of hn)
      replace Y2 := Lib.hid (Y2.out.of hn)
      replace hbV := hbV.trans (hn.mono hbV.size)
      have H2 := Lib.hid hbm
      have hvm := hbm.shape
      clear hbm hn
      obtain ⟨n6, a6, q6, e6, rfl⟩ := hvm
      go_wp2_with fail
      refine (Fits_is _ (m * d) 36 o2 O2.out _ H2.out).mono ?_
      rintro e v4 ⟨rfl, hn⟩
      replace kr := kr.of hn
      replace ks := ks.of hn
      replace kx := kx.of hn
      replace ky := ky.of hn
      replace X1 := Lib.hid (X1.out.of hn)
      replace X2 := Lib.hid (X2.out.of hn)
      replace Y1 := Lib.hid (Y1.out.of hn)
      replace Y2 := Lib.hid (Y2.out.of hn)
      replace H2 := Lib.hid (H2.out.of hn)
      replace hbV := hbV.trans (hn.mono hbV.size)
      clear hn 
      clear H2
      cases o2
      · skip
        have cr := RVar.c kr
        have cs := RVar.c ks
        clear cx cy
        go_wp2_with fail
        refine (right_is n d _ i2 true R1.out).mono ?_
        rintro e y1 ⟨rfl, hn⟩
        replace kr := kr.of hn
        replace ks := ks.of hn
        replace kx := kx.of hn
        replace ky := ky.of hn
        replace X1 := Lib.hid (X1.out.of hn)
        replace X2 := Lib.hid (X2.out.of hn)
        replace Y1 := Lib.hid (Y1.out.of hn)
        replace Y2 := Lib.hid (Y2.out.of hn)
        replace hbV := hbV.trans (hn.mono hbV.size)
        clear hn 
        clear cr cs
        have cs := RVar.c ks
        go_wp2_with fail
        refine (right_is m e _ i4 r2 R2.out).mono ?_
        rintro e y2 ⟨rfl, hn⟩
        replace kr := kr.of hn
        replace ks := ks.of hn
        replace kx := kx.of hn
        replace ky := ky.of hn
        replace X1 := Lib.hid (X1.out.of hn)
        replace X2 := Lib.hid (X2.out.of hn)
        replace Y1 := Lib.hid (Y1.out.of hn)
        replace Y2 := Lib.hid (Y2.out.of hn)
        replace hbV := hbV.trans (hn.mono hbV.size)
        clear hn 
        clear cs
        cases r2
        · skip
          have ho : o = false := by have := HO.out; rw [← this]; simp
          have hc : c = 0 := by have := HC.out; rw [ho] at this; exact this.symm
          subst ho
          subst hc
          go_wp2_with fail
          refine (awake_any _).mono ?_
          rintro e' vz ⟨rfl, hn⟩
          have hbz := hbV.trans (hn.mono hbV.size)
          clear hn
          go_wp2
          go_ret
          exact ⟨rfl, hbz⟩
        · skip
          have ho : o = false := by have := HO.out; rw [← this]; simp
          have hc : c = 0 := by have := HC.out; rw [ho] at this; exact this.symm
          subst ho
          subst hc
          go_wp2_with fail
          refine (awake_any _).mono ?_
          rintro e' vz ⟨rfl, hn⟩
          have hbz := hbV.trans (hn.mono hbV.size)
          clear hn
          go_wp2
          go_ret
          exact ⟨rfl, hbz⟩
      · skip
        have cr := RVar.c kr
        have cs := RVar.c ks
        clear cx cy
        go_wp2_with fail
        refine (right_is n d _ i2 true R1.out).mono ?_
        rintro e y1 ⟨rfl, hn⟩
        replace kr := kr.of hn
        replace ks := ks.of hn
        replace kx := kx.of hn
        replace ky := ky.of hn
        replace X1 := Lib.hid (X1.out.of hn)
        replace X2 := Lib.hid (X2.out.of hn)
        replace Y1 := Lib.hid (Y1.out.of hn)
        replace Y2 := Lib.hid (Y2.out.of hn)
        replace hbV := hbV.trans (hn.mono hbV.size)
        clear hn 
        clear cr cs
        have cs := RVar.c ks
        go_wp2_with fail
        refine (right_is m e _ i4 r2 R2.out).mono ?_
        rintro e y2 ⟨rfl, hn⟩
        replace kr := kr.of hn
        replace ks := ks.of hn
        replace kx := kx.of hn
        replace ky := ky.of hn
        replace X1 := Lib.hid (X1.out.of hn)
        replace X2 := Lib.hid (X2.out.of hn)
        replace Y1 := Lib.hid (Y1.out.of hn)
        replace Y2 := Lib.hid (Y2.out.of hn)
        replace hbV := hbV.trans (hn.mono hbV.size)
        clear hn 
        clear cs
        cases r2
        · skip
          have ho : o = false := by have := HO.out; rw [← this]; simp
          have hc : c = 0 := by have := HC.out; rw [ho] at this; exact this.symm
          subst ho
          subst hc
          go_wp2_with fail
          refine (awake_any _).mono ?_
          rintro e' vz ⟨rfl, hn⟩
          have hbz := hbV.trans (hn.mono hbV.size)
          clear hn
          go_wp2
          go_ret
          exact ⟨rfl, hbz⟩
        · skip
          have ho : o = true := by have := HO.out; rw [← this]; rfl
          have hc : c = cmpI (n * e) (m * d) := by have := HC.out; rw [ho] at this; exact this.symm
          subst ho
          have cx := BRVar.c kx
          have cy := BRVar.c ky
          have HCC := Lib.hid hc.symm
          clear hc
          go_wp2_with fail
          have T := refCmp_any _ _ n d m e _ (BRat.mk (X1.out.mono (by decide : 18 ≤ 40)) (X2.out.mono (by decide : 18 ≤ 40))) (BRat.mk (Y1.out.mono (by decide : 18 ≤ 40)) (Y2.out.mono (by decide : 18 ≤ 40)))
          rw [HCC.out] at T
          refine T.mono ?_
          clear T
          rintro e' vy ⟨rfl, hn⟩
          replace hbV := hbV.trans (hn.mono hbV.size)
          have hcc : (c == c) = true := by simp
          clear hn cx cy
          go_wp2_with fail
          refine (awake_any _).mono ?_
          rintro e' vz ⟨rfl, hn⟩
          have hbz := hbV.trans (hn.mono hbV.size)
          clear hn
          go_wp2
          go_ret
          exact ⟨rfl, hbz⟩

theorem Orders_any (n d m e : Int) (w : World) (i1 : InI n) (i2 : InI d) (i3 : InI m) (i4 : InI e) :
    Calls Try.prog 14 #[rI n d, rI m e] w fun e' w' => e' = .returned (.bool true) ∧ Below w.heap.size w w' := by
  refine Orders_go n d m e w i1 i2 i3 i4 _ _ _ _ _ rfl rfl rfl rfl rfl _ rfl fun w => ?_
  have T := fun w => crossed_go n d m e w i1 i2 i3 i4 (okI (n * e)) (okI (m * d)) _ _ rfl rfl rfl rfl _ _ rfl rfl
  have U := RatCmp_go n d m e w _ _ _ ?_ ?_ T
  · cases h : (okI (n * e) && okI (m * d) && decide (0 < d) && decide (0 < e))
    · rw [h] at U; exact U
    · rw [h] at U
      have h1 : okI (n * e) = true := by cases g : okI (n * e) <;> simp [g] at h ⊢
      have h2 : okI (m * d) = true := by cases g : okI (m * d) <;> simp [g] at h ⊢
      rw [h1, h2] at U
      exact U
  · intro h
    have h1 : okI (n * e) = true := by cases g : okI (n * e) <;> simp [g] at h ⊢
    rw [h1]; exact of_decide_eq_true h1
  · intro h
    have h2 : okI (m * d) = true := by cases g : okI (m * d) <;> simp [g] at h ⊢
    rw [h2]; exact of_decide_eq_true h2
end Go.Proofs.Ytgddpkopbiendaa
