/- The walks of gromaref01's Fits, of package ratio's crossed and Cmp. Conditions: the numbers are numbers of 256 bits. -/
import Derived.Test.YtgddpkopbiendaaRatM
import Derived.Test.YtgddpkopbiendaaMul2
namespace Go.Proofs.Ytgddpkopbiendaa
open Go.RowKit

theorem cmp_ge {n m : Int} : decide (0 ≤ cmpI n m) = decide (m ≤ n) := by
  rcases Int.lt_trichotomy n m with h | h | h
  · rw [cmpI_lt h, Bool.eq_iff_iff, decide_eq_true_iff, decide_eq_true_iff]; omega
  · subst h; rw [cmpI_eq, Bool.eq_iff_iff, decide_eq_true_iff, decide_eq_true_iff]; omega
  · rw [cmpI_gt h, Bool.eq_iff_iff, decide_eq_true_iff, decide_eq_true_iff]; omega
theorem cmp_lt' {n m : Int} : decide (cmpI n m < 0) = decide (n < m) := by
  rcases Int.lt_trichotomy n m with h | h | h
  · rw [cmpI_lt h, Bool.eq_iff_iff, decide_eq_true_iff, decide_eq_true_iff]; omega
  · subst h; rw [cmpI_eq, Bool.eq_iff_iff, decide_eq_true_iff, decide_eq_true_iff]; omega
  · rw [cmpI_gt h, Bool.eq_iff_iff, decide_eq_true_iff, decide_eq_true_iff]; omega

set_option maxRecDepth 100000 in
set_option maxHeartbeats 2000000 in
theorem Fits_go (v : Value) (n : Int) (L : Nat) (w : World) (h : Big w v n L) (g1 g2 : Int) (hg1 : cmpI n (-b255) = g1) (hg2 : cmpI n b255 = g2) (x y : Bool) (hx : decide (0 ≤ g1) = x) (hy : decide (g2 < 0) = y) :
    Calls Try.prog 60 #[v] w fun e w' => e = .returned (.bool (x && y)) ∧ Below w.heap.size w w' := by
  have hv := h.shape
  obtain ⟨n1, a1, q1, e1, rfl⟩ := hv
  have HA := Lib.hid h
  have G1 := Lib.hid hg1
  have G2 := Lib.hid hg2
  clear h hg1 hg2
  go_enter Try.func60, Try.ntmps60
  go_wp2_with fail
  refine calls_w ?_
  intro W hW
  have k0 : BigVar W w.heap.size n1 a1 q1 e1 := by rw [hW]; exact Blk.new _ _ _
  have hb0 : Below w.heap.size w W := by rw [hW]; exact below_a1 _ _
  clear hW
  refine (Power_any 255 _ (by decide)).mono ?_
  rintro e u1 ⟨vm, rfl, hbm, hn⟩
  replace k0 : BigVar u1 _ _ _ _ _ := k0.of hn
  replace hb0 := hb0.trans (hn.mono hb0.size)
  rw [p255] at hbm
  have HP := Lib.hid hbm
  have hvm := hbm.shape
  clear hbm hn
  obtain ⟨n2, a2, q2, e2, rfl⟩ := hvm
  go_wp2_with fail
  refine name_world ?_
  intro V hV
  have hv : Below u1.heap.size u1 V := by rw [hV]; exact below_a1 _ _
  have kp : BigVar V u1.heap.size n2 a2 q2 e2 := by rw [hV]; exact Blk.new _ _ _
  replace k0 : BigVar V _ _ _ _ _ := k0.of hv
  replace HP := Lib.hid (HP.out.of hv)
  replace hb0 := hb0.trans (hv.mono hb0.size)
  have HV := Lib.hid (HA.out.of hb0)
  have c0 := BigVar.c k0
  have cp := BigVar.c kp
  have l0 := k0.lt
  have lp := kp.lt
  clear hV hv k0 kp HA
  cases x
  · skip
    refine wp_region_up V.heap.size 8 [(true, 0), (true, 1), (false, 2), (false, 3), (true, 4), (true, 5), (true, 6), (true, 7)] (by kernel_rfl) (by kernel_rfl) (fun _ _ d _ _ h => by cases d <;> exact h) ?_
    have hb : Below V.heap.size V V.drew := (Below.refl _ _).drew
    iterate 2
      refine wpS_takeL rfl rfl ?_
      go_big_quiet_step (rfl)
      refine wpQuiet_nil ?_
    refine wpS_doL rfl ?_
    intro K hK
    go_wp2_with ((first | (go_at_call 26; refine (Minus_any _ _ _ _ (HP.out.of hb)).mono ?_; rintro e w2 ⟨vm, rfl, hbm, hn⟩; have HM := Lib.hid hbm; have hvm := hbm.shape; clear hbm; obtain ⟨n3, a3, q3, e3, rfl⟩ := hvm) | (go_at_call 24; refine (bigCmp_is _ _ n (-b255) L _ g1 G1.out _ (HV.out.of hb) HM.out).mono ?_; rintro e w3 ⟨rfl, hn⟩)))
    replace hb := hb.trans (hn.mono hb.size)
    refine hK.out _ _ (up_iff.2 hb) ?_
    clear hK K
    clear hn
    refine wpS_doL rfl ?_
    intro K hK
    go_wp2_with ((first | (go_at_call 26; refine (Minus_any _ _ _ _ (HP.out.of hb)).mono ?_; rintro e w2 ⟨vm, rfl, hbm, hn⟩; have HM := Lib.hid hbm; have hvm := hbm.shape; clear hbm; obtain ⟨n3, a3, q3, e3, rfl⟩ := hvm) | (go_at_call 24; refine (bigCmp_is _ _ n (-b255) L _ g1 G1.out _ (HV.out.of hb) HM.out).mono ?_; rintro e w3 ⟨rfl, hn⟩)))
    replace hb := hb.trans (hn.mono hb.size)
    refine hK.out _ _ (up_iff.2 hb) ?_
    clear hK K
    clear hn
    iterate 4
      refine wpS_takeL rfl rfl ?_
      go_big_quiet_step (rfl)
      refine wpQuiet_nil ?_
    refine wpS_nil ?_
    simp only [List.drop_succ_cons, List.drop_zero]
    have hb2 := hb0.trans (hb.mono hb0.size)
    clear c0 cp l0 lp hb
    go_wp2
    go_ret
    exact ⟨rfl, hb2⟩
  · skip
    refine wp_region_up V.heap.size 8 [(true, 0), (true, 1), (false, 2), (false, 3), (true, 4), (true, 5), (true, 6), (true, 7)] (by kernel_rfl) (by kernel_rfl) (fun _ _ d _ _ h => by cases d <;> exact h) ?_
    have hb : Below V.heap.size V V.drew := (Below.refl _ _).drew
    iterate 2
      refine wpS_takeL rfl rfl ?_
      go_big_quiet_step (rfl)
      refine wpQuiet_nil ?_
    refine wpS_doL rfl ?_
    intro K hK
    go_wp2_with ((first | (go_at_call 26; refine (Minus_any _ _ _ _ (HP.out.of hb)).mono ?_; rintro e w2 ⟨vm, rfl, hbm, hn⟩; have HM := Lib.hid hbm; have hvm := hbm.shape; clear hbm; obtain ⟨n3, a3, q3, e3, rfl⟩ := hvm) | (go_at_call 24; refine (bigCmp_is _ _ n (-b255) L _ g1 G1.out _ (HV.out.of hb) HM.out).mono ?_; rintro e w3 ⟨rfl, hn⟩)))
    replace hb := hb.trans (hn.mono hb.size)
    refine hK.out _ _ (up_iff.2 hb) ?_
    clear hK K
    clear hn
    refine wpS_doL rfl ?_
    intro K hK
    go_wp2_with ((first | (go_at_call 26; refine (Minus_any _ _ _ _ (HP.out.of hb)).mono ?_; rintro e w2 ⟨vm, rfl, hbm, hn⟩; have HM := Lib.hid hbm; have hvm := hbm.shape; clear hbm; obtain ⟨n3, a3, q3, e3, rfl⟩ := hvm) | (go_at_call 24; refine (bigCmp_is _ _ n (-b255) L _ g1 G1.out _ (HV.out.of hb) HM.out).mono ?_; rintro e w3 ⟨rfl, hn⟩)))
    replace hb := hb.trans (hn.mono hb.size)
    refine hK.out _ _ (up_iff.2 hb) ?_
    clear hK K
    clear hn
    iterate 4
      refine wpS_takeL rfl rfl ?_
      go_big_quiet_step (rfl)
      refine wpQuiet_nil ?_
    refine wpS_nil ?_
    simp only [List.drop_succ_cons, List.drop_zero]
    have hb2 := hb0.trans (hb.mono hb0.size)
    clear c0 cp l0 lp hb0
    go_wp2_with fail
    refine (bigCmp_is _ _ n b255 L _ g2 G2.out _ (HV.out.of hb) (HP.out.of hb)).mono ?_
    rintro e w4 ⟨rfl, hn⟩
    replace hb2 := hb2.trans (hn.mono hb2.size)
    clear hn hb
    go_wp2
    go_ret
    exact ⟨rfl, hb2⟩
theorem Fits_is (v : Value) (n : Int) (L : Nat) (b : Bool) (hb : okI n = b) (w : World) (h : Big w v n L) :
    Calls Try.prog 60 #[v] w fun e w' => e = .returned (.bool b) ∧ Below w.heap.size w w' := by
  have T := Fits_go v n L w h _ _ rfl rfl _ _ cmp_ge cmp_lt'
  have e : (decide (-b255 ≤ n) && decide (n < b255)) = b := by rw [← hb]; unfold okI; rw [Bool.eq_iff_iff, Bool.and_eq_true, decide_eq_true_iff, decide_eq_true_iff, decide_eq_true_iff]; rfl
  rw [e] at T
  exact T

/-- where crossed stands -/
structure CrAt (w : World) (n d m e p q : Int) (wr : World) : Prop where
  kr : RVar wr w.heap.size n d
  ks : RVar wr (w.heap.size + 1) m e
  kp : Var wr (w.heap.size + 1 + 1) p
  kq : Var wr (w.heap.size + 1 + 1 + 1) q
  below : Below w.heap.size w wr
theorem CrAt.of {w : World} {n d m e p q : Int} {wr w' : World} (h : CrAt w n d m e p q wr) (hn : Below wr.heap.size wr w') : CrAt w n d m e p q w' :=
  ⟨h.kr.of hn, h.ks.of hn, h.kp.of hn, h.kq.of hn, h.below.trans (hn.mono h.below.size)⟩
theorem CrAt.setp {w : World} {n d m e p q : Int} {wr : World} (h : CrAt w n d m e p q wr) (y : Int) : CrAt w n d m e y q
    ((((wr.setCell ⟨w.heap.size + 1 + 1, 0, none⟩ (.int .u64 (wd0 y))).setCell ⟨w.heap.size + 1 + 1, 1, none⟩ (.int .u64 (wd1 y))).setCell ⟨w.heap.size + 1 + 1, 2, none⟩ (.int .u64 (wd2 y))).setCell ⟨w.heap.size + 1 + 1, 3, none⟩ (.int .u64 (wd3 y))) :=
  ⟨Blk.set4 h.kr (by omega) _ _ _ _, Blk.set4 h.ks (by omega) _ _ _ _, Var.put4 h.kp y, Blk.set4 h.kq (by omega) _ _ _ _, below_set4 h.below (by omega) _ _ _ _⟩
theorem CrAt.setq {w : World} {n d m e p q : Int} {wr : World} (h : CrAt w n d m e p q wr) (y : Int) : CrAt w n d m e p y
    ((((wr.setCell ⟨w.heap.size + 1 + 1 + 1, 0, none⟩ (.int .u64 (wd0 y))).setCell ⟨w.heap.size + 1 + 1 + 1, 1, none⟩ (.int .u64 (wd1 y))).setCell ⟨w.heap.size + 1 + 1 + 1, 2, none⟩ (.int .u64 (wd2 y))).setCell ⟨w.heap.size + 1 + 1 + 1, 3, none⟩ (.int .u64 (wd3 y))) :=
  ⟨Blk.set4 h.kr (by omega) _ _ _ _, Blk.set4 h.ks (by omega) _ _ _ _, Blk.set4 h.kp (by omega) _ _ _ _, Var.put4 h.kq y, below_set4 h.below (by omega) _ _ _ _⟩

theorem setCell_same {w : World} {b o : Nat} {v : Value} (h : w.cell? ⟨b, o, none⟩ = some v) : w.setCell ⟨b, o, none⟩ v = w := by
  have hh : (w.setCell ⟨b, o, none⟩ v).heap = w.heap := by
    apply Array.ext_getElem?
    intro k
    by_cases hk : k = b
    · subst hk
      show (w.heap.modify k _)[k]? = _
      rw [Array.getElem?_modify, if_pos rfl]
      unfold World.cell? at h
      cases hb : w.heap[k]? with
      | none => rfl
      | some o' =>
        rw [hb] at h
        cases o' with
        | cells c t f =>
          simp at h
          simp
          apply Array.ext_getElem?
          intro j
          rw [Array.getElem?_setIfInBounds]
          by_cases hj : o = j
          · subst hj
            rw [if_pos rfl]
            have := (Array.getElem?_eq_some_iff.1 h).1
            rw [if_pos this, h]
          · rw [if_neg hj]
        | _ => simp at h
    · exact Below.heap_setCell _ _ _ _ hk
  have e : w.setCell ⟨b, o, none⟩ v = { w with heap := (w.setCell ⟨b, o, none⟩ v).heap } := rfl
  rw [e, hh]
theorem set4_same {w : World} {b : Nat} {x : Int} (h : Var w b x) :
    ((((w.setCell ⟨b, 0, none⟩ (.int .u64 (wd0 x))).setCell ⟨b, 1, none⟩ (.int .u64 (wd1 x))).setCell ⟨b, 2, none⟩ (.int .u64 (wd2 x))).setCell ⟨b, 3, none⟩ (.int .u64 (wd3 x))) = w := by
  obtain ⟨c0, c1, c2, c3⟩ := Var.c h
  rw [setCell_same c0, setCell_same c1, setCell_same c2, setCell_same c3]
theorem same_K {K : Act → World → Prop} {a : Act} {w w' : World} (e : w' = w) (h : Below w.heap.size w w → K a w) : K a w' := e ▸ h (Below.refl _ _)

set_option maxRecDepth 100000 in
set_option maxHeartbeats 4000000 in
theorem crossed_go (n d m e : Int) (w : World) (i1 : InI n) (i2 : InI d) (i3 : InI m) (i4 : InI e) (o1 o2 r1 r2 : Bool) (ho1 : okI (n * e) = o1) (ho2 : okI (m * d) = o2) (hr1 : decide (0 < d) = r1) (hr2 : decide (0 < e) = r2)
    (p q : Int) (hp : (bif o1 then n * e else 0) = p) (hq : (bif o2 then m * d else 0) = q) :
    Calls Try.prog 91 #[rI n d, rI m e] w fun e' w' => e' = .returned (.tuple #[wI p, wI q, .bool (o1 && o2 && r1 && r2)]) ∧ Below w.heap.size w w' := by
  have O1 := Lib.hid ho1
  have O2 := Lib.hid ho2
  have R1 := Lib.hid hr1
  have R2 := Lib.hid hr2
  have HP := Lib.hid hp
  have HQ := Lib.hid hq
  clear ho1 ho2 hr1 hr2 hp hq
  go_enter Try.func91, Try.ntmps91
  go_wp2_with fail
  refine calls_w ?_
  intro W hW
  have hd : CrAt w n d m e 0 0 W := by
    rw [hW]
    exact ⟨((Blk.new _ _ _).alloc _).alloc _ |>.alloc _, ((Blk.new1 _ _ _ _).alloc _).alloc _, (Blk.new2 _ _ _ _ _).alloc _, Blk.new3 _ _ _ _ _ _, (((Below.refl _ _).alloc (Nat.le_refl _) _).alloc (by simp) _).alloc (by simp; omega) _ |>.alloc (by simp; omega) _⟩
  clear hW
  refine (Mul_is n e o1 O1.out p HP.out _ i1 i4).mono ?_
  rintro e' u1 ⟨rfl, hn⟩
  replace hd := hd.of hn
  clear hn
  have cp := Var.c hd.kp
  have fp := Var.f hd.kp
  have cr := RVar.c hd.kr
  have cs := RVar.c hd.ks
  have HD := Lib.hid hd
  clear hd
  go_wp2_with fail
  refine calls_w ?_
  intro V hV
  have hd : CrAt w n d m e p 0 V := by rw [hV]; exact HD.out.setp _
  clear hV cp fp cr cs HD
  refine (Mul_is m d o2 O2.out q HQ.out _ i3 i2).mono ?_
  rintro e' u2 ⟨rfl, hn⟩
  replace hd := hd.of hn
  clear hn
  have cq := Var.c hd.kq
  have fq := Var.f hd.kq
  have HD := Lib.hid hd
  clear hd
  go_wp2_with fail
  refine name_world ?_
  intro V hV
  have hd : CrAt w n d m e p q V := by rw [hV]; exact HD.out.setq _
  clear hV cq fq HD
  have cr := RVar.c hd.kr
  have cs := RVar.c hd.ks
  have cp := Var.c hd.kp
  have cq := Var.c hd.kq
  have fpv := Var.f hd.kp
  have fqv := Var.f hd.kq
  have lr := hd.kr.lt
  have ls := hd.ks.lt
  have lp := hd.kp.lt
  have lq := hd.kq.lt
  have HD := Lib.hid hd
  clear hd
  have hcase : o1 = false ∨ (o1 = true ∧ o2 = false) ∨ (o1 = true ∧ o2 = true ∧ r1 = false) ∨ (o1 = true ∧ o2 = true ∧ r1 = true) := by
    cases o1 <;> cases o2 <;> cases r1 <;> simp
  rcases hcase with rfl | ⟨rfl, rfl⟩ | ⟨rfl, rfl, rfl⟩ | ⟨rfl, rfl, rfl⟩
  all_goals
    refine wp_region_up V.heap.size 16 [(true, 0), (true, 1), (true, 2), (true, 3), (true, 4), (true, 5), (true, 6), (true, 7), (false, 8), (true, 9), (true, 10), (true, 11), (false, 12), (true, 13), (false, 14), (false, 15)] (by kernel_rfl) (by kernel_rfl) (fun _ _ d _ _ h => by cases d <;> exact h) ?_
    have hb : Below V.heap.size V V.drew := (Below.refl _ _).drew
    iterate 8
      refine wpS_takeL rfl rfl ?_
      go_big_quiet_step (rfl)
      refine wpQuiet_nil ?_
    refine wpS_doL rfl ?_
    intro K hK
    have hdw := HD.out.of hb; have gp := Var.c hdw.kp; have gpf := Var.f hdw.kp; have gq := Var.c hdw.kq; have gqf := Var.f hdw.kq; have SP := Lib.hid hdw.kp; have SQ := Lib.hid hdw.kq; clear hdw
    go_wp2_with ((first | (go_at_call 29; (with_reducible refine (Right_is n d _ i2 _ R1.out).mono ?_); rintro e w2 ⟨rfl, hn⟩) | (go_at_call 29; (with_reducible refine (Right_is m e _ i4 _ R2.out).mono ?_); rintro e w2 ⟨rfl, hn⟩)))
    try (first | (refine same_K (set4_same SP.out) ?_; intro hn) | (refine same_K (set4_same SQ.out) ?_; intro hn))
    try replace hb := hb.trans (hn.mono hb.size)
    refine hK.out _ _ (up_iff.2 hb) ?_
    clear hK K
    try clear hn
    try clear gp gpf gq gqf SP SQ
    iterate 3
      refine wpS_takeL rfl rfl ?_
      go_big_quiet_step (rfl)
      refine wpQuiet_nil ?_
    refine wpS_doL rfl ?_
    intro K hK
    have hdw := HD.out.of hb; have gp := Var.c hdw.kp; have gpf := Var.f hdw.kp; have gq := Var.c hdw.kq; have gqf := Var.f hdw.kq; have SP := Lib.hid hdw.kp; have SQ := Lib.hid hdw.kq; clear hdw
    go_wp2_with ((first | (go_at_call 29; (with_reducible refine (Right_is n d _ i2 _ R1.out).mono ?_); rintro e w2 ⟨rfl, hn⟩) | (go_at_call 29; (with_reducible refine (Right_is m e _ i4 _ R2.out).mono ?_); rintro e w2 ⟨rfl, hn⟩)))
    try (first | (refine same_K (set4_same SP.out) ?_; intro hn) | (refine same_K (set4_same SQ.out) ?_; intro hn))
    try replace hb := hb.trans (hn.mono hb.size)
    refine hK.out _ _ (up_iff.2 hb) ?_
    clear hK K
    try clear hn
    try clear gp gpf gq gqf SP SQ
    refine wpS_takeL rfl rfl ?_
    go_big_quiet_step (rfl)
    refine wpQuiet_nil ?_
    refine wpS_doL rfl ?_
    intro K hK
    have hdw := HD.out.of hb; have gp := Var.c hdw.kp; have gpf := Var.f hdw.kp; have gq := Var.c hdw.kq; have gqf := Var.f hdw.kq; have SP := Lib.hid hdw.kp; have SQ := Lib.hid hdw.kq; clear hdw
    go_wp2_with ((first | (go_at_call 29; (with_reducible refine (Right_is n d _ i2 _ R1.out).mono ?_); rintro e w2 ⟨rfl, hn⟩) | (go_at_call 29; (with_reducible refine (Right_is m e _ i4 _ R2.out).mono ?_); rintro e w2 ⟨rfl, hn⟩)))
    try (first | (refine same_K (set4_same SP.out) ?_; intro hn) | (refine same_K (set4_same SQ.out) ?_; intro hn))
    replace hb := hb.trans (hn.mono hb.size)
    refine hK.out _ _ (up_iff.2 hb) ?_
    clear hK K
    clear hn
    try clear gp gpf gq gqf SP SQ
    refine wpS_doL rfl ?_
    intro K hK
    have hdw := HD.out.of hb; have gp := Var.c hdw.kp; have gpf := Var.f hdw.kp; have gq := Var.c hdw.kq; have gqf := Var.f hdw.kq; have SP := Lib.hid hdw.kp; have SQ := Lib.hid hdw.kq; clear hdw
    go_wp2_with ((first | (go_at_call 29; (with_reducible refine (Right_is n d _ i2 _ R1.out).mono ?_); rintro e w2 ⟨rfl, hn⟩) | (go_at_call 29; (with_reducible refine (Right_is m e _ i4 _ R2.out).mono ?_); rintro e w2 ⟨rfl, hn⟩)))
    try (first | (refine same_K (set4_same SP.out) ?_; intro hn) | (refine same_K (set4_same SQ.out) ?_; intro hn))
    replace hb := hb.trans (hn.mono hb.size)
    refine hK.out _ _ (up_iff.2 hb) ?_
    clear hK K
    clear hn
    try clear gp gpf gq gqf SP SQ
    refine wpS_nil ?_
    simp only [List.drop_succ_cons, List.drop_zero]
    have hd := HD.out.of hb
    have hbf := hd.below
    clear cr cs cp cq fpv fqv lr ls lp lq hb HD
    have cp := Var.c hd.kp
    have cq := Var.c hd.kq
    clear hd
    go_wp2
    simp [bodyPost, results, Try.results91, go_sem, cp, cq]
    exact hbf
end Go.Proofs.Ytgddpkopbiendaa
