/- The walks of package ratio: Of, Sign; of wide: Small; of gromaref02: Cmp, Halves. Conditions: the numbers are numbers of 256 bits. -/
import Derived.Test.YtgddpkopbiendaaRatio4
namespace Go.Proofs.Ytgddpkopbiendaa
open Go.RowKit

set_option maxRecDepth 100000 in
set_option maxHeartbeats 1000000 in
theorem RatOf_any (k : Int) (w : World) (hk : In64 k) :
    Calls Try.prog 30 #[.int .i64 k] w fun e w' => e = .returned (rI k 1) ∧ Below w.heap.size w w' := by
  go_enter Try.func30, Try.ntmps30
  go_wp2_with fail
  refine calls_w ?_
  intro W hW
  have k0 : RVar W w.heap.size 0 0 := by rw [hW]; exact Blk.new _ _ _
  have hb0 : Below w.heap.size w W := by rw [hW]; exact below_a1 _ _
  clear hW
  refine (Of_any k _ hk).mono ?_
  rintro e w2 ⟨rfl, hn⟩
  replace k0 : RVar w2 _ _ _ := k0.of hn
  replace hb0 := hb0.trans (hn.mono hb0.size)
  clear hn
  go_wp2_with fail
  refine (Of_any 1 _ (by unfold In64; decide)).mono ?_
  rintro e w3 ⟨rfl, hn⟩
  replace k0 : RVar w3 _ _ _ := k0.of hn
  replace hb0 := hb0.trans (hn.mono hb0.size)
  clear hn
  have c := RVar.c k0
  have f := RVar.f k0
  have K0 := Lib.hid k0
  clear k0
  go_wp2
  refine post_world ?_
  intro Wf hWf
  have kf : RVar Wf w.heap.size k 1 := by rw [hWf]; exact put8 K0.out k 1
  have hbf : Below w.heap.size w Wf := by rw [hWf]; exact below_set8 hb0 (by omega) k 1
  have c := RVar.c kf
  clear hWf
  simp [bodyPost, results, Try.results30, go_sem, c]
  exact hbf

set_option maxRecDepth 100000 in
set_option maxHeartbeats 1000000 in
theorem RatSign_any (n d : Int) (w : World) (hn : InI n) (hd : InI d) (b : Bool) (hr : decide (0 < d) = b) :
    Calls Try.prog 61 #[rI n d] w fun e w' => e = .returned (.int .i64 (bif b then n.sign else 0)) ∧ Below w.heap.size w w' := by
  have HR := Lib.hid hr
  clear hr
  go_enter Try.func61, Try.ntmps61
  go_wp2_with fail
  refine calls_w ?_
  intro W hW
  have kr : RVar W w.heap.size n d := by rw [hW]; exact Blk.new _ _ _
  have hb0 : Below w.heap.size w W := by rw [hW]; exact below_a1 _ _
  clear hW
  refine (Right_is n d _ hd b HR.out).mono ?_
  rintro e w2 ⟨rfl, hn1⟩
  replace kr : RVar w2 _ _ _ := kr.of hn1
  replace hb0 := hb0.trans (hn1.mono hb0.size)
  have c := RVar.c kr
  clear hn1 kr HR
  cases b
  · go_wp2
    go_ret
    exact ⟨rfl, hb0⟩
  · go_wp2_with fail
    refine (Sign_any n _ hn).mono ?_
    rintro e w3 ⟨rfl, hn1⟩
    go_wp2
    go_ret
    exact ⟨rfl, hb0.trans (hn1.mono hb0.size)⟩

/-- a fraction of two Bigs -/
def BRat (w : World) (v : Value) (n d : Int) (L : Nat) : Prop :=
  ∃ (n1 : Bool) (a1 : Option Addr) (l1 c1 : Nat) (n2 : Bool) (a2 : Option Addr) (l2 c2 : Nat), v = .agg #[.bool n1, .slice a1 l1 c1, .bool n2, .slice a2 l2 c2] ∧ Big w (.agg #[.bool n1, .slice a1 l1 c1]) n L ∧ Big w (.agg #[.bool n2, .slice a2 l2 c2]) d L
theorem BRat.of {w w' : World} {v : Value} {n d : Int} {L : Nat} (h : BRat w v n d L) (hb : Below w.heap.size w w') : BRat w' v n d L := by
  obtain ⟨n1, a1, l1, c1, n2, a2, l2, c2, h1, h2, h3⟩ := h
  exact ⟨n1, a1, l1, c1, n2, a2, l2, c2, h1, h2.of hb, h3.of hb⟩
def GivesRat (w : World) (n d : Int) (L : Nat) (e : Ending) (w' : World) : Prop := ∃ v, e = .returned v ∧ BRat w' v n d L ∧ Below w.heap.size w w'

set_option maxRecDepth 100000 in
set_option maxHeartbeats 1000000 in
theorem refCmp_any (v v' : Value) (n d m e : Int) (w : World) (h : BRat w v n d 40) (h' : BRat w v' m e 40) :
    Calls Try.prog 33 #[v, v'] w fun e' w' => e' = .returned (.int .i64 (cmpI (n * e) (m * d))) ∧ Below w.heap.size w w' := by
  obtain ⟨n1, a1, l1, c1, n2, a2, l2, c2, rfl, hb1, hb2⟩ := h
  obtain ⟨n3, a3, l3, c3, n4, a4, l4, c4, rfl, hb3, hb4⟩ := h'
  have H1 := Lib.hid hb1
  have H2 := Lib.hid hb2
  have H3 := Lib.hid hb3
  have H4 := Lib.hid hb4
  clear hb1 hb2 hb3 hb4
  go_enter Try.func33, Try.ntmps33
  go_wp2_with fail
  refine name_world ?_
  intro W hW
  have k0 : Blk W w.heap.size #[.bool n1, .slice a1 l1 c1, .bool n2, .slice a2 l2 c2] 35 := by rw [hW]; exact (Blk.new _ _ _).alloc _
  have k1 : Blk W (w.heap.size + 1) #[.bool n3, .slice a3 l3 c3, .bool n4, .slice a4 l4 c4] 35 := by rw [hW]; exact Blk.new1 _ _ _ _
  have hb0 : Below w.heap.size w W := by rw [hW]; exact below_a2 _ _ _
  clear hW
  have c : (W.cell? ⟨w.heap.size, 0, none⟩ = some (.bool n1) ∧ W.cell? ⟨w.heap.size, 1, none⟩ = some (.slice a1 l1 c1)) ∧ (W.cell? ⟨w.heap.size, 2, none⟩ = some (.bool n2) ∧ W.cell? ⟨w.heap.size, 3, none⟩ = some (.slice a2 l2 c2)) := ⟨⟨k0.cell 0, k0.cell 1⟩, k0.cell 2, k0.cell 3⟩
  have c' : (W.cell? ⟨w.heap.size + 1, 0, none⟩ = some (.bool n3) ∧ W.cell? ⟨w.heap.size + 1, 1, none⟩ = some (.slice a3 l3 c3)) ∧ (W.cell? ⟨w.heap.size + 1, 2, none⟩ = some (.bool n4) ∧ W.cell? ⟨w.heap.size + 1, 3, none⟩ = some (.slice a4 l4 c4)) := ⟨⟨k1.cell 0, k1.cell 1⟩, k1.cell 2, k1.cell 3⟩
  have l0 := k0.lt
  have l1' := k1.lt
  clear k0 k1
  have G1 := Lib.hid (H1.out.of hb0)
  have G2 := Lib.hid (H2.out.of hb0)
  have G3 := Lib.hid (H3.out.of hb0)
  have G4 := Lib.hid (H4.out.of hb0)
  clear H1 H2 H3 H4
  refine wp_region_up W.heap.size 9 [(true, 0), (true, 1), (true, 2), (true, 3), (true, 5), (true, 6), (true, 7), (true, 8), (false, 4)] (by kernel_rfl) (by kernel_rfl) (fun _ _ d _ _ h => by cases d <;> exact h) ?_
  have hb : Below W.heap.size W W.drew := (Below.refl _ _).drew
  iterate 8
    refine wpS_takeL rfl rfl ?_
    go_big_quiet_step (rfl)
    refine wpQuiet_nil ?_
  refine wpS_doL rfl ?_
  intro K hK
  go_wp2_with ((go_at_call 21; refine (bigMul_any _ _ n e 40 40 _ (G1.out.of hb) (G4.out.of hb) (by decide)).mono ?_; rintro e w2 ⟨vm, rfl, hbm, hn⟩; have HM := Lib.hid hbm; have hvm := hbm.shape; clear hbm; obtain ⟨n5, a5, q5, e5, rfl⟩ := hvm))
  replace hb := hb.trans (hn.mono hb.size)
  refine hK.out _ _ (up_iff.2 hb) ?_
  clear hK K
  clear hn
  refine wpS_nil ?_
  simp only [List.drop_succ_cons, List.drop_zero]
  have hb2 : Below w.heap.size w w2 := hb0.trans (hb.mono hb0.size)
  clear c c' l0 l1' hb0
  go_wp2_with fail
  refine (bigMul_any _ _ m d 40 40 _ (G3.out.of hb) (G2.out.of hb) (by decide)).mono ?_
  rintro e w3 ⟨vm, rfl, hbm, hn⟩
  have HM2 := Lib.hid hbm
  have HM1 := Lib.hid (HM.out.of hn)
  have hvm := hbm.shape
  replace hb2 := hb2.trans (hn.mono hb2.size)
  clear hbm hn hb HM
  obtain ⟨n6, a6, q6, e6, rfl⟩ := hvm
  go_wp2_with fail
  refine (bigCmp_any _ _ _ _ 80 80 _ HM1.out HM2.out).mono ?_
  rintro e1 w4 ⟨rfl, hn⟩
  go_wp2
  go_ret
  exact ⟨rfl, hb2.trans (hn.mono hb2.size)⟩

theorem dval_even {d : Int} {t : List Int} : dval (d :: t) % 2 = d % 2 := by
  rw [dval]; omega

set_option maxRecDepth 100000 in
set_option maxHeartbeats 1000000 in
theorem Halves_any (v : Value) (n : Int) (L : Nat) (w : World) (h : Big w v n L) (z : Bool) (hz : decide (n % 2 = 0) = z) :
    Calls Try.prog 34 #[v] w fun e w' => e = .returned (.bool z) ∧ Below w.heap.size w w' := by
  obtain ⟨neg, ao, b, cap, ds, rfl, hs, hd, hn, hnil, hv, hl⟩ := h
  cases ds with
  | nil =>
    have hz' : z = true := by rw [← hz, hv]; cases neg <;> simp [dval]
    subst hz'
    clear hz hv hn hnil hd hs hl
    have hlen : ([] : List Int).length = 0 := rfl
    rw [hlen]
    clear hlen
    go_enter Try.func34, Try.ntmps34
    go_wp2
    go_ret
    exact ⟨rfl, below_a1 _ _⟩
  | cons d t =>
    have hz' : (d % 2 == 0) = z := by
      rw [← hz, hv, Bool.eq_iff_iff, beq_iff_eq, decide_eq_true_iff]
      have := dval_even (d := d) (t := t)
      cases neg <;> simp only [cond_true, cond_false] <;> omega
    have hc := hs.cell 0 (by simp)
    have hb := hs.blk (by simp)
    obtain rfl := hs.ptr (by simp)
    have hlen : (d :: t).length = t.length + 1 := rfl
    have hcap := hs.capl
    have hll := hs.len
    rw [hlen] at hcap hll ⊢
    have d0 := hd d (List.mem_cons_self ..)
    obtain ⟨d0, d1⟩ := d0
    rw [List.getD_cons_zero] at hc
    have hl0 : ((t.length : Int) + 1 == 0) = false := by simp; omega
    clear hz hv hn hnil hd hs hl hlen
    obtain ⟨N, hN⟩ : ∃ N, N = t.length := ⟨_, rfl⟩
    rw [← hN] at hcap hll hl0 ⊢
    clear hN
    go_enter Try.func34, Try.ntmps34
    go_wp2
    go_ret
    exact ⟨rfl, below_a1 _ _⟩

theorem i64_u64 {x : Int} (h0 : 0 ≤ x) (h1 : x < 18446744073709551616) : In64 (IntKind.i64.wrap x) ∧ wd0 (IntKind.i64.wrap x) = x := by
  rw [IntKind.wrap_i64]; unfold In64 wd0 b64; omega
instance (x : Int) : Decidable (In64 x) := by unfold In64; exact inferInstance
theorem small_eq {x : Int} (ix : InI x) (b : Bool) (h : decide (In64 x) = b) :
    In64 (IntKind.i64.wrap (wd0 x)) ∧ (bif b then IntKind.i64.wrap (wd0 x) = x else True) ∧ eq4 (wd0 (IntKind.i64.wrap (wd0 x))) (wd1 (IntKind.i64.wrap (wd0 x))) (wd2 (IntKind.i64.wrap (wd0 x))) (wd3 (IntKind.i64.wrap (wd0 x))) (wd0 x) (wd1 x) (wd2 x) (wd3 x) = b := by
  have hw := wd0_Wd x
  obtain ⟨h1, h2⟩ := i64_u64 hw.lo hw.hi
  obtain ⟨m, hm⟩ : ∃ m, m = IntKind.i64.wrap (wd0 x) := ⟨_, rfl⟩
  rw [← hm] at h1 h2 ⊢
  rw [eq4_wd]
  refine ⟨h1, ?_, ?_⟩
  · cases b
    · trivial
    · have h := of_decide_eq_true h
      show m = x
      unfold In64 wd0 b64 at *; omega
  · rw [← h, Bool.eq_iff_iff, decide_eq_true_iff, decide_eq_true_iff]
    constructor
    · intro e
      have : m = x := by unfold InI In64 b255 b256 at *; omega
      rw [← this]; exact h1
    · intro h
      have : m = x := by unfold In64 wd0 b64 at *; omega
      rw [this]

set_option maxRecDepth 100000 in
set_option maxHeartbeats 1000000 in
theorem Small_any (x : Int) (w : World) (ix : InI x) (b : Bool) (h : decide (In64 x) = b) :
    Calls Try.prog 36 #[wI x] w fun e w' => e = .returned (.tuple #[.int .i64 (bif b then x else 0), .bool b]) ∧ Below w.heap.size w w' := by
  obtain ⟨h1, h2, h3⟩ := small_eq ix b h
  obtain ⟨m, hm⟩ : ∃ m, IntKind.i64.wrap (wd0 x) = m := ⟨_, rfl⟩
  rw [hm] at h1 h2 h3
  have H2 := Lib.hid h2
  clear h2 h ix
  go_enter Try.func36, Try.ntmps36
  go_wp2_with fail
  clear hm
  refine name_world ?_
  intro W hW
  have kx : Var W w.heap.size x := by rw [hW]; exact Blk.new _ _ _
  have hb0 : Below w.heap.size w W := by rw [hW]; exact below_a1 _ _
  clear hW
  have c := Var.c kx
  have l0 := kx.lt
  clear kx
  refine wp_region_up W.heap.size 3 [(true, 0), (true, 2), (false, 1)] (by kernel_rfl) (by kernel_rfl) (fun _ _ d _ _ h => by cases d <;> exact h) ?_
  have hb : Below W.heap.size W W.drew := (Below.refl _ _).drew
  iterate 2
    refine wpS_takeL rfl rfl ?_
    go_big_quiet_step (rfl)
    refine wpQuiet_nil ?_
  refine wpS_doL rfl ?_
  intro K hK
  go_wp2_with ((go_at_call 31; refine (Of_any m _ h1).mono ?_; rintro e w2 ⟨rfl, hn⟩))
  replace hb := hb.trans (hn.mono hb.size)
  refine hK.out _ _ (up_iff.2 hb) ?_
  clear hK K
  clear hn
  refine wpS_nil ?_
  simp only [List.drop_succ_cons, List.drop_zero]
  have hb2 : Below w.heap.size w w2 := hb0.trans (hb.mono hb0.size)
  clear c l0 hb hb0
  cases b
  · go_wp2
    go_ret2
    exact ⟨rfl, hb2⟩
  · have H3 := H2.out
    rw [cond_true] at H3
    subst H3
    go_wp2
    go_ret2
    exact ⟨rfl, hb2⟩
end Go.Proofs.Ytgddpkopbiendaa
