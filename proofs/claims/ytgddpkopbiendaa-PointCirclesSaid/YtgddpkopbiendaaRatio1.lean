/- The walks of package ratio: Right, Floor, Whole. Conditions: the numbers are numbers of 256 bits. -/
import Derived.Test.YtgddpkopbiendaaWide7
import Derived.Test.YtgddpkopbiendaaBig11
import Derived.Test.YtgddpkopbiendaaRat
namespace Go.Proofs.Ytgddpkopbiendaa
open Go.RowKit

/-- the Go value of a fraction: its eight words -/
abbrev rC (n d : Int) : Array Value := #[.int .u64 (wd0 n), .int .u64 (wd1 n), .int .u64 (wd2 n), .int .u64 (wd3 n), .int .u64 (wd0 d), .int .u64 (wd1 d), .int .u64 (wd2 d), .int .u64 (wd3 d)]
abbrev rI (n d : Int) : Value := .agg (rC n d)
/-- a variable that holds a fraction -/
abbrev RVar (w : World) (b : Nat) (n d : Int) : Prop := Blk w b (rC n d) 26
structure RCells (w : World) (b : Nat) (n d : Int) : Prop where
  c0 : w.cell? ⟨b, 0, none⟩ = some (.int .u64 (wd0 n))
  c1 : w.cell? ⟨b, 1, none⟩ = some (.int .u64 (wd1 n))
  c2 : w.cell? ⟨b, 2, none⟩ = some (.int .u64 (wd2 n))
  c3 : w.cell? ⟨b, 3, none⟩ = some (.int .u64 (wd3 n))
  c4 : w.cell? ⟨b, 4, none⟩ = some (.int .u64 (wd0 d))
  c5 : w.cell? ⟨b, 5, none⟩ = some (.int .u64 (wd1 d))
  c6 : w.cell? ⟨b, 6, none⟩ = some (.int .u64 (wd2 d))
  c7 : w.cell? ⟨b, 7, none⟩ = some (.int .u64 (wd3 d))
theorem RVar.c {w : World} {b : Nat} {n d : Int} (h : RVar w b n d) : (w.cell? ⟨b, 0, none⟩ = some (.int .u64 (wd0 n)) ∧ w.cell? ⟨b, 1, none⟩ = some (.int .u64 (wd1 n)) ∧ w.cell? ⟨b, 2, none⟩ = some (.int .u64 (wd2 n)) ∧ w.cell? ⟨b, 3, none⟩ = some (.int .u64 (wd3 n))) ∧
    (w.cell? ⟨b, 4, none⟩ = some (.int .u64 (wd0 d)) ∧ w.cell? ⟨b, 5, none⟩ = some (.int .u64 (wd1 d)) ∧ w.cell? ⟨b, 6, none⟩ = some (.int .u64 (wd2 d)) ∧ w.cell? ⟨b, 7, none⟩ = some (.int .u64 (wd3 d))) :=
  ⟨⟨h.cell 0, h.cell 1, h.cell 2, h.cell 3⟩, h.cell 4, h.cell 5, h.cell 6, h.cell 7⟩
theorem RVar.f {w : World} {b : Nat} {n d : Int} (h : RVar w b n d) : (w.frozen? ⟨b, 0, none⟩ = false ∧ w.frozen? ⟨b, 1, none⟩ = false ∧ w.frozen? ⟨b, 2, none⟩ = false ∧ w.frozen? ⟨b, 3, none⟩ = false) ∧
    (w.frozen? ⟨b, 4, none⟩ = false ∧ w.frozen? ⟨b, 5, none⟩ = false ∧ w.frozen? ⟨b, 6, none⟩ = false ∧ w.frozen? ⟨b, 7, none⟩ = false) :=
  ⟨⟨h.free 0, h.free 1, h.free 2, h.free 3⟩, h.free 4, h.free 5, h.free 6, h.free 7⟩
theorem sign_pos (d : Int) : decide (0 < d.sign) = decide (0 < d) := by
  rcases Int.lt_trichotomy d 0 with h | h | h
  · rw [Int.sign_eq_neg_one_of_neg h, Bool.eq_iff_iff, decide_eq_true_iff, decide_eq_true_iff]; omega
  · subst h; rfl
  · rw [Int.sign_eq_one_of_pos h, Bool.eq_iff_iff, decide_eq_true_iff, decide_eq_true_iff]; omega

set_option maxRecDepth 100000 in
theorem Right_any (n d : Int) (w : World) (hd : InI d) :
    Calls Try.prog 29 #[rI n d] w fun e w' => e = .returned (.bool (decide (0 < d))) ∧ Below w.heap.size w w' := by
  go_enter Try.func29, Try.ntmps29
  go_wp2_with fail
  refine (Sign_any d _ hd).mono ?_
  rintro e w2 ⟨rfl, hn⟩
  go_wp2
  go_ret
  exact ⟨rfl, (below_a1 _ _).trans (hn.mono (by simp))⟩
theorem Right_is (n d : Int) (w : World) (hd : InI d) (b : Bool) (hb : decide (0 < d) = b) :
    Calls Try.prog 29 #[rI n d] w fun e w' => e = .returned (.bool b) ∧ Below w.heap.size w w' := hb ▸ Right_any n d w hd

set_option maxRecDepth 100000 in
set_option maxHeartbeats 1000000 in
theorem Floor_any (n d : Int) (w : World) (hn : InI n) (hd : InI d) (b : Bool) (hr : decide (0 < d) = b) :
    Calls Try.prog 16 #[rI n d] w fun e w' => e = .returned (.tuple #[wI (bif b then n / d else 0), .bool b]) ∧ Below w.heap.size w w' := by
  cases b
  · go_enter Try.func16, Try.ntmps16
    go_wp2_with fail
    refine calls_w ?_
    intro W hW
    have kr : RVar W w.heap.size n d := by rw [hW]; exact (Blk.new _ _ _).alloc _
    have k0 : Var W (w.heap.size + 1) 0 := by rw [hW]; exact Blk.new1 _ _ _ _
    have hb0 : Below w.heap.size w W := by rw [hW]; exact below_a2 _ _ _
    clear hW
    refine (Right_is n d _ hd false hr).mono ?_
    rintro e w2 ⟨rfl, hn⟩
    replace kr : RVar w2 _ _ _ := kr.of hn
    replace k0 : Var w2 _ _ := k0.of hn
    replace hb0 := hb0.trans (hn.mono hb0.size)
    clear hn
    have c := Var.c k0
    have f := Var.f k0
    clear kr k0
    go_wp2
    simp [bodyPost, results, Try.results16, go_sem, c]
    exact ⟨⟨rfl, rfl, rfl, rfl⟩, below_set4 hb0 (Nat.le_succ _) _ _ _ _⟩
  · have hd0 : 0 < d := of_decide_eq_true hr
    have hok : dvOk n d = true := by
      unfold dvOk
      have := ediv_in hn hd0
      rw [fq_pos hd0]
      obtain ⟨_, h2⟩ := this
      simp; omega
    have hq := fq_pos (x := n) hd0
    have HQ := Lib.hid hq
    have HO := Lib.hid hok
    clear hq hok hd0
    go_enter Try.func16, Try.ntmps16
    go_wp2_with fail
    refine calls_w ?_
    intro W hW
    have kr : RVar W w.heap.size n d := by rw [hW]; exact (Blk.new _ _ _).alloc _
    have k0 : Var W (w.heap.size + 1) 0 := by rw [hW]; exact Blk.new1 _ _ _ _
    have hb0 : Below w.heap.size w W := by rw [hW]; exact below_a2 _ _ _
    clear hW
    refine (Right_is n d _ hd true hr).mono ?_
    rintro e w2 ⟨rfl, hn1⟩
    replace kr : RVar w2 _ _ _ := kr.of hn1
    replace k0 : Var w2 _ _ := k0.of hn1
    replace hb0 := hb0.trans (hn1.mono hb0.size)
    clear hn1
    have c := RVar.c kr
    have K0 := Lib.hid k0
    have KR := Lib.hid kr
    clear kr k0
    go_wp2_with fail
    have T := Div_any n d w2 hn hd
    rw [HO.out, HQ.out, cond_true] at T
    refine T.mono ?_
    clear T
    rintro e w3 ⟨rfl, hn1⟩
    have k0 : Var w3 _ _ := K0.out.of hn1
    have l0 := k0.lt
    have l00 : w.heap.size < w3.heap.size := by omega
    replace hb0 := hb0.trans (hn1.mono hb0.size)
    clear hn1 c KR
    have c := Var.c k0
    have f := Var.f k0
    have k0' := k0
    clear K0 k0
    have K0 := Lib.hid k0'
    clear k0'
    go_wp2
    refine post_world ?_
    intro Wf hWf
    have kf : Var Wf (w.heap.size + 1) (n / d) := by rw [hWf]; exact (((K0.out.put4 _).alloc _).alloc _)
    have hbf : Below w.heap.size w Wf := by rw [hWf]; exact ((below_set4 hb0 (Nat.le_succ _) _ _ _ _).alloc (by simp; exact hb0.size) _).alloc (by simp; have := hb0.size; omega) _
    have c := Var.c kf
    clear hWf
    simp [bodyPost, results, Try.results16, go_sem, c]
    exact hbf
end Go.Proofs.Ytgddpkopbiendaa
