/- The walks of package ratio: Reduced, Of, Sign; of wide: Small; of gromaref02: Cmp, Halves. Conditions: the numbers are numbers of 256 bits. -/
import Derived.Test.YtgddpkopbiendaaRatio3
namespace Go.Proofs.Ytgddpkopbiendaa
open Go.RowKit

set_option maxRecDepth 100000 in
set_option maxHeartbeats 2000000 in
theorem Reduced_any (n d : Int) (w : World) (hn : InI n) (hd : InI d) (b : Bool) (hr : decide (0 < d) = b) :
    Calls Try.prog 32 #[rI n d] w fun e w' => e = .returned (.tuple #[rI (bif b then n / (Int.gcd n d : Int) else 0) (bif b then d / (Int.gcd n d : Int) else 0), .bool b]) ∧ Below w.heap.size w w' := by
  cases b
  · go_enter Try.func32, Try.ntmps32
    go_wp2_with fail
    refine calls_w ?_
    intro W hW
    have k0 : RVar W (w.heap.size + 1) 0 0 := by rw [hW]; exact Blk.new1 _ _ _ _
    have hb0 : Below w.heap.size w W := by rw [hW]; exact below_a2 _ _ _
    clear hW
    refine (Right_is n d _ hd false hr).mono ?_
    rintro e w2 ⟨rfl, hn⟩
    replace k0 : RVar w2 _ _ _ := k0.of hn
    replace hb0 := hb0.trans (hn.mono hb0.size)
    clear hn
    have c := RVar.c k0
    have f := RVar.f k0
    have K0 := Lib.hid k0
    clear k0
    go_wp2
    refine post_world ?_
    intro Wf hWf
    have kf : RVar Wf (w.heap.size + 1) 0 0 := by rw [hWf]; exact put8 K0.out 0 0
    have hbf : Below w.heap.size w Wf := by rw [hWf]; exact below_set8 hb0 (by omega) 0 0
    have c := RVar.c kf
    clear hWf
    simp [bodyPost, results, Try.results32, go_sem, c]
    exact hbf
  · have hd0 : 0 < d := of_decide_eq_true hr
    obtain ⟨g, hg⟩ : ∃ g : Int, g = (Int.gcd n d : Int) := ⟨_, rfl⟩
    obtain ⟨-, g1, g2, g3, -⟩ := gcd_one (a := n) hd0
    rw [← hg] at g1 g2 g3 ⊢
    have ig : InI g := by obtain ⟨h1, h2⟩ := hd; unfold InI b255 at *; omega
    have HG := Lib.hid hg
    have HD := Lib.hid hd0
    have HR := Lib.hid hr
    clear hg hr hd0 g1 g3
    go_enter Try.func32, Try.ntmps32
    go_wp2_with fail
    refine calls_w ?_
    intro W hW
    have kr : RVar W w.heap.size n d := by rw [hW]; exact (Blk.new _ _ _).alloc _
    have k0 : RVar W (w.heap.size + 1) 0 0 := by rw [hW]; exact Blk.new1 _ _ _ _
    have hb0 : Below w.heap.size w W := by rw [hW]; exact below_a2 _ _ _
    clear hW
    refine (Right_is n d _ hd true HR.out).mono ?_
    rintro e w2 ⟨rfl, hn1⟩
    replace kr : RVar w2 _ _ _ := kr.of hn1
    replace k0 : RVar w2 _ _ _ := k0.of hn1
    replace hb0 := hb0.trans (hn1.mono hb0.size)
    clear hn1
    have c := RVar.c kr
    have KR := Lib.hid kr
    have K0 := Lib.hid k0
    clear kr k0
    go_wp2_with fail
    have T := common_any n d w2 hn hd HD.out
    rw [← HG.out] at T
    refine T.mono ?_
    clear T
    rintro e w3 ⟨rfl, hn1⟩
    have kr : RVar w3 _ _ _ := KR.out.of hn1
    have k0 : RVar w3 _ _ _ := K0.out.of hn1
    replace hb0 := hb0.trans (hn1.mono hb0.size)
    have c := RVar.c kr
    have lr := kr.lt
    have KR := Lib.hid kr
    have K0 := Lib.hid k0
    clear hn1 kr k0
    go_wp2_with fail
    refine calls_w ?_
    intro W4 hW4
    have h34 : Below w3.heap.size w3 W4 := by rw [hW4]; exact below_a1 _ _
    have kc : Var W4 w3.heap.size g := by rw [hW4]; exact Blk.new _ _ _
    clear hW4 c lr
    refine (Div_pos n g _ hn ig g2).mono ?_
    rintro e w5 ⟨rfl, hn1⟩
    have h35 := h34.trans (hn1.mono h34.size)
    replace kc : Var w5 _ _ := kc.of hn1
    have kr : RVar w5 _ _ _ := KR.out.of h35
    have k0 : RVar w5 _ _ _ := K0.out.of h35
    have hb5 := hb0.trans (h35.mono hb0.size)
    have c := RVar.c kr
    have cg := Var.c kc
    have lr := kr.lt
    have lg := kc.lt
    have KR := Lib.hid kr
    have K0 := Lib.hid k0
    have KC := Lib.hid kc
    clear hn1 kr k0 kc h34 h35 hb0
    go_wp2_with fail
    refine calls_w ?_
    intro W6 hW6
    have h56 : Below w5.heap.size w5 W6 := by rw [hW6]; exact below_a2 _ _ _
    have kq : Var W6 w5.heap.size (n / g) := by rw [hW6]; exact (Blk.new _ _ _).alloc _
    clear hW6 c cg lr lg
    refine (Div_pos d g _ hd ig g2).mono ?_
    rintro e w7 ⟨rfl, hn1⟩
    have h57 := h56.trans (hn1.mono h56.size)
    replace kq : Var w7 _ _ := kq.of hn1
    have k0 : RVar w7 _ _ _ := K0.out.of h57
    have hb7 := hb5.trans (h57.mono hb5.size)
    have KQ := Lib.hid kq
    have K0 := Lib.hid k0
    have cq := Var.c kq
    have lq := kq.lt
    have c := RVar.c k0
    have f := RVar.f k0
    have l0 := k0.lt
    have l00 : w.heap.size < w7.heap.size := by omega
    clear hn1 k0 kq h56 h57 hb5
    go_wp2
    refine post_world ?_
    intro Wf hWf
    have kf : RVar Wf (w.heap.size + 1) (n / g) (d / g) := by
      rw [hWf]
      exact ((put8 K0.out (n / g) (d / g)).alloc _).alloc _
    have hbf : Below w.heap.size w Wf := by
      rw [hWf]
      exact ((below_set8 hb7 (by omega) (n / g) (d / g)).alloc (by simp; exact hb7.size) _).alloc (by simp; have := hb7.size; omega) _
    have c := RVar.c kf
    clear hWf
    simp [bodyPost, results, Try.results32, go_sem, c]
    exact hbf
end Go.Proofs.Ytgddpkopbiendaa
