/- Bs8: several of my texts in one: PntA, Open, OpenP, PntB, PntC, PntD, PntE, PntQ. Conditions: as each of them says. -/
import Derived.Test.YtlcbomjdbdgbmaaBs7
import Derived.Test.YtlcbomjdbdgbmaaRows
import Derived.Test.YtlcbomjdbdgbmaaBs6
import Derived.ProofKit
import Derived.OpenShut
import Derived.ShutString
import Derived.ChangeOld
import Derived.Below
import Derived.Lib.SmallJoins
import Derived.Laws.IdiomArrays
/- The walk of gromalaw03's awake. Conditions: none. -/
namespace Go.Proofs.Ytlcbomjdbdgbmaa
open Go.RowKit

theorem Turn_is (ax ay bx b_y cx cy r : Int) (h : way ax ay bx b_y cx cy = r) (w : World) :
    Calls Try.prog 75 #[pI ax ay, pI bx b_y, pI cx cy] w fun e w' => e = .returned (.int .i64 r) ∧ Below w.heap.size w w' := h ▸ Turn_any ax ay bx b_y cx cy w
theorem Circle_is (ax ay bx b_y cx cy px py r : Int) (h : crc ax ay bx b_y cx cy px py = r) (w : World) :
    Calls Try.prog 76 #[pI ax ay, pI bx b_y, pI cx cy, pI px py] w fun e w' => e = .returned (.int .i64 r) ∧ Below w.heap.size w w' := h ▸ Circle_any ax ay bx b_y cx cy px py w
theorem On_is (ax ay bx b_y cx cy : Int) (r : Bool) (h : onB ax ay bx b_y cx cy = r) (w : World) :
    Calls Try.prog 77 #[pI ax ay, pI bx b_y, pI cx cy] w fun e w' => e = .returned (.bool r) ∧ Below w.heap.size w w' := h ▸ On_any ax ay bx b_y cx cy w
theorem PtCmp_is (ax ay bx b_y r : Int) (h : cmpP ax ay bx b_y = r) (w : World) :
    Calls Try.prog 78 #[pI ax ay, pI bx b_y] w fun e w' => e = .returned (.int .i64 r) ∧ Below w.heap.size w w' := h ▸ PtCmp_any ax ay bx b_y w

set_option maxRecDepth 100000 in
set_option maxHeartbeats 2000000 in
theorem pawake_any (w : World) : Calls Try.prog 16 #[] w fun e w' => e = .returned (.bool true) ∧ Below w.heap.size w w' := by
  have q1 : way 0 0 2 0 0 2 = 1 := by decide
  have q2 : crc 0 0 2 0 0 2 1 1 = 1 := by decide
  have q3 : crc 2 0 0 0 0 2 1 1 = 1 := by decide
  have q4 : crc 0 0 2 0 0 2 3 2 = -1 := by decide
  have q5 : crc 0 0 2 0 0 2 2 2 = 0 := by decide
  have q6 : onB 2 0 0 2 1 1 = true := by decide
  have q7 : cmpP 0 0 2 0 = -1 := by decide
  have Q1 := Lib.hid q1
  have Q2 := Lib.hid q2
  have Q3 := Lib.hid q3
  have Q4 := Lib.hid q4
  have Q5 := Lib.hid q5
  have Q6 := Lib.hid q6
  have Q7 := Lib.hid q7
  clear q1 q2 q3 q4 q5 q6 q7
  go_enter Try.func16, Try.ntmps16
  go_wp2_with fail
  refine calls_w ?_
  intro W hW
  have k1 : PVar W w.heap.size 0 0 := by rw [hW]; exact (Blk.new w _ _).alloc _ |>.alloc _
  have k2 : PVar W (w.heap.size + 1) 2 0 := by rw [hW]; exact (Blk.new1 w _ _ _).alloc _
  have k3 : PVar W (w.heap.size + 1 + 1) 0 2 := by rw [hW]; exact (Blk.new2 w _ _ _ _)
  have hb0 : Below w.heap.size w W := by rw [hW]; exact below_a3 _ _ _ _
  clear hW
  refine (Turn_is 0 0 2 0 0 2 1 Q1.out _).mono ?_
  rintro e u1 ⟨rfl, hn⟩
  replace k1 : PVar u1 _ _ _ := k1.of hn
  replace k2 : PVar u1 _ _ _ := k2.of hn
  replace k3 : PVar u1 _ _ _ := k3.of hn
  replace hb0 := hb0.trans (hn.mono hb0.size)
  clear hn
  have c1 := PVar.c k1
  have c2 := PVar.c k2
  have c3 := PVar.c k3
  go_wp2_with fail
  refine (Circle_is 0 0 2 0 0 2 1 1 1 Q2.out _).mono ?_
  rintro e u2 ⟨rfl, hn⟩
  replace k1 : PVar u2 _ _ _ := k1.of hn
  replace k2 : PVar u2 _ _ _ := k2.of hn
  replace k3 : PVar u2 _ _ _ := k3.of hn
  replace hb0 := hb0.trans (hn.mono hb0.size)
  clear hn c1 c2 c3
  have c1 := PVar.c k1
  have c2 := PVar.c k2
  have c3 := PVar.c k3
  go_wp2_with fail
  refine (Circle_is 2 0 0 0 0 2 1 1 1 Q3.out _).mono ?_
  rintro e u3 ⟨rfl, hn⟩
  replace k1 : PVar u3 _ _ _ := k1.of hn
  replace k2 : PVar u3 _ _ _ := k2.of hn
  replace k3 : PVar u3 _ _ _ := k3.of hn
  replace hb0 := hb0.trans (hn.mono hb0.size)
  clear hn c1 c2 c3
  have c1 := PVar.c k1
  have c2 := PVar.c k2
  have c3 := PVar.c k3
  go_wp2_with fail
  refine (Circle_is 0 0 2 0 0 2 3 2 (-1) Q4.out _).mono ?_
  rintro e u4 ⟨rfl, hn⟩
  replace k1 : PVar u4 _ _ _ := k1.of hn
  replace k2 : PVar u4 _ _ _ := k2.of hn
  replace k3 : PVar u4 _ _ _ := k3.of hn
  replace hb0 := hb0.trans (hn.mono hb0.size)
  clear hn c1 c2 c3
  have c1 := PVar.c k1
  have c2 := PVar.c k2
  have c3 := PVar.c k3
  go_wp2_with fail
  refine (Circle_is 0 0 2 0 0 2 2 2 0 Q5.out _).mono ?_
  rintro e u5 ⟨rfl, hn⟩
  replace k1 : PVar u5 _ _ _ := k1.of hn
  replace k2 : PVar u5 _ _ _ := k2.of hn
  replace k3 : PVar u5 _ _ _ := k3.of hn
  replace hb0 := hb0.trans (hn.mono hb0.size)
  clear hn c1 c2 c3
  have c1 := PVar.c k1
  have c2 := PVar.c k2
  have c3 := PVar.c k3
  go_wp2_with fail
  refine (On_is 2 0 0 2 1 1 true Q6.out _).mono ?_
  rintro e u6 ⟨rfl, hn⟩
  replace k1 : PVar u6 _ _ _ := k1.of hn
  replace k2 : PVar u6 _ _ _ := k2.of hn
  replace k3 : PVar u6 _ _ _ := k3.of hn
  replace hb0 := hb0.trans (hn.mono hb0.size)
  clear hn c1 c2 c3
  have c1 := PVar.c k1
  have c2 := PVar.c k2
  have c3 := PVar.c k3
  go_wp2_with fail
  refine (PtCmp_is 0 0 2 0 (-1) Q7.out _).mono ?_
  rintro e u7 ⟨rfl, hn⟩
  replace k1 : PVar u7 _ _ _ := k1.of hn
  replace k2 : PVar u7 _ _ _ := k2.of hn
  replace k3 : PVar u7 _ _ _ := k3.of hn
  replace hb0 := hb0.trans (hn.mono hb0.size)
  clear hn c1 c2 c3
  have c1 := PVar.c k1
  have c2 := PVar.c k2
  have c3 := PVar.c k3
  go_wp2
  go_ret
  exact ⟨rfl, hb0⟩
end Go.Proofs.Ytlcbomjdbdgbmaa
/- How the arguments of the laws are opened: a number of 256 bits, a fraction. Conditions: none. -/
namespace Go.Proofs.Ytlcbomjdbdgbmaa
open Go.ChangeShapes Go.WideShapes Go.ChangeAt Go.RowKit Go.Joins

theorem own : ownKnob Try.prog.godebug = none := by kernel_rfl
theorem laidOut : laidOutB Try.prog = true := by kernel_rfl

/-- any four words are those of a number of 256 bits -/
theorem words_in {a b c d : Int} (ha : Wd a) (hb : Wd b) (hc : Wd c) (hd : Wd d) : ∃ x, InI x ∧ wd0 x = a ∧ wd1 x = b ∧ wd2 x = c ∧ wd3 x = d :=
  ⟨sg (un4 a b c d), sg_bd _, by rw [wd0_sg]; exact wd0_un4 ha, by rw [wd1_sg]; exact wd1_un4 ha hb, by rw [wd2_sg]; exact wd2_un4 ha hb hc, by rw [wd3_sg]; exact wd3_un4 ha hb hc hd⟩

theorem in64_wf {x : Int} (h : (Lit.int .i64 x).wf = true) : In64 x := by
  simp [Lit.wf, IntKind.min, IntKind.max, IntKind.signed, IntKind.bits] at h
  unfold In64; omega

section
variable {H : Type} {enc : TypeId × Value → H} {w : World} {base : Nat} {spare : Nat → Bool} {held : Bool}

theorem wd_of {a : Int} (h : (Lit.int .u64 a).wf = true) : Wd a := by
  simp [Lit.wf, IntKind.min, IntKind.max, IntKind.signed, IntKind.bits] at h
  exact ⟨by omega, by omega⟩

theorem open_four {fuel : Nat} {c0 c1 c2 c3 : Value} {x : DataW H × List MemPlace} (h : DataW.trod enc Try.prog w base spare held fuel 35 [c0, c1, c2, c3] = some x) :
    ∃ n, InI n ∧ c0 = .int .u64 (wd0 n) ∧ c1 = .int .u64 (wd1 n) ∧ c2 = .int .u64 (wd2 n) ∧ c3 = .int .u64 (wd3 n) := by
  obtain ⟨y0, y1, y2, y3, m, _, h0, h1, h2, h3⟩ := trod_array4 Try.underlying35 (by kernel_rfl) h
  obtain ⟨a0, e0, _, g0⟩ := DataW.trod_int Try.underlying33 h0
  obtain ⟨a1, e1, _, g1⟩ := DataW.trod_int Try.underlying33 h1
  obtain ⟨a2, e2, _, g2⟩ := DataW.trod_int Try.underlying33 h2
  obtain ⟨a3, e3, _, g3⟩ := DataW.trod_int Try.underlying33 h3
  obtain ⟨n, hn, w0, w1, w2, w3⟩ := words_in (wd_of g0) (wd_of g1) (wd_of g2) (wd_of g3)
  simp at e0 e1 e2 e3
  exact ⟨n, hn, by rw [e0, w0], by rw [e1, w1], by rw [e2, w2], by rw [e3, w3]⟩

set_option maxRecDepth 100000 in
theorem open_wide {r : Reach} {b0 : Nat} {v : Value} {d : DataW H} {p : List MemPlace} (hv : Value.okWide Try.prog w r b0 35 v) (h : DataW.Trod enc Try.prog w base spare held 35 v d p) :
    ∃ n, InI n ∧ v = wI n := by
  simp only [Value.okWide, Try.underlying35] at hv
  obtain ⟨cs, rfl, hsz, _⟩ := hv
  have hC : Try.prog.cellsOf 35 = 4 := by kernel_rfl
  obtain ⟨l⟩ := cs
  match l, hsz.trans hC with
  | [c0, c1, c2, c3], _ =>
    obtain ⟨fuel, hf⟩ := h
    obtain ⟨n, hn, rfl, rfl, rfl, rfl⟩ := open_four hf
    exact ⟨n, hn, rfl⟩

set_option maxRecDepth 100000 in
theorem open_rat {r : Reach} {b0 : Nat} {v : Value} {d : DataW H} {p : List MemPlace} (hv : Value.okWide Try.prog w r b0 52 v) (h : DataW.Trod enc Try.prog w base spare held 52 v d p) :
    ∃ n m, InI n ∧ InI m ∧ v = rI n m := by
  obtain ⟨cs, rfl, hsz⟩ := okWide_struct Try.underlying52 hv
  have hC : Try.prog.cellsOf 52 = 8 := by kernel_rfl
  obtain ⟨l⟩ := cs
  match l, hsz.trans hC with
  | [c0, c1, c2, c3, c4, c5, c6, c7], _ =>
    obtain ⟨fuel, hf⟩ := h
    obtain ⟨xs, k, _, hx, _, hlen, hg⟩ := DataW.trod_struct Try.underlying52 hf
    have hC4 : Try.prog.cellsOf 35 = 4 := by kernel_rfl
    match xs, hlen with
    | [y0, y1], _ =>
      have g0 := hg 0 _ rfl
      have g1 := hg 1 _ rfl
      simp [Value.cells, hC4] at g0 g1
      obtain ⟨n, hn, rfl, rfl, rfl, rfl⟩ := open_four g0
      obtain ⟨m, hm, rfl, rfl, rfl, rfl⟩ := open_four g1
      exact ⟨n, m, hn, hm, rfl⟩
end
end Go.Proofs.Ytlcbomjdbdgbmaa
/- How the arguments of the laws are opened: a point, four points. Conditions: none. -/
namespace Go.Proofs.Ytlcbomjdbdgbmaa
open Go.ChangeShapes Go.WideShapes Go.ChangeAt Go.RowKit Go.Joins
section
variable {H : Type} {enc : TypeId × Value → H} {w : World} {base : Nat} {spare : Nat → Bool} {held : Bool}
set_option maxRecDepth 100000 in
theorem open_point {r : Reach} {b0 : Nat} {v : Value} {d : DataW H} {p : List MemPlace} (hv : Value.okWide Try.prog w r b0 24 v) (h : DataW.Trod enc Try.prog w base spare held 24 v d p) :
    ∃ x y, In64 x ∧ In64 y ∧ v = pI x y := by
  obtain ⟨v0, v1, y0, y1, n, rfl, _, _, t0, t1⟩ := open_agg2 Try.underlying24 (by kernel_rfl) (by kernel_rfl) hv h
  obtain ⟨a0, e0, _, g0⟩ := DataW.trod_int Try.underlying3 t0
  obtain ⟨a1, e1, _, g1⟩ := DataW.trod_int Try.underlying3 t1
  simp at e0 e1
  exact ⟨a0, a1, in64_wf g0, in64_wf g1, by rw [e0, e1]⟩
end
/-- the value of four points -/
abbrev fI (a b c d e f g h : Int) : Value := .agg #[.int .i64 a, .int .i64 b, .int .i64 c, .int .i64 d, .int .i64 e, .int .i64 f, .int .i64 g, .int .i64 h]
section
variable {H : Type} {enc : TypeId × Value → H} {w : World} {base : Nat} {spare : Nat → Bool} {held : Bool}
theorem open_pt2 {fuel : Nat} {c0 c1 : Value} {x : DataW H × List MemPlace} (h : DataW.trod enc Try.prog w base spare held fuel 24 [c0, c1] = some x) :
    ∃ a b, In64 a ∧ In64 b ∧ c0 = .int .i64 a ∧ c1 = .int .i64 b := by
  obtain ⟨xs, k, _, hx, _, hlen, hg⟩ := DataW.trod_struct Try.underlying24 h
  have hC1 : Try.prog.cellsOf 3 = 1 := by kernel_rfl
  match xs, hlen with
  | [y0, y1], _ =>
    have g0 := hg 0 _ rfl
    have g1 := hg 1 _ rfl
    simp [hC1] at g0 g1
    obtain ⟨a0, e0, _, k0⟩ := DataW.trod_int Try.underlying3 g0
    obtain ⟨a1, e1, _, k1⟩ := DataW.trod_int Try.underlying3 g1
    simp at e0 e1
    exact ⟨a0, a1, in64_wf k0, in64_wf k1, e0, e1⟩
end
end Go.Proofs.Ytlcbomjdbdgbmaa
/- The walk of gromaref01's Of. Conditions: the number is an int. -/
namespace Go.Proofs.Ytlcbomjdbdgbmaa
open Go.RowKit

theorem ws1 {W : World} {b : Nat} {u : Int} {t : TypeId} (hu : Wd u) (h : Blk W b #[.int .u64 u] t) : Ws W b [u] :=
  ⟨fun i hi => by
    match i, hi with
    | 0, _ => exact h.cell 0, h.lt, fun d hd => by rw [List.mem_singleton.1 hd]; exact hu, by simp⟩

set_option maxRecDepth 100000 in
set_option maxHeartbeats 1000000 in
theorem bigOf_pos (n : Int) (w : World) (h0 : 0 ≤ n) (h1 : n < 9223372036854775808) : Calls Try.prog 66 #[.int .i64 n] w (GivesBig w n 5) := by
  go_enter Try.func66, Try.ntmps66
  go_wp2_with fail
  refine calls_w ?_
  intro W hW
  have k0 : Blk W w.heap.size #[.bool false, .slice none 0 0] 28 := by rw [hW]; exact (Blk.new w _ _).alloc _
  have kl : Blk W (w.heap.size + 1) #[.int .u64 n] 33 := by rw [hW]; exact Blk.new1 w _ _ _
  have hb0 : Below w.heap.size w W := by rw [hW]; exact below_a2 _ _ _
  clear hW
  have T := Words_any (w.heap.size + 1) 1 1 [n] W (ws1 ⟨h0, by omega⟩ kl) rfl
  rw [show uval [n] = n by simp [uval]] at T
  refine T.mono ?_
  clear T
  rintro e u1 ⟨vm, rfl, hbm, hn⟩
  replace k0 := k0.of hn
  replace hb0 := hb0.trans (hn.mono hb0.size)
  have HBG := Lib.hid hbm
  have hvm := hbm.shape
  clear hbm hn kl
  obtain ⟨n5, a5, q5, c5, rfl⟩ := hvm
  have d0 := k0.cell 0
  have d1 := k0.cell 1
  have f0 := k0.free 0
  have f1 := k0.free 1
  simp only [List.getElem?_toArray, List.getElem?_cons_zero, List.getElem?_cons_succ] at d0 d1
  clear k0
  go_wp2
  simp [bodyPost, results, Try.results66, go_sem, d0, d1]
  exact ⟨_, rfl, HBG.out.set2 d0 (.bool n5) (.slice a5 q5 c5), set2_below hb0 (Nat.le_refl _) _ _⟩

set_option maxRecDepth 100000 in
set_option maxHeartbeats 1000000 in
theorem bigOf_neg (n : Int) (w : World) (h0 : n < 0) (h1 : -9223372036854775808 ≤ n) : Calls Try.prog 66 #[.int .i64 n] w (GivesBig w n 5) := by
  have hn0 : ¬ 0 ≤ n := by omega
  go_enter Try.func66, Try.ntmps66
  go_wp2_with fail
  refine calls_w ?_
  intro W hW
  have k0 : Blk W w.heap.size #[.bool false, .slice none 0 0] 28 := by rw [hW]; exact (Blk.new w _ _).alloc _
  have kl : Blk W (w.heap.size + 1) #[.int .u64 (-(n + 1) + 1)] 33 := by rw [hW]; exact Blk.new1 w _ _ _
  have hb0 : Below w.heap.size w W := by rw [hW]; exact below_a2 _ _ _
  clear hW
  have T := Words_any (w.heap.size + 1) 1 1 [-(n + 1) + 1] W (ws1 ⟨by omega, by omega⟩ kl) rfl
  rw [show uval [-(n + 1) + 1] = -n by simp [uval]; omega] at T
  refine T.mono ?_
  clear T
  rintro e u1 ⟨vm, rfl, hbm, hn⟩
  replace k0 := k0.of hn
  replace hb0 := hb0.trans (hn.mono hb0.size)
  have HB1 := Lib.hid hbm
  have hvm := hbm.shape
  clear hbm hn kl
  obtain ⟨n4, a4, q4, c4, rfl⟩ := hvm
  go_wp2_with fail
  have T := Minus_any _ _ _ _ HB1.out
  rw [Int.neg_neg] at T
  refine T.mono ?_
  clear T
  rintro e u2 ⟨vm, rfl, hbm, hn⟩
  replace k0 := k0.of hn
  replace hb0 := hb0.trans (hn.mono hb0.size)
  have HBG := Lib.hid hbm
  have hvm := hbm.shape
  clear hbm hn HB1
  obtain ⟨n5, a5, q5, c5, rfl⟩ := hvm
  have d0 := k0.cell 0
  have d1 := k0.cell 1
  have f0 := k0.free 0
  have f1 := k0.free 1
  simp only [List.getElem?_toArray, List.getElem?_cons_zero, List.getElem?_cons_succ] at d0 d1
  clear k0
  go_wp2
  simp [bodyPost, results, Try.results66, go_sem, d0, d1]
  exact ⟨_, rfl, HBG.out.set2 d0 (.bool n5) (.slice a5 q5 c5), set2_below hb0 (Nat.le_refl _) _ _⟩
theorem bigOf_any (n : Int) (w : World) (h : In64 n) : Calls Try.prog 66 #[.int .i64 n] w (GivesBig w n 5) := by
  by_cases h0 : 0 ≤ n
  · exact bigOf_pos n w h0 h.2
  · exact bigOf_neg n w (by omega) h.1
end Go.Proofs.Ytlcbomjdbdgbmaa
/- The walk of gromaref03's Turn. Conditions: the coordinates are right. -/
namespace Go.Proofs.Ytlcbomjdbdgbmaa
open Go.RowKit

theorem allocBg : AllocRuns Try.prog 28 #[.bool false, .slice none 0 0] := fun w => by kernel_rfl
theorem bigOfD_any (a b d : Int) (h : a - b = d) (g : In64 d) (w : World) : Calls Try.prog 66 #[.int .i64 (wrap64 (a - b))] w (GivesBig w d 5) := by
  subst h
  rw [show wrap64 (a - b) = a - b by unfold wrap64; unfold In64 at g; omega]
  exact bigOf_any _ w g

set_option maxRecDepth 100000 in
set_option maxHeartbeats 2000000 in
theorem rTurn_go (ax ay bx b_y cx cy d1 d2 d3 d4 p q r : Int) (h1 : bx - ax = d1) (h2 : cy - ay = d2) (h3 : b_y - ay = d3) (h4 : cx - ax = d4) (g1 : In64 d1) (g2 : In64 d2) (g3 : In64 d3) (g4 : In64 d4) (hp : d1 * d2 = p) (hq : d3 * d4 = q) (hr : p - q = r) (w : World) :
    Calls Try.prog 19 #[pI ax ay, pI bx b_y, pI cx cy] w (GivesBig w r 11) := by
  have H1 := Lib.hid h1
  have H2 := Lib.hid h2
  have H3 := Lib.hid h3
  have H4 := Lib.hid h4
  have H5 := Lib.hid hp
  have H6 := Lib.hid hq
  have H7 := Lib.hid hr
  clear h1 h2 h3 h4 hp hq hr
  go_enter Try.func19, Try.ntmps19
  go_wp2_with fail
  refine name_world ?_
  intro W hW
  have ka : Blk W w.heap.size (pC ax ay) 31 := by rw [hW]; exact (Blk.new w _ _).alloc _ |>.alloc _ |>.alloc _
  have kb : Blk W (w.heap.size + 1) (pC bx b_y) 31 := by rw [hW]; exact (Blk.new1 w _ _ _).alloc _ |>.alloc _
  have kc : Blk W (w.heap.size + 1 + 1) (pC cx cy) 31 := by rw [hW]; exact (Blk.new2 w _ _ _ _).alloc _
  have kz : Blk W (w.heap.size + 1 + 1 + 1) #[.bool false, .slice none 0 0] 28 := by rw [hW]; exact Blk.new3 w _ _ _ _ _
  have hb0 : Below w.heap.size w W := by rw [hW]; exact (below_a3 _ _ _ _).alloc (by simp; omega) _
  clear hW
  have ca0 := ka.cell 0
  have ca1 := ka.cell 1
  have cb0 := kb.cell 0
  have cb1 := kb.cell 1
  have cc0 := kc.cell 0
  have cc1 := kc.cell 1
  simp only [List.getElem?_toArray, List.getElem?_cons_zero, List.getElem?_cons_succ] at ca0 ca1 cb0 cb1 cc0 cc1
  have la := ka.lt
  have lb := kb.lt
  have lc := kc.lt
  have KA := Lib.hid ka
  have KB := Lib.hid kb
  have KC := Lib.hid kc
  have KZ := Lib.hid kz
  clear ka kb kc kz
  refine wp_region_float1 14 13 [(true, 0), (true, 1), (true, 2), (true, 3), (true, 4), (true, 6), (true, 7), (true, 8), (true, 9), (true, 10), (false, 5), (false, 11), (false, 12)] (by kernel_rfl) (by kernel_rfl) (fun _ _ d _ _ => by cases d <;> exact Iff.rfl) rfl rfl rfl allocBg ?_
  have hb : Below W.heap.size W W.drew := (Below.refl _ _).drew
  iterate 10
    refine wpF_take rfl rfl ?_
    go_big_quiet_step (rfl)
    refine wpQuiet_nil ?_
  refine wpF_do rfl ?_
  intro w1 hg K hK
  replace hb := hb.trans (hg.mono hb.size)
  try replace HM := Lib.hid (HM.out.of hg) ;; try replace HN := Lib.hid (HN.out.of hg)
  clear hg
  go_wp2_with ((first | (go_at_call 66; (with_reducible refine (bigOfD_any bx ax d1 H1.out g1 _).mono ?_); rintro e w4 ⟨vm, rfl, hbm, hn⟩; have HM := Lib.hid hbm; have hvm := hbm.shape; clear hbm; obtain ⟨n4, a4, q4, e4, rfl⟩ := hvm) | (go_at_call 66; (with_reducible refine (bigOfD_any cy ay d2 H2.out g2 _).mono ?_); rintro e w5 ⟨vm, rfl, hbm, hn⟩; have HN := Lib.hid hbm; have hvm := hbm.shape; replace HM := Lib.hid (HM.out.of hn); clear hbm; obtain ⟨n5, a5, q5, e5, rfl⟩ := hvm) | (go_at_call 65; refine (bigMul_any _ _ d1 d2 5 5 _ HM.out HN.out (by decide)).mono ?_; rintro e w6 ⟨vm, rfl, hbm, hn⟩; rw [H5.out] at hbm; have HP := Lib.hid hbm; have hvm := hbm.shape; clear hbm HM HN; obtain ⟨n6, a6, q6, e6, rfl⟩ := hvm)))
  refine hK.out _ _ hn ?_
  replace hb := hb.trans (hn.mono hb.size)
  clear hK K
  clear hn
  refine wpF_do rfl ?_
  intro w1 hg K hK
  replace hb := hb.trans (hg.mono hb.size)
  try replace HM := Lib.hid (HM.out.of hg) ;; try replace HN := Lib.hid (HN.out.of hg)
  clear hg
  go_wp2_with ((first | (go_at_call 66; (with_reducible refine (bigOfD_any bx ax d1 H1.out g1 _).mono ?_); rintro e w4 ⟨vm, rfl, hbm, hn⟩; have HM := Lib.hid hbm; have hvm := hbm.shape; clear hbm; obtain ⟨n4, a4, q4, e4, rfl⟩ := hvm) | (go_at_call 66; (with_reducible refine (bigOfD_any cy ay d2 H2.out g2 _).mono ?_); rintro e w5 ⟨vm, rfl, hbm, hn⟩; have HN := Lib.hid hbm; have hvm := hbm.shape; replace HM := Lib.hid (HM.out.of hn); clear hbm; obtain ⟨n5, a5, q5, e5, rfl⟩ := hvm) | (go_at_call 65; refine (bigMul_any _ _ d1 d2 5 5 _ HM.out HN.out (by decide)).mono ?_; rintro e w6 ⟨vm, rfl, hbm, hn⟩; rw [H5.out] at hbm; have HP := Lib.hid hbm; have hvm := hbm.shape; clear hbm HM HN; obtain ⟨n6, a6, q6, e6, rfl⟩ := hvm)))
  refine hK.out _ _ hn ?_
  replace hb := hb.trans (hn.mono hb.size)
  clear hK K
  clear hn
  refine wpF_do rfl ?_
  intro w1 hg K hK
  replace hb := hb.trans (hg.mono hb.size)
  try replace HM := Lib.hid (HM.out.of hg) ;; try replace HN := Lib.hid (HN.out.of hg)
  clear hg
  go_wp2_with ((first | (go_at_call 66; (with_reducible refine (bigOfD_any bx ax d1 H1.out g1 _).mono ?_); rintro e w4 ⟨vm, rfl, hbm, hn⟩; have HM := Lib.hid hbm; have hvm := hbm.shape; clear hbm; obtain ⟨n4, a4, q4, e4, rfl⟩ := hvm) | (go_at_call 66; (with_reducible refine (bigOfD_any cy ay d2 H2.out g2 _).mono ?_); rintro e w5 ⟨vm, rfl, hbm, hn⟩; have HN := Lib.hid hbm; have hvm := hbm.shape; replace HM := Lib.hid (HM.out.of hn); clear hbm; obtain ⟨n5, a5, q5, e5, rfl⟩ := hvm) | (go_at_call 65; refine (bigMul_any _ _ d1 d2 5 5 _ HM.out HN.out (by decide)).mono ?_; rintro e w6 ⟨vm, rfl, hbm, hn⟩; rw [H5.out] at hbm; have HP := Lib.hid hbm; have hvm := hbm.shape; clear hbm HM HN; obtain ⟨n6, a6, q6, e6, rfl⟩ := hvm)))
  refine hK.out _ _ hn ?_
  replace hb := hb.trans (hn.mono hb.size)
  clear hK K
  clear hn
  refine wpF_nil ?_
  clear hb
  intro w1 hg hb b1 lb1 nb1
  replace HP := Lib.hid (HP.out.of hg)
  clear hg
  simp only [Act.put, ptrTo, List.setIfInBounds_toArray, List.set_cons_succ, List.set_cons_zero]
  simp only [List.drop_succ_cons, List.drop_zero]
  have kx : Blk w1 b1 #[.bool false, .slice none 0 0] 28 := nb1
  have v0 := kx.cell 0
  have v1 := kx.cell 1
  have f0 := kx.free 0
  have f1 := kx.free 1
  simp only [List.getElem?_toArray, List.getElem?_cons_zero, List.getElem?_cons_succ] at v0 v1
  have na : w.heap.size ≠ b1 := by omega
  have nb : w.heap.size + 1 ≠ b1 := by omega
  have nc : w.heap.size + 1 + 1 ≠ b1 := by omega
  have nz : w.heap.size + 1 + 1 + 1 ≠ b1 := by have := KZ.out.lt; omega
  have hge : w.heap.size ≤ b1 := Nat.le_trans hb0.size lb1
  have NN := Lib.hid (And.intro na (And.intro nb (And.intro nc nz)))
  have KX := Lib.hid kx
  have V0 := Lib.hid v0
  clear ca0 ca1 cb0 cb1 cc0 cc1 la lb lc nb1 kx na nb nc nz
  go_wp2_with fail
  refine name_world ?_
  intro V hV
  have kx : Blk V b1 #[.bool n6, .slice a6 q6 e6] 28 := by rw [hV]; exact (Blk.put KX.out 0 _).put 1 _
  have ka : Blk V w.heap.size (pC ax ay) 31 := by rw [hV]; exact ((KA.out.of hb).set NN.out.1 _ _ _).set NN.out.1 _ _ _
  have kb : Blk V (w.heap.size + 1) (pC bx b_y) 31 := by rw [hV]; exact ((KB.out.of hb).set NN.out.2.1 _ _ _).set NN.out.2.1 _ _ _
  have kc : Blk V (w.heap.size + 1 + 1) (pC cx cy) 31 := by rw [hV]; exact ((KC.out.of hb).set NN.out.2.2.1 _ _ _).set NN.out.2.2.1 _ _ _
  have kz : Blk V (w.heap.size + 1 + 1 + 1) #[.bool false, .slice none 0 0] 28 := by rw [hV]; exact ((KZ.out.of hb).set NN.out.2.2.2 _ _ _).set NN.out.2.2.2 _ _ _
  have hbV : Below w.heap.size w V := by rw [hV]; exact set2_below (hb0.trans (hb.mono hb0.size)) hge _ _
  replace HP := Lib.hid (show Big V (.agg #[.bool n6, .slice a6 q6 e6]) p 10 by rw [hV]; exact HP.out.set2 V0.out (.bool n6) (.slice a6 q6 e6))
  clear hV hb hb0 KA KB KC KZ KX NN V0 v0 v1 f0 f1 hge lb1
  have ca0 := ka.cell 0
  have ca1 := ka.cell 1
  have cb0 := kb.cell 0
  have cb1 := kb.cell 1
  have cc0 := kc.cell 0
  have cc1 := kc.cell 1
  have cx0 := kx.cell 0
  have cx1 := kx.cell 1
  simp only [List.getElem?_toArray, List.getElem?_cons_zero, List.getElem?_cons_succ] at ca0 ca1 cb0 cb1 cc0 cc1 cx0 cx1
  have la := ka.lt
  have lb := kb.lt
  have lc := kc.lt
  have lx := kx.lt
  have KZ := Lib.hid kz
  clear ka kb kc kz kx
  refine wp_region_up V.heap.size 14 [(true, 0), (true, 1), (true, 2), (true, 3), (true, 4), (true, 5), (true, 7), (true, 8), (true, 9), (true, 10), (true, 11), (false, 6), (false, 12), (false, 13)] (by kernel_rfl) (by kernel_rfl) (fun _ _ d _ _ h => by cases d <;> exact h) ?_
  have hb : Below V.heap.size V V.drew := (Below.refl _ _).drew
  iterate 11
    refine wpS_takeL rfl rfl ?_
    go_big_quiet_step (rfl)
    refine wpQuiet_nil ?_
  refine wpS_doL rfl ?_
  intro K hK
  try replace HM := Lib.hid (HM.out.of hg) ;; try replace HN := Lib.hid (HN.out.of hg)
  go_wp2_with ((first | (go_at_call 66; (with_reducible refine (bigOfD_any b_y ay d3 H3.out g3 _).mono ?_); rintro e w4 ⟨vm, rfl, hbm, hn⟩; have HM := Lib.hid hbm; have hvm := hbm.shape; clear hbm; obtain ⟨n7, a7, q7, e7, rfl⟩ := hvm) | (go_at_call 66; (with_reducible refine (bigOfD_any cx ax d4 H4.out g4 _).mono ?_); rintro e w5 ⟨vm, rfl, hbm, hn⟩; have HN := Lib.hid hbm; have hvm := hbm.shape; replace HM := Lib.hid (HM.out.of hn); clear hbm; obtain ⟨n8, a8, q8, e8, rfl⟩ := hvm) | (go_at_call 65; refine (bigMul_any _ _ d3 d4 5 5 _ HM.out HN.out (by decide)).mono ?_; rintro e w6 ⟨vm, rfl, hbm, hn⟩; rw [H6.out] at hbm; have HQ := Lib.hid hbm; have hvm := hbm.shape; clear hbm HM HN; obtain ⟨n9, a9, q9, e9, rfl⟩ := hvm)))
  replace hb := hb.trans (hn.mono hb.size)
  refine hK.out _ _ (up_iff.2 hb) ?_
  clear hK K
  clear hn
  refine wpS_doL rfl ?_
  intro K hK
  try replace HM := Lib.hid (HM.out.of hg) ;; try replace HN := Lib.hid (HN.out.of hg)
  go_wp2_with ((first | (go_at_call 66; (with_reducible refine (bigOfD_any b_y ay d3 H3.out g3 _).mono ?_); rintro e w4 ⟨vm, rfl, hbm, hn⟩; have HM := Lib.hid hbm; have hvm := hbm.shape; clear hbm; obtain ⟨n7, a7, q7, e7, rfl⟩ := hvm) | (go_at_call 66; (with_reducible refine (bigOfD_any cx ax d4 H4.out g4 _).mono ?_); rintro e w5 ⟨vm, rfl, hbm, hn⟩; have HN := Lib.hid hbm; have hvm := hbm.shape; replace HM := Lib.hid (HM.out.of hn); clear hbm; obtain ⟨n8, a8, q8, e8, rfl⟩ := hvm) | (go_at_call 65; refine (bigMul_any _ _ d3 d4 5 5 _ HM.out HN.out (by decide)).mono ?_; rintro e w6 ⟨vm, rfl, hbm, hn⟩; rw [H6.out] at hbm; have HQ := Lib.hid hbm; have hvm := hbm.shape; clear hbm HM HN; obtain ⟨n9, a9, q9, e9, rfl⟩ := hvm)))
  replace hb := hb.trans (hn.mono hb.size)
  refine hK.out _ _ (up_iff.2 hb) ?_
  clear hK K
  clear hn
  refine wpS_doL rfl ?_
  intro K hK
  try replace HM := Lib.hid (HM.out.of hg) ;; try replace HN := Lib.hid (HN.out.of hg)
  go_wp2_with ((first | (go_at_call 66; (with_reducible refine (bigOfD_any b_y ay d3 H3.out g3 _).mono ?_); rintro e w4 ⟨vm, rfl, hbm, hn⟩; have HM := Lib.hid hbm; have hvm := hbm.shape; clear hbm; obtain ⟨n7, a7, q7, e7, rfl⟩ := hvm) | (go_at_call 66; (with_reducible refine (bigOfD_any cx ax d4 H4.out g4 _).mono ?_); rintro e w5 ⟨vm, rfl, hbm, hn⟩; have HN := Lib.hid hbm; have hvm := hbm.shape; replace HM := Lib.hid (HM.out.of hn); clear hbm; obtain ⟨n8, a8, q8, e8, rfl⟩ := hvm) | (go_at_call 65; refine (bigMul_any _ _ d3 d4 5 5 _ HM.out HN.out (by decide)).mono ?_; rintro e w6 ⟨vm, rfl, hbm, hn⟩; rw [H6.out] at hbm; have HQ := Lib.hid hbm; have hvm := hbm.shape; clear hbm HM HN; obtain ⟨n9, a9, q9, e9, rfl⟩ := hvm)))
  replace hb := hb.trans (hn.mono hb.size)
  refine hK.out _ _ (up_iff.2 hb) ?_
  clear hK K
  clear hn
  refine wpS_nil ?_
  simp only [List.drop_succ_cons, List.drop_zero]
  replace HP := Lib.hid (HP.out.of hb)
  replace KZ := Lib.hid (KZ.out.of hb)
  replace hbV := hbV.trans (hb.mono hbV.size)
  clear hb ca0 ca1 cb0 cb1 cc0 cc1 cx0 cx1 la lb lc lx
  go_wp2_with fail
  refine (bigSub_any _ _ p q 10 _ HP.out HQ.out (by decide)).mono ?_
  rintro e u5 ⟨v5, rfl, hbig, hn⟩
  rw [H7.out] at hbig
  have HBG := Lib.hid hbig
  have hvv := hbig.shape
  clear hbig
  obtain ⟨m5, b5, l5, r5, rfl⟩ := hvv
  have k5 := KZ.out.of hn
  have d0 := k5.cell 0
  have d1' := k5.cell 1
  have f0 := k5.free 0
  have f1 := k5.free 1
  simp only [List.getElem?_toArray, List.getElem?_cons_zero, List.getElem?_cons_succ] at d0 d1'
  have hb5 := hbV.trans (hn.mono hbV.size)
  have hge : w.heap.size ≤ w.heap.size + 1 + 1 + 1 := by omega
  clear hn k5 hbV HP HQ KZ
  go_wp2
  simp [bodyPost, results, Try.results19, go_sem, d0, d1']
  exact ⟨_, rfl, HBG.out.set2 d0 (.bool m5) (.slice b5 l5 r5), set2_below hb5 hge _ _⟩
end Go.Proofs.Ytlcbomjdbdgbmaa
/- The walks of gromaref03's Turn and Way. Conditions: Turn: the coordinates are right. -/
namespace Go.Proofs.Ytlcbomjdbdgbmaa
open Go.RowKit

theorem rTurn_any (ax ay bx b_y cx cy : Int) (h1 : Co ax) (h2 : Co ay) (h3 : Co bx) (h4 : Co b_y) (h5 : Co cx) (h6 : Co cy) (w : World) :
    Calls Try.prog 19 #[pI ax ay, pI bx b_y, pI cx cy] w (GivesBig w (trn ax ay bx b_y cx cy) 11) := by
  refine rTurn_go ax ay bx b_y cx cy _ _ _ _ _ _ _ rfl rfl rfl rfl ?_ ?_ ?_ ?_ rfl rfl rfl w
  · have := co_sub h3 h1; unfold In64; omega
  · have := co_sub h6 h2; unfold In64; omega
  · have := co_sub h4 h2; unfold In64; omega
  · have := co_sub h5 h1; unfold In64; omega
/-- a variable that holds a point of the document's answer -/
abbrev QVar (w : World) (b : Nat) (x y : Int) : Prop := Blk w b (pC x y) 31
theorem QVar.c {w : World} {b : Nat} {x y : Int} (h : QVar w b x y) : w.cell? ⟨b, 0, none⟩ = some (.int .i64 x) ∧ w.cell? ⟨b, 1, none⟩ = some (.int .i64 y) := ⟨h.cell 0, h.cell 1⟩
theorem rR_is (x y : Int) (r : Bool) (h : rp x y = r) (w : World) : Calls Try.prog 26 #[pI x y] w fun e w' => e = .returned (.bool r) ∧ Below w.heap.size w w' := h ▸ rRight_any x y w
theorem bSign_is (v : Value) (n : Int) (L : Nat) (s : Int) (hs : n.sign = s) (w : World) (h : Big w v n L) :
    Calls Try.prog 67 #[v] w fun e w' => e = .returned (.int .i64 s) ∧ Below w.heap.size w w' := hs ▸ bigSign_any v n L w h

set_option maxRecDepth 100000 in
set_option maxHeartbeats 1000000 in
theorem Way_any (ax ay bx b_y cx cy : Int) (w : World) :
    Calls Try.prog 74 #[pI ax ay, pI bx b_y, pI cx cy] w fun e w' => e = .returned (.int .i64 (way ax ay bx b_y cx cy)) ∧ Below w.heap.size w w' := by
  unfold way rp3
  obtain ⟨x, hx⟩ : ∃ x, rp ax ay = x := ⟨_, rfl⟩
  obtain ⟨y, hy⟩ : ∃ y, rp bx b_y = y := ⟨_, rfl⟩
  obtain ⟨z, hz⟩ : ∃ z, rp cx cy = z := ⟨_, rfl⟩
  obtain ⟨s, hs⟩ : ∃ s, (trn ax ay bx b_y cx cy).sign = s := ⟨_, rfl⟩
  rw [hx, hy, hz, hs]
  have HX := Lib.hid hx
  have HY := Lib.hid hy
  have HZ := Lib.hid hz
  have HS := Lib.hid hs
  clear hx hy hz hs
  go_enter Try.func74, Try.ntmps74
  go_wp2_with fail
  first | refine calls_w ?_ | refine name_world ?_
  intro W hW
  have ka : QVar W (w.heap.size) ax ay := by rw [hW]; exact (Blk.new w _ _) |>.alloc _ |>.alloc _
  have kb : QVar W (w.heap.size + 1) bx b_y := by rw [hW]; exact (Blk.new1 w _ _ _) |>.alloc _
  have kc : QVar W (w.heap.size + 1 + 1) cx cy := by rw [hW]; exact (Blk.new2 w _ _ _ _)
  have hb0 : Below w.heap.size w W := by rw [hW]; exact below_a3 _ _ _ _
  clear hW
  refine (rR_is ax ay x HX.out _).mono ?_
  rintro e u1 ⟨rfl, hn⟩
  replace ka : QVar u1 _ _ _ := ka.of hn
  replace kb : QVar u1 _ _ _ := kb.of hn
  replace kc : QVar u1 _ _ _ := kc.of hn
  replace hb0 := hb0.trans (hn.mono hb0.size)
  clear hn 
  cases x
  · have ca := QVar.c ka
    have la := ka.lt
    have cb := QVar.c kb
    have lb := kb.lt
    have cc := QVar.c kc
    have lc := kc.lt
    go_wp2
    go_ret
    exact ⟨rfl, hb0⟩
  · have ca := QVar.c ka
    have la := ka.lt
    have cb := QVar.c kb
    have lb := kb.lt
    have cc := QVar.c kc
    have lc := kc.lt
    go_wp2_with fail
    clear ca la cb lb cc lc
    refine (rR_is bx b_y y HY.out _).mono ?_
    rintro e u2 ⟨rfl, hn⟩
    replace ka : QVar u2 _ _ _ := ka.of hn
    replace kb : QVar u2 _ _ _ := kb.of hn
    replace kc : QVar u2 _ _ _ := kc.of hn
    replace hb0 := hb0.trans (hn.mono hb0.size)
    clear hn 
    cases y
    · have ca := QVar.c ka
      have la := ka.lt
      have cb := QVar.c kb
      have lb := kb.lt
      have cc := QVar.c kc
      have lc := kc.lt
      go_wp2
      go_ret
      exact ⟨rfl, hb0⟩
    · have ca := QVar.c ka
      have la := ka.lt
      have cb := QVar.c kb
      have lb := kb.lt
      have cc := QVar.c kc
      have lc := kc.lt
      go_wp2_with fail
      clear ca la cb lb cc lc
      refine (rR_is cx cy z HZ.out _).mono ?_
      rintro e u3 ⟨rfl, hn⟩
      replace ka : QVar u3 _ _ _ := ka.of hn
      replace kb : QVar u3 _ _ _ := kb.of hn
      replace kc : QVar u3 _ _ _ := kc.of hn
      replace hb0 := hb0.trans (hn.mono hb0.size)
      clear hn 
      cases z
      · have ca := QVar.c ka
        have la := ka.lt
        have cb := QVar.c kb
        have lb := kb.lt
        have cc := QVar.c kc
        have lc := kc.lt
        go_wp2
        go_ret
        exact ⟨rfl, hb0⟩
      · have ca := QVar.c ka
        have la := ka.lt
        have cb := QVar.c kb
        have lb := kb.lt
        have cc := QVar.c kc
        have lc := kc.lt
        go_wp2_with fail
        clear ca la cb lb cc lc
        clear ka kb kc
        refine (rTurn_any ax ay bx b_y cx cy (rp_co HX.out).1 (rp_co HX.out).2 (rp_co HY.out).1 (rp_co HY.out).2 (rp_co HZ.out).1 (rp_co HZ.out).2 _).mono ?_
        rintro e u8 ⟨vm, rfl, hbm, hn⟩
        replace hb0 := hb0.trans (hn.mono hb0.size)
        have HM := Lib.hid hbm
        clear hn hbm
        go_wp2_with fail
        refine (bSign_is vm _ 11 s HS.out _ HM.out).mono ?_
        rintro e u9 ⟨rfl, hn⟩
        replace hb0 := hb0.trans (hn.mono hb0.size)
        clear hn
        go_wp2
        go_ret
        exact ⟨rfl, hb0⟩
end Go.Proofs.Ytlcbomjdbdgbmaa
/- The plain laws of turns, segments and circles: what changes if points are changed. Conditions: none. -/
namespace Go.Proofs.Ytlcbomjdbdgbmaa
open Go.RowKit

theorem trn_swap (ax ay bx b_y cx cy : Int) : trn bx b_y ax ay cx cy = -trn ax ay bx b_y cx cy := by unfold trn; grind
theorem trn_rot (ax ay bx b_y cx cy : Int) : trn bx b_y cx cy ax ay = trn ax ay bx b_y cx cy := by unfold trn; grind
theorem rp3_swap (ax ay bx b_y cx cy : Int) : rp3 bx b_y ax ay cx cy = rp3 ax ay bx b_y cx cy := by
  unfold rp3; generalize rp ax ay = a; generalize rp bx b_y = b; generalize rp cx cy = c
  cases a <;> cases b <;> cases c <;> rfl
theorem rp3_rot (ax ay bx b_y cx cy : Int) : rp3 bx b_y cx cy ax ay = rp3 ax ay bx b_y cx cy := by
  unfold rp3; generalize rp ax ay = a; generalize rp bx b_y = b; generalize rp cx cy = c
  cases a <;> cases b <;> cases c <;> rfl
theorem rp4_swap (ax ay bx b_y cx cy px py : Int) : rp4 bx b_y ax ay cx cy px py = rp4 ax ay bx b_y cx cy px py := by
  unfold rp4; generalize rp ax ay = a; generalize rp bx b_y = b; generalize rp cx cy = c
  cases a <;> cases b <;> cases c <;> rfl
theorem rp4_rot (ax ay bx b_y cx cy px py : Int) : rp4 bx b_y cx cy ax ay px py = rp4 ax ay bx b_y cx cy px py := by
  unfold rp4; generalize rp ax ay = a; generalize rp bx b_y = b; generalize rp cx cy = c
  cases a <;> cases b <;> cases c <;> rfl
theorem way_swap (ax ay bx b_y cx cy : Int) : way bx b_y ax ay cx cy = -way ax ay bx b_y cx cy := by
  unfold way; rw [rp3_swap, trn_swap, Int.sign_neg]; cases rp3 ax ay bx b_y cx cy <;> rfl
theorem way_rot (ax ay bx b_y cx cy : Int) : way bx b_y cx cy ax ay = way ax ay bx b_y cx cy := by
  unfold way; rw [rp3_rot, trn_rot]
theorem way_cases (ax ay bx b_y cx cy : Int) : way ax ay bx b_y cx cy = -1 ∨ way ax ay bx b_y cx cy = 0 ∨ way ax ay bx b_y cx cy = 1 := by
  unfold way; cases rp3 ax ay bx b_y cx cy
  · exact .inr (.inl rfl)
  · exact sign_cases _
theorem wrap_ways (ax ay bx b_y cx cy dx dy ex ey fx fy : Int) : wrap64 (way ax ay bx b_y cx cy * way dx dy ex ey fx fy) = way ax ay bx b_y cx cy * way dx dy ex ey fx fy := by
  rcases way_cases ax ay bx b_y cx cy with h | h | h <;> rcases way_cases dx dy ex ey fx fy with g | g | g <;> rw [h, g] <;> unfold wrap64 <;> omega

/-- the sum of the squares of both coordinates -/
def lft (x y : Int) : Int := x * x + y * y
theorem crs_det (ax ay bx b_y cx cy px py : Int) :
    lft ax ay * trn bx b_y cx cy px py + -(lft bx b_y * trn ax ay cx cy px py) + lft cx cy * trn ax ay bx b_y px py + -(lft px py * trn ax ay bx b_y cx cy) = crs ax ay bx b_y cx cy px py := by
  unfold crs frr trn lft; grind
theorem crs_swap (ax ay bx b_y cx cy px py : Int) : crs bx b_y ax ay cx cy px py = -crs ax ay bx b_y cx cy px py := by unfold crs frr trn; grind
theorem crs_rot (ax ay bx b_y cx cy px py : Int) : crs bx b_y cx cy ax ay px py = crs ax ay bx b_y cx cy px py := by unfold crs frr trn; grind
theorem crc_swap (ax ay bx b_y cx cy px py : Int) : crc bx b_y ax ay cx cy px py = crc ax ay bx b_y cx cy px py := by
  unfold crc; rw [rp4_swap, trn_swap, crs_swap, Int.sign_neg, Int.sign_neg, Int.neg_mul_neg]
theorem crc_rot (ax ay bx b_y cx cy px py : Int) : crc bx b_y cx cy ax ay px py = crc ax ay bx b_y cx cy px py := by
  unfold crc; rw [rp4_rot, trn_rot, crs_rot]

theorem on_lt {ax ay bx b_y px py : Int} (h : trn ax ay bx b_y px py = 0) (hl : ax < bx) :
    (ax < px ∨ ax = px ∧ ay ≤ py) ∧ (px < bx ∨ px = bx ∧ py ≤ b_y) ↔ (min ax bx ≤ px ∧ px ≤ max ax bx) ∧ min ay b_y ≤ py ∧ py ≤ max ay b_y := by
  unfold trn at h
  have hd : 0 < bx - ax := by omega
  constructor
  · intro ⟨h1, h2⟩
    have k0 : 0 ≤ px - ax := by omega
    have k1 : 0 ≤ bx - px := by omega
    refine ⟨by omega, ?_⟩
    by_cases hy : ay ≤ b_y
    · have m1 := Int.mul_nonneg (show 0 ≤ b_y - ay by omega) k0
      have m2 := Int.mul_nonneg (show 0 ≤ b_y - ay by omega) k1
      have a1 : (bx - ax) * 0 ≤ (bx - ax) * (py - ay) := by grind
      have a2 : (bx - ax) * 0 ≤ (bx - ax) * (b_y - py) := by grind
      have b1 := Int.le_of_mul_le_mul_left a1 hd
      have b2 := Int.le_of_mul_le_mul_left a2 hd
      omega
    · have m1 := Int.mul_nonneg (show 0 ≤ ay - b_y by omega) k0
      have m2 := Int.mul_nonneg (show 0 ≤ ay - b_y by omega) k1
      have a1 : (bx - ax) * 0 ≤ (bx - ax) * (ay - py) := by grind
      have a2 : (bx - ax) * 0 ≤ (bx - ax) * (py - b_y) := by grind
      have b1 := Int.le_of_mul_le_mul_left a1 hd
      have b2 := Int.le_of_mul_le_mul_left a2 hd
      omega
  · intro ⟨h1, h2⟩
    refine ⟨?_, ?_⟩
    · by_cases hx : ax < px
      · exact .inl hx
      · have hx : px = ax := by omega
        subst hx
        have : (bx - px) * (py - ay) = 0 := by grind
        rcases Int.mul_eq_zero.1 this with h | h <;> omega
    · by_cases hx : px < bx
      · exact .inl hx
      · have hx : px = bx := by omega
        subst hx
        have : (px - ax) * (py - b_y) = 0 := by grind
        rcases Int.mul_eq_zero.1 this with h | h <;> omega
theorem lex_btw {ax ay bx b_y px py : Int} (h : trn ax ay bx b_y px py = 0) (hl : ahd bx b_y ax ay = false) :
    (!ahd px py ax ay && !ahd bx b_y px py) = (btw ax bx px && btw ay b_y py) := by
  unfold ahd at hl
  have hl' : ¬(bx < ax ∨ bx = ax ∧ b_y < ay) := fun h => by
    have : (decide (bx < ax) || decide (bx = ax) && decide (b_y < ay)) = true := by simpa using h
    rw [hl] at this; cases this
  have h3 : (ax < px ∨ ax = px ∧ ay ≤ py) ∧ (px < bx ∨ px = bx ∧ py ≤ b_y) ↔ (min ax bx ≤ px ∧ px ≤ max ax bx) ∧ min ay b_y ≤ py ∧ py ≤ max ay b_y := by
    by_cases hx : ax < bx
    · exact on_lt h hx
    · obtain rfl : bx = ax := by omega
      omega
  rw [Bool.eq_iff_iff]
  unfold ahd btw
  simp only [Bool.and_eq_true, Bool.not_eq_true', Bool.or_eq_false_iff, Bool.and_eq_false_iff, decide_eq_true_eq, decide_eq_false_iff_not]
  omega
theorem ahd_asym {ax ay bx b_y : Int} (h : ahd ax ay bx b_y = true) : ahd bx b_y ax ay = false := by
  unfold ahd at *
  simp only [Bool.and_eq_true, Bool.or_eq_true, Bool.or_eq_false_iff, Bool.and_eq_false_iff, decide_eq_true_eq, decide_eq_false_iff_not] at *
  omega
theorem btw_comm (a b n : Int) : btw b a n = btw a b n := by unfold btw; rw [Int.min_comm, Int.max_comm]
/-- does one lie on a segment, by the order of points? (h: is b ahead of a) -/
def lexB (h : Bool) (ax ay bx b_y px py : Int) : Bool := bif h then !ahd px py bx b_y && !ahd ax ay px py else !ahd px py ax ay && !ahd bx b_y px py
theorem onB_lex (ax ay bx b_y px py : Int) : onB ax ay bx b_y px py = (rp3 ax ay bx b_y px py && (way ax ay bx b_y px py == 0) && lexB (ahd bx b_y ax ay) ax ay bx b_y px py) := by
  unfold onB lexB way
  cases rp3 ax ay bx b_y px py
  · rfl
  by_cases h0 : trn ax ay bx b_y px py = 0
  · rw [h0]
    cases hl : ahd bx b_y ax ay
    · rw [cond_false, cond_true, lex_btw h0 hl]; simp
    · have h1 : trn bx b_y ax ay px py = 0 := by rw [trn_swap, h0]; rfl
      rw [cond_true, cond_true, lex_btw h1 (ahd_asym hl), btw_comm, btw_comm b_y ay]; simp
  · have : ((trn ax ay bx b_y px py).sign == 0) = false := by simpa using h0
    rw [cond_true, this]; simp
theorem onB_swap (ax ay bx b_y px py : Int) : onB bx b_y ax ay px py = onB ax ay bx b_y px py := by
  unfold onB; rw [rp3_swap, trn_swap, Int.sign_neg, btw_comm, btw_comm ay]
  congr 3
  rw [Bool.eq_iff_iff]; simp
theorem onB_end (ax ay bx b_y : Int) : onB ax ay bx b_y ax ay = (rp ax ay && rp bx b_y) := by
  unfold onB
  have h : trn ax ay bx b_y ax ay = 0 := by unfold trn; grind
  have b1 : btw ax bx ax = true := by unfold btw; simp; omega
  have b2 : btw ay b_y ay = true := by unfold btw; simp; omega
  rw [h, b1, b2]; unfold rp3
  generalize rp ax ay = a; generalize rp bx b_y = b
  cases a <;> cases b <;> rfl
end Go.Proofs.Ytlcbomjdbdgbmaa
/- The walk of gromaref03's On. Conditions: none. -/
namespace Go.Proofs.Ytlcbomjdbdgbmaa
open Go.RowKit

theorem rWay_is (ax ay bx b_y cx cy r : Int) (h : way ax ay bx b_y cx cy = r) (w : World) :
    Calls Try.prog 74 #[pI ax ay, pI bx b_y, pI cx cy] w fun e w' => e = .returned (.int .i64 r) ∧ Below w.heap.size w w' := h ▸ Way_any ax ay bx b_y cx cy w
theorem Blk.put2 {w : World} {b : Nat} {p q : Value} {t : TypeId} (h : Blk w b #[p, q] t) (u v : Value) : Blk ((w.setCell ⟨b, 0, none⟩ u).setCell ⟨b, 1, none⟩ v) b #[u, v] t := (h.put 0 u).put 1 v
theorem Blk.sett {w : World} {b b' : Nat} {c : Array Value} {t : TypeId} (h : Blk w b c t) (hne : b ≠ b') (u v : Value) : Blk ((w.setCell ⟨b', 0, none⟩ u).setCell ⟨b', 1, none⟩ v) b c t := (h.set hne _ _ _).set hne _ _ _
theorem rAhead_is (ax ay bx b_y : Int) (r : Bool) (h : ahd ax ay bx b_y = r) (w : World) : Calls Try.prog 71 #[pI ax ay, pI bx b_y] w fun e w' => e = .returned (.bool r) ∧ Below w.heap.size w w' := h ▸ Ahead_any ax ay bx b_y w
set_option maxRecDepth 100000 in
set_option maxHeartbeats 2000000 in
theorem rOn_any (ax ay bx b_y cx cy : Int) (w : World) :
    Calls Try.prog 27 #[pI ax ay, pI bx b_y, pI cx cy] w fun e w' => e = .returned (.bool (onB ax ay bx b_y cx cy)) ∧ Below w.heap.size w w' := by
  rw [onB_lex]
  unfold rp3 lexB
  obtain ⟨x, hx⟩ : ∃ x, rp ax ay = x := ⟨_, rfl⟩
  obtain ⟨y, hy⟩ : ∃ y, rp bx b_y = y := ⟨_, rfl⟩
  obtain ⟨z, hz⟩ : ∃ z, rp cx cy = z := ⟨_, rfl⟩
  obtain ⟨s, hs⟩ : ∃ s : Int, way ax ay bx b_y cx cy = s := ⟨_, rfl⟩
  obtain ⟨t, ht⟩ : ∃ t : Bool, (s == 0) = t := ⟨_, rfl⟩
  obtain ⟨h, hh⟩ : ∃ h, ahd bx b_y ax ay = h := ⟨_, rfl⟩
  obtain ⟨p, hp⟩ : ∃ p, ahd cx cy bx b_y = p := ⟨_, rfl⟩
  obtain ⟨q, hq⟩ : ∃ q, ahd ax ay cx cy = q := ⟨_, rfl⟩
  obtain ⟨m, hm⟩ : ∃ m, ahd cx cy ax ay = m := ⟨_, rfl⟩
  obtain ⟨n, hn⟩ : ∃ n, ahd bx b_y cx cy = n := ⟨_, rfl⟩
  rw [hx, hy, hz, hs, ht, hh, hp, hq, hm, hn]
  have HX := Lib.hid hx
  have HY := Lib.hid hy
  have HZ := Lib.hid hz
  have HS := Lib.hid hs
  have HH := Lib.hid hh
  have HP := Lib.hid hp
  have HQ := Lib.hid hq
  have HM := Lib.hid hm
  have HN := Lib.hid hn
  clear hx hy hz hs hh hp hq hm hn
  go_enter Try.func27, Try.ntmps27
  go_wp2_with fail
  first | refine calls_w ?_ | refine name_world ?_
  intro W hW
  have ka : QVar W (w.heap.size) ax ay := by rw [hW]; exact (Blk.new w _ _) |>.alloc _ |>.alloc _
  have kb : QVar W (w.heap.size + 1) bx b_y := by rw [hW]; exact (Blk.new1 w _ _ _) |>.alloc _
  have kc : QVar W (w.heap.size + 1 + 1) cx cy := by rw [hW]; exact (Blk.new2 w _ _ _ _)
  have hb0 : Below w.heap.size w W := by rw [hW]; exact below_a3 _ _ _ _
  clear hW
  refine (rR_is ax ay x HX.out _).mono ?_
  rintro e u1 ⟨rfl, hn⟩
  replace ka : QVar u1 _ _ _ := ka.of hn
  replace kb : QVar u1 _ _ _ := kb.of hn
  replace kc : QVar u1 _ _ _ := kc.of hn
  replace hb0 := hb0.trans (hn.mono hb0.size)
  clear hn 
  cases x
  · have ca := QVar.c ka
    have la := ka.lt
    have cb := QVar.c kb
    have lb := kb.lt
    have cc := QVar.c kc
    have lc := kc.lt
    go_wp2
    go_ret
    exact ⟨rfl, hb0⟩
  · have ca := QVar.c ka
    have la := ka.lt
    have cb := QVar.c kb
    have lb := kb.lt
    have cc := QVar.c kc
    have lc := kc.lt
    go_wp2_with fail
    clear ca la cb lb cc lc
    refine (rR_is bx b_y y HY.out _).mono ?_
    rintro e u2 ⟨rfl, hn⟩
    replace ka : QVar u2 _ _ _ := ka.of hn
    replace kb : QVar u2 _ _ _ := kb.of hn
    replace kc : QVar u2 _ _ _ := kc.of hn
    replace hb0 := hb0.trans (hn.mono hb0.size)
    clear hn 
    cases y
    · have ca := QVar.c ka
      have la := ka.lt
      have cb := QVar.c kb
      have lb := kb.lt
      have cc := QVar.c kc
      have lc := kc.lt
      go_wp2
      go_ret
      exact ⟨rfl, hb0⟩
    · have ca := QVar.c ka
      have la := ka.lt
      have cb := QVar.c kb
      have lb := kb.lt
      have cc := QVar.c kc
      have lc := kc.lt
      go_wp2_with fail
      clear ca la cb lb cc lc
      refine (rR_is cx cy z HZ.out _).mono ?_
      rintro e u3 ⟨rfl, hn⟩
      replace ka : QVar u3 _ _ _ := ka.of hn
      replace kb : QVar u3 _ _ _ := kb.of hn
      replace kc : QVar u3 _ _ _ := kc.of hn
      replace hb0 := hb0.trans (hn.mono hb0.size)
      clear hn 
      cases z
      · have ca := QVar.c ka
        have la := ka.lt
        have cb := QVar.c kb
        have lb := kb.lt
        have cc := QVar.c kc
        have lc := kc.lt
        go_wp2
        go_ret
        exact ⟨rfl, hb0⟩
      · have ca := QVar.c ka
        have la := ka.lt
        have cb := QVar.c kb
        have lb := kb.lt
        have cc := QVar.c kc
        have lc := kc.lt
        go_wp2_with fail
        clear ca la cb lb cc lc
        refine (rWay_is ax ay bx b_y cx cy s HS.out _).mono ?_
        rintro e u4 ⟨rfl, hn⟩
        replace ka : QVar u4 _ _ _ := ka.of hn
        replace kb : QVar u4 _ _ _ := kb.of hn
        replace kc : QVar u4 _ _ _ := kc.of hn
        replace hb0 := hb0.trans (hn.mono hb0.size)
        clear hn 
        cases t
        · have ca := QVar.c ka
          have la := ka.lt
          have cb := QVar.c kb
          have lb := kb.lt
          have cc := QVar.c kc
          have lc := kc.lt
          go_wp2
          go_ret
          exact ⟨rfl, hb0⟩
        · have ca := QVar.c ka
          have la := ka.lt
          have cb := QVar.c kb
          have lb := kb.lt
          have cc := QVar.c kc
          have lc := kc.lt
          go_wp2_with fail
          clear ca la cb lb cc lc
          have la4 := ka.lt
          have lb4 := kb.lt
          have lc4 := kc.lt
          have HNE := Lib.hid (show (w.heap.size ≠ u4.heap.size ∧ w.heap.size + 1 ≠ u4.heap.size ∧ w.heap.size + 1 + 1 ≠ u4.heap.size ∧ w.heap.size ≠ u4.heap.size + 1 ∧ w.heap.size + 1 ≠ u4.heap.size + 1 ∧ w.heap.size + 1 + 1 ≠ u4.heap.size + 1 ∧ u4.heap.size ≠ u4.heap.size + 1 ∧ w.heap.size < u4.heap.size ∧ w.heap.size + 1 < u4.heap.size ∧ w.heap.size + 1 + 1 < u4.heap.size) from by omega)
          clear la4 lb4 lc4
          refine calls_w ?_
          intro V hV
          have kl : QVar V u4.heap.size ax ay := by rw [hV]; exact (Blk.new _ _ _).alloc _
          have km : QVar V (u4.heap.size + 1) bx b_y := by rw [hV]; exact Blk.new1 _ _ _ _
          have hbV : Below u4.heap.size u4 V := by rw [hV]; exact below_a2 _ _ _
          replace ka : QVar V _ _ _ := ka.of hbV
          replace kb : QVar V _ _ _ := kb.of hbV
          replace kc : QVar V _ _ _ := kc.of hbV
          have hge : w.heap.size ≤ u4.heap.size := hb0.size
          replace hb0 := hb0.trans (hbV.mono hb0.size)
          clear hV hbV
          refine (rAhead_is bx b_y ax ay h HH.out _).mono ?_
          rintro e u5 ⟨rfl, hn⟩
          replace ka : QVar u5 _ _ _ := ka.of hn
          replace kb : QVar u5 _ _ _ := kb.of hn
          replace kc : QVar u5 _ _ _ := kc.of hn
          replace kl : QVar u5 _ _ _ := kl.of hn
          replace km : QVar u5 _ _ _ := km.of hn
          replace hb0 := hb0.trans (hn.mono hb0.size)
          clear hn 
          cases h
          · have ca := QVar.c ka
            have la := ka.lt
            have cb := QVar.c kb
            have lb := kb.lt
            have cc := QVar.c kc
            have lc := kc.lt
            have cl := QVar.c kl
            have ll := kl.lt
            have cm := QVar.c km
            have lm := km.lt
            go_wp2_with fail
            clear ca la cb lb cc lc cl ll cm lm
            refine (rAhead_is cx cy ax ay m HM.out _).mono ?_
            rintro e u6 ⟨rfl, hn⟩
            replace ka : QVar u6 _ _ _ := ka.of hn
            replace kb : QVar u6 _ _ _ := kb.of hn
            replace kc : QVar u6 _ _ _ := kc.of hn
            replace kl : QVar u6 _ _ _ := kl.of hn
            replace km : QVar u6 _ _ _ := km.of hn
            replace hb0 := hb0.trans (hn.mono hb0.size)
            clear hn 
            cases m
            · have ca := QVar.c ka
              have la := ka.lt
              have cb := QVar.c kb
              have lb := kb.lt
              have cc := QVar.c kc
              have lc := kc.lt
              have cl := QVar.c kl
              have ll := kl.lt
              have cm := QVar.c km
              have lm := km.lt
              go_wp2_with fail
              clear ca la cb lb cc lc cl ll cm lm
              refine (rAhead_is bx b_y cx cy n HN.out _).mono ?_
              rintro e u7 ⟨rfl, hn⟩
              replace ka : QVar u7 _ _ _ := ka.of hn
              replace kb : QVar u7 _ _ _ := kb.of hn
              replace kc : QVar u7 _ _ _ := kc.of hn
              replace kl : QVar u7 _ _ _ := kl.of hn
              replace km : QVar u7 _ _ _ := km.of hn
              replace hb0 := hb0.trans (hn.mono hb0.size)
              clear hn 
              cases n
              · have ca := QVar.c ka
                have la := ka.lt
                have cb := QVar.c kb
                have lb := kb.lt
                have cc := QVar.c kc
                have lc := kc.lt
                have cl := QVar.c kl
                have ll := kl.lt
                have cm := QVar.c km
                have lm := km.lt
                go_wp2
                go_ret
                exact ⟨rfl, hb0⟩
              · have ca := QVar.c ka
                have la := ka.lt
                have cb := QVar.c kb
                have lb := kb.lt
                have cc := QVar.c kc
                have lc := kc.lt
                have cl := QVar.c kl
                have ll := kl.lt
                have cm := QVar.c km
                have lm := km.lt
                go_wp2
                go_ret
                exact ⟨rfl, hb0⟩
            · have ca := QVar.c ka
              have la := ka.lt
              have cb := QVar.c kb
              have lb := kb.lt
              have cc := QVar.c kc
              have lc := kc.lt
              have cl := QVar.c kl
              have ll := kl.lt
              have cm := QVar.c km
              have lm := km.lt
              go_wp2
              go_ret
              exact ⟨rfl, hb0⟩
          · have ca := QVar.c ka
            have la := ka.lt
            have cb := QVar.c kb
            have lb := kb.lt
            have cc := QVar.c kc
            have lc := kc.lt
            have cl := QVar.c kl
            have ll := kl.lt
            have cm := QVar.c km
            have lm := km.lt
            have fl0 := kl.free 0
            have fl1 := kl.free 1
            have fm0 := km.free 0
            have fm1 := km.free 1
            obtain ⟨n1, n2, n3, n4, n5, n6, n7, _, _, _⟩ := HNE.out
            go_wp2_with fail
            refine calls_w ?_
            intro V2 hV2
            clear ca la cb lb cc lc cl ll cm lm
            have hb2 : Below u4.heap.size u5 V2 := by rw [hV2]; exact set2_below (set2_below (Below.refl _ _) (Nat.le_refl _) _ _) (by omega) _ _
            replace ka : QVar V2 _ _ _ := ka.below hb2 HNE.out.2.2.2.2.2.2.2.1
            replace kb : QVar V2 _ _ _ := kb.below hb2 HNE.out.2.2.2.2.2.2.2.2.1
            replace kc : QVar V2 _ _ _ := kc.below hb2 HNE.out.2.2.2.2.2.2.2.2.2
            replace km : QVar V2 (u4.heap.size + 1) ax ay := by rw [hV2]; exact (km.sett (Ne.symm n7) _ _).put2 _ _
            replace kl : QVar V2 u4.heap.size bx b_y := by rw [hV2]; exact (kl.put2 _ _).sett n7 _ _
            replace hb0 := hb0.trans (hb2.mono hge)
            clear hb2 hV2 n1 n2 n3 n4 n5 n6 n7 fl0 fl1 fm0 fm1
            refine (rAhead_is cx cy bx b_y p HP.out _).mono ?_
            rintro e u6 ⟨rfl, hn⟩
            replace ka : QVar u6 _ _ _ := ka.of hn
            replace kb : QVar u6 _ _ _ := kb.of hn
            replace kc : QVar u6 _ _ _ := kc.of hn
            replace kl : QVar u6 _ _ _ := kl.of hn
            replace km : QVar u6 _ _ _ := km.of hn
            replace hb0 := hb0.trans (hn.mono hb0.size)
            clear hn 
            cases p
            · have ca := QVar.c ka
              have la := ka.lt
              have cb := QVar.c kb
              have lb := kb.lt
              have cc := QVar.c kc
              have lc := kc.lt
              have cl := QVar.c kl
              have ll := kl.lt
              have cm := QVar.c km
              have lm := km.lt
              go_wp2_with fail
              clear ca la cb lb cc lc cl ll cm lm
              refine (rAhead_is ax ay cx cy q HQ.out _).mono ?_
              rintro e u7 ⟨rfl, hn⟩
              replace ka : QVar u7 _ _ _ := ka.of hn
              replace kb : QVar u7 _ _ _ := kb.of hn
              replace kc : QVar u7 _ _ _ := kc.of hn
              replace kl : QVar u7 _ _ _ := kl.of hn
              replace km : QVar u7 _ _ _ := km.of hn
              replace hb0 := hb0.trans (hn.mono hb0.size)
              clear hn 
              cases q
              · have ca := QVar.c ka
                have la := ka.lt
                have cb := QVar.c kb
                have lb := kb.lt
                have cc := QVar.c kc
                have lc := kc.lt
                have cl := QVar.c kl
                have ll := kl.lt
                have cm := QVar.c km
                have lm := km.lt
                go_wp2
                go_ret
                exact ⟨rfl, hb0⟩
              · have ca := QVar.c ka
                have la := ka.lt
                have cb := QVar.c kb
                have lb := kb.lt
                have cc := QVar.c kc
                have lc := kc.lt
                have cl := QVar.c kl
                have ll := kl.lt
                have cm := QVar.c km
                have lm := km.lt
                go_wp2
                go_ret
                exact ⟨rfl, hb0⟩
            · have ca := QVar.c ka
              have la := ka.lt
              have cb := QVar.c kb
              have lb := kb.lt
              have cc := QVar.c kc
              have lc := kc.lt
              have cl := QVar.c kl
              have ll := kl.lt
              have cm := QVar.c km
              have lm := km.lt
              go_wp2
              go_ret
              exact ⟨rfl, hb0⟩
end Go.Proofs.Ytlcbomjdbdgbmaa
