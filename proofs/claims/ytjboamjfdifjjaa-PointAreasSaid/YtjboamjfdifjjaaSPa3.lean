/- The statement PointAreasSaid: for every input the law returns true, and its arguments read as before. Conditions: none. -/
import Derived.Test.YtjboamjfdifjjaaSPa2
import Derived.KernelRfl
import Derived.StillTail
import Derived.OrdersHeld
import Derived.Deep.Quiet
import Derived.Below
import Derived.WalkKit
import Derived.Test.YtjboamjfdifjjaaProg
import Derived.WalkSpells
import Derived.StillTactics
import Derived.Laws.Pointers
import Derived.Deep.RegionHeld3
import Derived.RowKit3
import Derived.Deep.QuietTactic
import Derived.BigQuiet
import Derived.BigRegion
import Derived.Lib.Hide
import Derived.WalkSmall
import Derived.Laws.BitsAllLaws
import Derived.IntWalk
import Derived.Deep.OwnRows
import Derived.Deep.LoopGhost
import Derived.Shelf.Bits.Mul64
import Derived.Test.YtjboamjfdifjjaaRows
import Derived.ProofKit
import Derived.OpenShut
import Derived.ShutString
import Derived.ChangeOld
import Derived.Lib.SmallJoins
import Derived.Laws.IdiomArrays
import Derived.Laws.AppendOwn
import Derived.Laws.AppendOwnNone
import Derived.Deep.SlicePairs
namespace Go.Proofs.Ytjboamjfdifjjaa
open Go.RowKit

/-- the cells of the first k points, the last one first -/
def bk (X Y : Nat → Int) : Nat → List Value
  | 0 => []
  | k + 1 => .int .i64 (X k) :: .int .i64 (Y k) :: bk X Y k
theorem bk_len (X Y : Nat → Int) : ∀ k, (bk X Y k).length = k * 2
  | 0 => rfl
  | k + 1 => by show (bk X Y k).length + 1 + 1 = (k + 1) * 2; rw [bk_len X Y k]; omega
theorem bk_at (X Y : Nat → Int) : ∀ k j, j < k → (bk X Y k)[j * 2]? = some (.int .i64 (X (k - 1 - j))) ∧ (bk X Y k)[j * 2 + 1]? = some (.int .i64 (Y (k - 1 - j)))
  | 0, j, h => by omega
  | k + 1, 0, _ => ⟨by show some _ = some _; congr 2, by show some _ = some _; congr 2⟩
  | k + 1, j + 1, h => by
    have ih := bk_at X Y k j (by omega)
    have e1 : (j + 1) * 2 = j * 2 + 1 + 1 := by omega
    rw [e1]
    show (bk X Y k)[j * 2]? = _ ∧ (bk X Y k)[j * 2 + 1]? = _
    rw [show k + 1 - 1 - (j + 1) = k - 1 - j by omega]; exact ih
theorem add_pl (g o n : Nat) : (⟨g, o, none⟩ : Addr).add n = ⟨g, o + n, none⟩ := by
  unfold Addr.add; split
  · rename_i h; rw [h, Nat.add_zero]
  · rfl
/-- the way back lies in own memory -/
def PB (w : World) (base : Nat) (v : Value) (k : Nat) (X Y : Nat → Int) : Prop := w.ownsRow base 24 2 v k (bk X Y k)
theorem PB.nil (w : World) (base : Nat) (X Y : Nat → Int) : PB w base (.slice none 0 0) 0 X Y := ⟨rfl, .inl ⟨rfl, rfl⟩⟩
theorem PB.pts {w : World} {base : Nat} {v : Value} {k : Nat} {X Y : Nat → Int} (h : PB w base v k X Y) :
    ∃ ao cap, v = .slice ao k cap ∧ Pts w ao k cap (fun j => X (k - 1 - j)) (fun j => Y (k - 1 - j)) ∧ ((k = 0 ∧ ao = none ∧ cap = 0) ∨ ∃ g, ao = some ⟨g, 0, none⟩ ∧ base ≤ g) := by
  rcases h.2 with ⟨rfl, rfl⟩ | ⟨g, cap, cur, rfl, hb, hg, h1, h2, h3, h4⟩
  · exact ⟨none, 0, rfl, ⟨fun h => absurd h (by omega), Nat.le_refl _, by omega⟩, .inl ⟨rfl, rfl, rfl⟩⟩
  · refine ⟨some ⟨g, 0, none⟩, cap, rfl, ⟨fun _ => ⟨_, rfl, (Array.getElem?_eq_some_iff.1 hg).1, fun i hi => ?_⟩, h1, by unfold maxLen at h2; omega⟩, .inr ⟨g, rfl, hb⟩⟩
    have key : ∀ o u, o < k * 2 → (bk X Y k)[o]? = some u → w.cell? ⟨g, o, none⟩ = some u := fun o u ho hu => by
      rw [← h4, List.getElem?_take_of_lt ho, Array.getElem?_toList] at hu
      unfold World.cell?
      simp [hg, hu]
    have := bk_at X Y k i hi
    refine ⟨?_, ?_⟩
    · have e : (⟨g, 0, none⟩ : Addr).add (i * 2) = ⟨g, i * 2, none⟩ := by rw [add_pl, Nat.zero_add]
      rw [e]; exact key _ _ (by omega) this.1
    · have e : ((⟨g, 0, none⟩ : Addr).add (i * 2)).add 1 = ⟨g, i * 2 + 1, none⟩ := by rw [add_pl, add_pl, Nat.zero_add]
      rw [e]; exact key _ _ (by omega) this.2
theorem bk_one (X Y : Nat → Int) : ∀ k, ∀ u ∈ bk X Y k, u.oneCell' = true
  | 0, u, h => by cases h
  | k + 1, u, h => by
    rcases List.mem_cons.1 h with rfl | h
    · rfl
    · rcases List.mem_cons.1 h with rfl | h
      · rfl
      · exact bk_one X Y k u h
theorem PB.val {w : World} {base : Nat} {v : Value} {k : Nat} {X Y : Nat → Int} (h : PB w base v k X Y) :
    (v = .slice none 0 0 ∧ k = 0) ∨ ∃ g cap, v = .slice (some ⟨g, 0, none⟩) k cap ∧ ∀ j u, (bk X Y k)[j]? = some u → w.cell? ((⟨g, 0, none⟩ : Addr).add j) = some u := by
  have h2 := h
  rcases h.2 with ⟨rfl, hx⟩ | ⟨g, cap, cur, rfl, r⟩
  · exact .inl ⟨rfl, hx⟩
  · exact .inr ⟨g, cap, rfl, World.ownsRow.cells h2 rfl⟩
theorem info_pt : (Try.prog.info? 24).map (fun i => (i.zero, i.size, i.bytes)) = some (some (.agg #[.int .i64 0, .int .i64 0]), 2, 16) := by kernel_rfl
theorem pt_made (w : World) (base : Nat) (px py : Int) (g : Nat) (hg : g = w.heap.size) (hb : base ≤ g) : (w.alloc (.cells #[.int .i64 px, .int .i64 py] 24)).ownsRow base 24 2 (.slice (some ⟨g, 0, none⟩) 1 1) 1 [.int .i64 px, .int .i64 py] := by
  subst hg
  exact ⟨rfl, .inr ⟨w.heap.size, 1, _, rfl, hb, heap_alloc_new w _, Nat.le_refl _, by decide, rfl, rfl⟩⟩
/-- one point ahead of the others, in a new array -/
theorem wpList_append_bk {w : World} {ops : Array Oper} {rest : List Oper} {o : Oper} {a : Act} {Q : Exit → Act → World → Prop} (hgd : o.guard = none) (s x : Operand)
    (ho : o.op = .call { callee := .builtin .append, args := #[s, x], argTypes := #[22, 22] })
    (base : Nat) (v vb : Value) (k : Nat) (X Y : Nat → Int) (px py : Int) (hs : a.eval s = v) (hx : a.eval x = vb) (hown : w.ownsRow base 24 2 v 1 [.int .i64 px, .int .i64 py]) (hv : v ≠ .slice none 0 0)
    (hpb : PB w base vb k X Y) (ex : X k = px) (ey : Y k = py) (hk : k < 60) (hb : base ≤ w.heap.size) (B : Nat) (hB : B ≤ w.heap.size) (hr : ∀ j, v.ownBlock = some j → B ≤ j)
    (h : ∀ v' w', PB w' base v' (k + 1) X Y → Below B w w' → wpList Try.prog ops Q rest (a.put o.dst v') w') : wpList Try.prog ops Q (o :: rest) a w := by
  obtain ⟨i0, hi, hz0, hz1, hz2⟩ := info_parts info_pt
  have hbk : bk X Y (k + 1) = [.int .i64 px, .int .i64 py] ++ bk X Y k := by rw [← ex, ← ey]; rfl
  rcases hpb.val with ⟨rfl, rfl⟩ | ⟨g, cap, rfl, hc⟩
  · refine wpList_append_own_none hgd s x _ ho base 24 i0 2 Try.underlying22 hi v 1 _ hs hown hx ?_
    refine h v w ?_ (Below.refl _ _)
    show w.ownsRow base _ 2 v 1 (bk X Y (0 + 1))
    rw [hbk]; exact hown
  · refine wpList_append_own w hgd s x _ ho base 24 i0 (Value.agg #[.int .i64 0, .int .i64 0]) 2 16 Try.underlying22 hi hz0 hz1 hz2 rfl (by decide) v 1 _ hs hown ⟨g, 0, none⟩ k cap (bk X Y k) hx (bk_len X Y k) hc (bk_one X Y k) (by unfold maxLen; omega) (by omega) hb ?_
    intro v' w' o1 gr _
    refine h v' w' ?_ ((Below.refl _ _).grown gr hB hr)
    show w'.ownsRow base _ 2 v' (k + 1) (bk X Y (k + 1))
    rw [hbk, Nat.add_comm k 1]; exact o1
theorem own_below {w w' : World} {base : Nat} {v : Value} {n : Nat} {xs : List Value} {e : TypeId} {sz : Nat} (h : w.ownsRow base e sz v n xs) (hb : Below w.heap.size w w') : w'.ownsRow base e sz v n xs := by
  refine ⟨h.1, h.2.imp id ?_⟩
  rintro ⟨g, cap, cur, rfl, hbg, hg, r⟩
  exact ⟨g, cap, cur, rfl, hbg, (hb.block _ (Array.getElem?_eq_some_iff.1 hg).1).trans hg, r⟩
end Go.Proofs.Ytjboamjfdifjjaa

namespace Go.Proofs.Ytjboamjfdifjjaa
open Go.RowKit

def seT (n : Nat) (fx fy : Int) (X Y : Nat → Int) (i : Nat) : Int := bif rp fx fy && rp (X i) (Y i) && rp (X (nx n i)) (Y (nx n i)) then trn fx fy (X i) (Y i) (X (nx n i)) (Y (nx n i)) else 0
def seS (n : Nat) (fx fy : Int) (X Y : Nat → Int) (k : Nat) : Int := sumN (seT n fx fy X Y) k
theorem seT_bd (n : Nat) (fx fy : Int) (X Y : Nat → Int) (i : Nat) : -77371252455336267181195264 ≤ seT n fx fy X Y i ∧ seT n fx fy X Y i ≤ 77371252455336267181195264 := by
  unfold seT
  cases h1 : rp fx fy
  · simp
  cases h2 : rp (X i) (Y i)
  · simp
  cases h3 : rp (X (nx n i)) (Y (nx n i))
  · simp
  have a1 := rp_co h1
  have a2 := rp_co h2
  have a3 := rp_co h3
  have := trn_bd a1.1 a1.2 a2.1 a2.2 a3.1 a3.2
  simp only [Bool.and_self, cond_true]
  omega
theorem Pts.atS {w wr : World} {a : Addr} {n cap : Nat} {X Y : Nat → Int} (h : Pts w (some a) n cap X Y) (hb : Below w.heap.size w wr) {i : Nat} (hi : i < n) :
    wr.cell? (a.add (i * 2)) = some (.int .i64 (X i)) ∧ wr.cell? { block := (a.add (i * 2)).block, off := (a.add (i * 2)).off + 1 } = some (.int .i64 (Y i)) := by
  obtain ⟨a', ea, h1, h2⟩ := h.at hb hi
  obtain rfl : a = a' := by injection ea
  exact ⟨h1, h2⟩
theorem pRt_is (x y : Int) (r : Bool) (h : rp x y = r) (w : World) : Calls Try.prog 7 #[pI x y] w fun e w' => e = .returned (.bool r) ∧ Below w.heap.size w w' := h ▸ PtRight_any x y w
theorem rTurn_v (ax ay bx b_y cx cy t : Int) (ht : trn ax ay bx b_y cx cy = t) (h1 : Co ax) (h2 : Co ay) (h3 : Co bx) (h4 : Co b_y) (h5 : Co cx) (h6 : Co cy) (w : World) :
    Calls Try.prog 9 #[pI ax ay, pI bx b_y, pI cx cy] w (GivesBig w t 12) := by
  subst ht
  refine (rTurn_any ax ay bx b_y cx cy h1 h2 h3 h4 h5 h6 w).mono ?_
  rintro e w2 ⟨v, rfl, h, hb⟩
  exact ⟨v, rfl, h.mono (by decide), hb⟩
/-- a sum in a variable -/
def SumB (w : World) (b : Nat) (z : Int) : Prop := ∃ neg a l c, Blk w b #[.bool neg, .slice a l c] 28 ∧ Big w (.agg #[.bool neg, .slice a l c]) z 12
theorem SumB.of {w w' : World} {b : Nat} {z : Int} (h : SumB w b z) (hb : Below w.heap.size w w') : SumB w' b z := by
  obtain ⟨neg, a, l, c, h1, h2⟩ := h
  exact ⟨neg, a, l, c, h1.of hb, h2.of hb⟩
theorem PB.set2 {w : World} {base : Nat} {v : Value} {k : Nat} {X Y : Nat → Int} (h : PB w base v k X Y) {b : Nat} {c : Array Value} {t : TypeId} (hb : Blk w b c t) (ht : t ≠ 24) (x y : Value) :
    PB ((w.setCell ⟨b, 0, none⟩ x).setCell ⟨b, 1, none⟩ y) base v k X Y := by
  refine ⟨h.1, h.2.imp id ?_⟩
  rintro ⟨g, cap, cur, rfl, hbg, hg, r⟩
  have hne : g ≠ b := by
    intro e; subst e
    have h2 : w.heap[g]? = some (.cells c t (0, 0)) := hb
    rw [h2] at hg; injection hg with hg; injection hg with h3 h4; exact ht h4
  refine ⟨g, cap, cur, rfl, hbg, ?_, r⟩
  rw [Below.heap_setCell _ _ _ _ hne, Below.heap_setCell _ _ _ _ hne]; exact hg
def allK (X Y : Nat → Int) : Nat → Bool
  | 0 => true
  | k + 1 => allK X Y k && rp (X k) (Y k)
theorem allK_allC (X Y : Nat → Int) : ∀ k, allK X Y k = allC k X Y
  | 0 => rfl
  | k + 1 => by
    unfold allC
    rw [List.range_succ, List.all_append]
    show (allK X Y k && rp (X k) (Y k)) = ((List.range k).all _ && _)
    rw [allK_allC X Y k]; simp [allC, rp]
theorem allC_rp {n : Nat} {X Y : Nat → Int} (h : allC n X Y = true) {i : Nat} (hi : i < n) : rp (X i) (Y i) = true := by
  unfold allC at h
  exact List.all_eq_true.1 h i (List.mem_range.2 hi)
theorem Read_in (x : Int) (hx : sg x = x) (w : World) : Calls Try.prog 14 #[.agg #[.int .u64 (wd0 x), .int .u64 (wd1 x), .int .u64 (wd2 x), .int .u64 (wd3 x)]] w (GivesBig w x 18) := by
  have := Read_any x w
  rw [hx] at this
  exact this
theorem bigCmp_is0 (v v' : Value) (n m : Int) (L L' : Nat) (hm : m = n) (w : World) (h : Big w v n L) (h' : Big w v' m L') :
    Calls Try.prog 13 #[v, v'] w fun e w' => e = .returned (.int .i64 0) ∧ Below w.heap.size w w' := by
  subst hm
  have := bigCmp_any v v' m m L L' w h h'
  rw [show cmpI m m = 0 by unfold cmpI; simp] at this
  exact this
theorem allC_rev (k : Nat) (X Y : Nat → Int) : allC k (fun j => X (k - 1 - j)) (fun j => Y (k - 1 - j)) = allC k X Y := by
  apply Bool.eq_iff_iff.2
  unfold allC
  rw [List.all_eq_true, List.all_eq_true]
  constructor
  · intro h i hi
    have hi := List.mem_range.1 hi
    have this : (inC (X (k - 1 - (k - 1 - i))) && inC (Y (k - 1 - (k - 1 - i)))) = true := h (k - 1 - i) (List.mem_range.2 (by omega))
    rw [show k - 1 - (k - 1 - i) = i by omega] at this
    exact this
  · intro h i hi
    have hi := List.mem_range.1 hi
    exact h (k - 1 - i) (List.mem_range.2 (by omega))
set_option maxRecDepth 100000 in
set_option maxHeartbeats 2000000 in
theorem PointAreas_big (ao : Option Addr) (n cap : Nat) (X Y : Nat → Int) (fx fy : Int) (w : World) (h : Pts w ao n cap X Y) (hbig : 60 < n) :
    Calls Try.prog 3 #[.slice ao n cap, pI fx fy] w fun e w' => e = .returned (.bool true) ∧ Below w.heap.size w w' := by
  have hcl := h.capl
  have hcb := h.capb
  clear h
  go_enter Try.func3, Try.ntmps3
  go_wp2_with fail
  refine calls_w ?_
  intro V hV
  have hbV : Below w.heap.size w V := by rw [hV]; exact below_a1 _ _
  clear hV
  refine (pawake_any V).mono ?_
  rintro e W2 ⟨rfl, hn⟩
  have hb2 := hbV.trans (hn.mono hbV.size)
  clear hn hbV
  go_wp2
  go_ret
  exact ⟨rfl, hb2⟩
set_option maxRecDepth 100000 in
set_option maxHeartbeats 2000000 in
theorem PointAreas_any (ao : Option Addr) (n cap : Nat) (X Y : Nat → Int) (fx fy : Int) (w : World) (h : Pts w ao n cap X Y) (hn60 : ¬ 60 < n) :
    Calls Try.prog 3 #[.slice ao n cap, pI fx fy] w fun e w' => e = .returned (.bool true) ∧ Below w.heap.size w w' := by
  have hcl := h.capl
  have hcb := h.capb
  have HO := Lib.hid h
  clear h
  go_enter Try.func3, Try.ntmps3
  go_wp2_with fail
  refine name_world ?_
  intro V hV
  have KF : Hid (PVar V w.heap.size fx fy) := by rw [hV]; exact Lib.hid ((Blk.new w _ _).alloc _)
  have hbV : Below w.heap.size w V := by rw [hV]; exact below_a2 _ _ _
  have KS : Hid (SumB V (w.heap.size + 1) 0) := by rw [hV]; exact Lib.hid ⟨false, none, 0, 0, Blk.new1 w _ _ _, Big.zero _ _⟩
  have z1 := KF.out.lt
  clear hV
  obtain ⟨fb, efb⟩ : ∃ b, w.heap.size = b := ⟨_, rfl⟩
  have ofb : w.heap.size ≤ fb := by omega
  have ofb2 : fb ≤ w.heap.size := by omega
  rw [efb] at KF KS ⊢
  go_wp2_with fail
  go_loopg [5, 7, 21] n (fun gk s5 s7 s21 wr => ∃ (k : Nat) (g : Bool), s21 = .int .i64 k ∧ s5 = .bool g ∧ k ≤ n ∧ n - k ≤ gk ∧ Hid (allK X Y k = g) ∧ Hid (PVar wr fb fx fy) ∧ Hid (SumB wr (fb + 1) (seS n fx fy X Y k)) ∧ Hid (PB wr fb s7 k X Y) ∧ Below w.heap.size w wr)
  case atStart => exact ⟨0, true, rfl, rfl, Nat.zero_le _, by omega, Lib.hid rfl, KF, KS, Lib.hid (PB.nil _ _ _ _), hbV⟩
  case round =>
    clear KF KS hbV
    obtain ⟨k, g, rfl, rfl, hk, hg, HG, KF, KS, HB, hb⟩ := hrel
    by_cases hlt : k < n
    · have hnn : nx n k < n := nx_lt hlt
      obtain ⟨a, rfl, p0, p1⟩ := HO.out.at hb hlt
      obtain ⟨px, hpx⟩ : ∃ x, X k = x := ⟨_, rfl⟩
      obtain ⟨py, hpy⟩ : ∃ x, Y k = x := ⟨_, rfl⟩
      obtain ⟨r2, hr2⟩ : ∃ r, rp px py = r := ⟨_, rfl⟩
      rw [hpx] at p0
      rw [hpy] at p1
      have HX := Lib.hid (And.intro hpx hpy)
      have HR2 := Lib.hid hr2
      clear hpx hpy hr2
      obtain ⟨g', HG', hcas⟩ : ∃ g', Hid (allK X Y (k + 1) = g') ∧ ((g = false ∧ g' = false) ∨ (g = true ∧ g' = r2)) := by
        refine ⟨allK X Y (k + 1), Lib.hid rfl, ?_⟩
        show (g = false ∧ (allK X Y k && rp (X k) (Y k)) = false) ∨ (g = true ∧ (allK X Y k && rp (X k) (Y k)) = r2)
        rw [HG.out, HX.out.1, HX.out.2, HR2.out]
        cases g <;> simp
      clear HG
      obtain ⟨r1, hr1⟩ : ∃ r, rp fx fy = r := ⟨_, rfl⟩
      obtain ⟨m, hm⟩ : ∃ m, nx n k = m := ⟨_, rfl⟩
      rw [hm] at hnn
      obtain ⟨b', ea, q0, q1⟩ := HO.out.at hb hnn
      obtain rfl : a = b' := by injection ea
      obtain ⟨qx, hqx⟩ : ∃ x, X m = x := ⟨_, rfl⟩
      obtain ⟨qy, hqy⟩ : ∃ x, Y m = x := ⟨_, rfl⟩
      obtain ⟨r3, hr3⟩ : ∃ r, rp qx qy = r := ⟨_, rfl⟩
      rw [hqx] at q0
      rw [hqy] at q1
      have hmod : Int.tmod ((k : Int) + 1) (n : Int) = (m : Int) := by
        rw [Int.tmod_eq_emod_of_nonneg (by omega), ← hm]; unfold nx; norm_cast
      have hn0 : ¬ n = 0 := by omega
      have HT : Hid (seT n fx fy X Y k = bif r1 && r2 && r3 then trn fx fy px py qx qy else 0) := by
        refine Lib.hid ?_
        unfold seT; rw [hm, HX.out.1, HX.out.2, hqx, hqy, hr1, HR2.out, hr3]
      have HR1 := Lib.hid hr1
      have HR3 := Lib.hid hr3
      have HQ := Lib.hid (And.intro hqx hqy)
      clear hr1 hr3 hm hqx hqy ea q0 q1
      rcases hcas with ⟨rfl, rfl⟩ | ⟨rfl, rfl⟩
      · go_wp2_with (at_builtin; refine wpList_append_bk rfl _ _ rfl fb (.slice (some ⟨wr.heap.size + 1, 0, none⟩) 1 1) _ k X Y px py rfl rfl (pt_made _ _ px py _ ?c0 ?c1) nofun (own_below HB.out ?c2) HX.out.1 HX.out.2 ?c3 ?c4 (wr.heap.size + 1) ?c5 ?c6 ?_)
        case c0 => simp
        case c1 => have := hb.size; omega
        case c2 => exact below_a2 _ _ _
        case c3 => omega
        case c4 => have := hb.size; simp; omega
        case c5 => simp
        case c6 => intro j hj; cases hj; exact Nat.le_refl _
        intro v1 W4 hB4 hn4
        have kp4 : PVar W4 wr.heap.size px py := ((Blk.new wr _ _).alloc _).below hn4 (by omega)
        have hbq : Below wr.heap.size wr W4 := (below_a2 wr _ _).trans (hn4.mono (by omega))
        have KP4 := Lib.hid kp4
        have KF4 := Lib.hid (KF.out.of hbq)
        have KS4 := Lib.hid (KS.out.of hbq)
        have hb4 := hb.trans (hbq.mono hb.size)
        have cp := PVar.c kp4
        have cf := PVar.c KF4.out
        have HB4 := Lib.hid hB4
        clear KF KS HB hB4 hn4 kp4 hbq hb p0 p1
        cases r1
        · go_wp2_with fail
          refine (pRt_is fx fy false HR1.out _).mono ?_
          rintro e W5 ⟨rfl, hn⟩
          have KF5 := Lib.hid (KF4.out.of hn)
          have KS5 := Lib.hid (KS4.out.of hn)
          have HB5 := Lib.hid (own_below HB4.out hn)
          have KP5 := Lib.hid (KP4.out.of hn)
          have hb5 := hb4.trans (hn.mono hb4.size)
          clear hn KF4 KS4 HB4 KP4 hb4 cp cf
          have cp := PVar.c KP5.out
          have cf := PVar.c KF5.out
          go_wp2_with fail
          go_roundg (n - (k + 1))
          case measure => omega
          case rel =>
            refine ⟨k + 1, false, by norm_cast, rfl, by omega, Nat.le_refl _, HG', KF5, ?_, HB5, hb5⟩
            have e : seS n fx fy X Y (k + 1) = seS n fx fy X Y k := by
              show seS n fx fy X Y k + seT n fx fy X Y k = _
              rw [HT.out]; simp
            rw [e]; exact KS5
        · go_wp2_with fail
          refine (pRt_is fx fy true HR1.out _).mono ?_
          rintro e W5 ⟨rfl, hn⟩
          have KF5 := Lib.hid (KF4.out.of hn)
          have KS5 := Lib.hid (KS4.out.of hn)
          have HB5 := Lib.hid (own_below HB4.out hn)
          have KP5 := Lib.hid (KP4.out.of hn)
          have hb5 := hb4.trans (hn.mono hb4.size)
          clear hn KF4 KS4 HB4 KP4 hb4 cp cf
          have cp := PVar.c KP5.out
          have cf := PVar.c KF5.out
          cases r2
          · go_wp2_with fail
            refine (pRt_is px py false HR2.out _).mono ?_
            rintro e W6 ⟨rfl, hn⟩
            have KF6 := Lib.hid (KF5.out.of hn)
            have KS6 := Lib.hid (KS5.out.of hn)
            have HB6 := Lib.hid (own_below HB5.out hn)
            have KP6 := Lib.hid (KP5.out.of hn)
            have hb6 := hb5.trans (hn.mono hb5.size)
            clear hn KF5 KS5 HB5 KP5 hb5 cp cf
            have cp := PVar.c KP6.out
            have cf := PVar.c KF6.out
            go_wp2_with fail
            go_roundg (n - (k + 1))
            case measure => omega
            case rel =>
              refine ⟨k + 1, false, by norm_cast, rfl, by omega, Nat.le_refl _, HG', KF6, ?_, HB6, hb6⟩
              have e : seS n fx fy X Y (k + 1) = seS n fx fy X Y k := by
                show seS n fx fy X Y k + seT n fx fy X Y k = _
                rw [HT.out]; simp
              rw [e]; exact KS6
          · go_wp2_with fail
            refine (pRt_is px py true HR2.out _).mono ?_
            rintro e W6 ⟨rfl, hn⟩
            have KF6 := Lib.hid (KF5.out.of hn)
            have KS6 := Lib.hid (KS5.out.of hn)
            have HB6 := Lib.hid (own_below HB5.out hn)
            have KP6 := Lib.hid (KP5.out.of hn)
            have hb6 := hb5.trans (hn.mono hb5.size)
            clear hn KF5 KS5 HB5 KP5 hb5 cp cf
            have cp := PVar.c KP6.out
            have cf := PVar.c KF6.out
            have qq := HO.out.atS hb6 hnn
            rw [HQ.out.1, HQ.out.2] at qq
            obtain ⟨q0, q1⟩ := qq
            cases r3
            · go_wp2_with fail
              refine (pRt_is qx qy false HR3.out _).mono ?_
              rintro e W7 ⟨rfl, hn⟩
              have KF7 := Lib.hid (KF6.out.of hn)
              have KS7 := Lib.hid (KS6.out.of hn)
              have HB7 := Lib.hid (own_below HB6.out hn)
              have KP7 := Lib.hid (KP6.out.of hn)
              have hb7 := hb6.trans (hn.mono hb6.size)
              clear hn KF6 KS6 HB6 KP6 hb6 cp cf
              have cp := PVar.c KP7.out
              have cf := PVar.c KF7.out
              clear q0 q1
              go_wp2_with fail
              go_roundg (n - (k + 1))
              case measure => omega
              case rel =>
                refine ⟨k + 1, false, by norm_cast, rfl, by omega, Nat.le_refl _, HG', KF7, ?_, HB7, hb7⟩
                have e : seS n fx fy X Y (k + 1) = seS n fx fy X Y k := by
                  show seS n fx fy X Y k + seT n fx fy X Y k = _
                  rw [HT.out]; simp
                rw [e]; exact KS7
            · go_wp2_with fail
              refine (pRt_is qx qy true HR3.out _).mono ?_
              rintro e W7 ⟨rfl, hn⟩
              have KF7 := Lib.hid (KF6.out.of hn)
              have KS7 := Lib.hid (KS6.out.of hn)
              have HB7 := Lib.hid (own_below HB6.out hn)
              have KP7 := Lib.hid (KP6.out.of hn)
              have hb7 := hb6.trans (hn.mono hb6.size)
              clear hn KF6 KS6 HB6 KP6 hb6 cp cf
              have cp := PVar.c KP7.out
              have cf := PVar.c KF7.out
              clear q0 q1
              have qq := HO.out.atS hb7 hnn
              rw [HQ.out.1, HQ.out.2] at qq
              obtain ⟨q0, q1⟩ := qq
              clear cp cf
              obtain ⟨neg, al, ll, cc, hS1, hS2⟩ := KS7.out
              have cf := PVar.c KF7.out
              have cp := PVar.c KP7.out
              have cs0 : W7.cell? ⟨fb + 1, 0, none⟩ = some (.bool neg) := hS1.cell 0
              have cs1 : W7.cell? ⟨fb + 1, 1, none⟩ = some (.slice al ll cc) := hS1.cell 1
              have HZ := Lib.hid hS2
              have HS1 := Lib.hid hS1
              have lf := KF7.out.lt
              have lp := KP7.out.lt
              have ls := hS1.lt
              have A1 := rp_co HR1.out
              have A2 := rp_co (show rp px py = true from HR2.out)
              have A3 := rp_co HR3.out
              obtain ⟨t, ht⟩ : ∃ t, trn fx fy px py qx qy = t := ⟨_, rfl⟩
              have HTT := Lib.hid ht
              have q0u : ∀ u : UpTo W7.heap.size W7, u.w.cell? (a.add (m * 2)) = some (.int .i64 qx) := fun u => (u.below.cell (World.block_lt_of_cell? _ _ q0)).trans q0
              have q1u : ∀ u : UpTo W7.heap.size W7, u.w.cell? { block := (a.add (m * 2)).block, off := (a.add (m * 2)).off + 1 } = some (.int .i64 qy) := fun u => (u.below.cell (World.block_lt_of_cell? _ _ q1)).trans q1
              clear hS1 hS2 ht q0 q1
              go_wp2_with fail
              refine wp_region_up W7.heap.size 15 [(true, 0), (true, 1), (true, 3), (true, 5), (true, 6), (true, 7), (true, 8), (true, 9), (true, 10), (true, 11), (true, 12), (false, 2), (false, 4), (false, 13), (false, 14)] (by kernel_rfl) (by kernel_rfl) (fun _ _ d _ _ h => by cases d <;> exact h) ?_
              have hb : Below W7.heap.size W7 W7.drew := (Below.refl _ _).drew
              iterate 11
                first | refine wpS_takeL rfl rfl ?_ | refine wpS_takeB rfl rfl rfl ?_
                first | go_big_quiet_step (rfl) | (go_big_quiet_want; go_big_quiet_op; refine ⟨_, fun _ => rfl, ?_⟩; go_big_quiet_on)
                refine wpQuiet_nil ?_
              refine wpS_doL rfl ?_
              intro K hK
              go_wp2_with ((first | (go_at_call 10; (with_reducible refine (pref_any fx fy _).mono ?_); rintro e w2 ⟨rfl, hn⟩) | (go_at_call 10; (with_reducible refine (pref_any px py _).mono ?_); rintro e w2 ⟨rfl, hn⟩) | (go_at_call 10; (with_reducible refine (pref_any qx qy _).mono ?_); rintro e w2 ⟨rfl, hn⟩)))
              replace hb := hb.trans (hn.mono hb.size)
              refine hK.out _ _ (up_iff.2 hb) ?_
              clear hK K
              clear hn
              try replace HB9 := Lib.hid (HB9.out.of hn)
              refine wpS_doL rfl ?_
              intro K hK
              go_wp2_with ((first | (go_at_call 10; (with_reducible refine (pref_any fx fy _).mono ?_); rintro e w2 ⟨rfl, hn⟩) | (go_at_call 10; (with_reducible refine (pref_any px py _).mono ?_); rintro e w2 ⟨rfl, hn⟩) | (go_at_call 10; (with_reducible refine (pref_any qx qy _).mono ?_); rintro e w2 ⟨rfl, hn⟩)))
              replace hb := hb.trans (hn.mono hb.size)
              refine hK.out _ _ (up_iff.2 hb) ?_
              clear hK K
              clear hn
              try replace HB9 := Lib.hid (HB9.out.of hn)
              refine wpS_doL rfl ?_
              intro K hK
              go_wp2_with ((first | (go_at_call 10; (with_reducible refine (pref_any fx fy _).mono ?_); rintro e w2 ⟨rfl, hn⟩) | (go_at_call 10; (with_reducible refine (pref_any px py _).mono ?_); rintro e w2 ⟨rfl, hn⟩) | (go_at_call 10; (with_reducible refine (pref_any qx qy _).mono ?_); rintro e w2 ⟨rfl, hn⟩)))
              replace hb := hb.trans (hn.mono hb.size)
              refine hK.out _ _ (up_iff.2 hb) ?_
              clear hK K
              clear hn
              try replace HB9 := Lib.hid (HB9.out.of hn)
              refine wpS_doL rfl ?_
              intro K hK
              go_wp2_with ((go_at_call 9; (with_reducible refine (rTurn_v fx fy px py qx qy t HTT.out A1.1 A1.2 A2.1 A2.2 A3.1 A3.2 _).mono ?_); rintro e w2 ⟨v_, rfl, hbm, hn⟩; have HB9 := Lib.hid hbm; have hvm := hbm.shape; clear hbm; obtain ⟨bn1, ba1, bl1, bc1, rfl⟩ := hvm))
              replace hb := hb.trans (hn.mono hb.size)
              refine hK.out _ _ (up_iff.2 hb) ?_
              clear hK K
              clear hn
              try replace HB9 := Lib.hid (HB9.out.of hn)
              refine wpS_nil ?_
              simp only [List.drop_succ_cons, List.drop_zero]
              go_wp2_with fail
              refine (bigAdd_any _ _ (seS n fx fy X Y k) t 12 _ (HZ.out.of hb) HB9.out (by decide)).mono ?_
              rintro e W9 ⟨v9, rfl, hv9, hn9⟩
              obtain ⟨nn, na, nl, nc, rfl⟩ := hv9.shape
              have hbw := hb.trans (hn9.mono hb.size)
              have KF9 := Lib.hid (KF7.out.of hbw)
              have HB9' := Lib.hid (own_below HB7.out hbw)
              have hb9 := hb7.trans (hbw.mono hb7.size)
              have hS9 := HS1.out.of hbw
              have e1 : seS n fx fy X Y (k + 1) = seS n fx fy X Y k + t := by
                show seS n fx fy X Y k + seT n fx fy X Y k = _
                rw [HT.out]; simp only [Bool.and_self, cond_true]; rw [HTT.out]
              have Hv : Hid (Big W9 (.agg #[.bool nn, .slice na nl nc]) (seS n fx fy X Y (k + 1)) 12) := by
                refine Lib.hid ?_
                have hk60 : ((k + 1 : Nat) : Int) ≤ 60 := by omega
                have bd := sumN_bd (f := seT n fx fy X Y) (k + 1) fun i _ => seT_bd n fx fy X Y i
                have bd' : -(77371252455336267181195264 * ((k + 1 : Nat) : Int)) ≤ seS n fx fy X Y (k + 1) ∧ seS n fx fy X Y (k + 1) ≤ 77371252455336267181195264 * ((k + 1 : Nat) : Int) := bd
                have p12 : P15 12 = 1532495540865888858358347027150309183618739122183602176 := by decide
                rw [← e1] at hv9
                refine hv9.fit ?_
                rw [p12]; omega
              have HS9 := Lib.hid hS9
              have c0 := hS9.cell 0
              have c1 := hS9.cell 1
              have f0 := hS9.free 0
              have f1 := hS9.free 1
              have ls9 := hS9.lt
              clear hb hbw hv9 hn9 hb7 KF7 HB7 HZ HS1 HB9 KP7 cs0 cs1 cf cp q0u q1u lf lp ls hS9 e1 hmod hn0 A1 A2 A3
              go_wp2_with fail
              go_roundg (n - (k + 1))
              case measure => omega
              case rel =>
                refine ⟨k + 1, false, by norm_cast, rfl, by omega, Nat.le_refl _, HG', Lib.hid (KF9.out.sett (by omega) _ _), Lib.hid ⟨nn, na, nl, nc, HS9.out.put2 _ _, Hv.out.set2 (HS9.out.cell 0) _ _⟩, Lib.hid (PB.set2 HB9'.out HS9.out (by decide) _ _), (hb9.setCell (by show _ ≤ fb + 1; omega) _).setCell (by show _ ≤ fb + 1; omega) _⟩

      · go_wp2_with fail
        refine calls_w ?_
        intro V2 hV2
        have kp : PVar V2 wr.heap.size px py := by rw [hV2]; exact (Blk.new wr _ _)
        have hbq : Below wr.heap.size wr V2 := by rw [hV2]; exact below_a1 wr _
        clear hV2 p0 p1
        have KP2 := Lib.hid kp
        have KF2 := Lib.hid (KF.out.of hbq)
        have KS2 := Lib.hid (KS.out.of hbq)
        have HB2 := Lib.hid (own_below HB.out hbq)
        have hb2 := hb.trans (hbq.mono hb.size)
        have cp := PVar.c kp
        have cf := PVar.c KF2.out
        clear KF KS HB hb hbq kp
        refine (pRt_is px py g' HR2.out _).mono ?_
        rintro e W3 ⟨rfl, hn⟩
        have KF3 := Lib.hid (KF2.out.of hn)
        have KS3 := Lib.hid (KS2.out.of hn)
        have HB3 := Lib.hid (own_below HB2.out hn)
        have KP3 := Lib.hid (KP2.out.of hn)
        have hb3 := hb2.trans (hn.mono hb2.size)
        clear hn KF2 KS2 HB2 KP2 hb2 cp cf
        have cp := PVar.c KP3.out
        have cf := PVar.c KF3.out
        go_wp2_with (at_builtin; refine wpList_append_bk rfl _ _ rfl fb (.slice (some ⟨W3.heap.size, 0, none⟩) 1 1) _ k X Y px py rfl rfl (pt_made _ _ px py _ ?c0 ?c1) nofun (own_below HB3.out ?c2) HX.out.1 HX.out.2 ?c3 ?c4 (W3.heap.size) ?c5 ?c6 ?_)
        case c0 => simp
        case c1 => have := hb3.size; omega
        case c2 => exact below_a1 _ _
        case c3 => omega
        case c4 => have := hb3.size; simp; omega
        case c5 => simp
        case c6 => intro j hj; cases hj; exact Nat.le_refl _
        intro v1 W4 hB4 hn4
        have hbq : Below W3.heap.size W3 W4 := (below_a1 W3 _).trans (hn4.mono (by omega))
        have KP4 := Lib.hid (KP3.out.of hbq)
        have KF4 := Lib.hid (KF3.out.of hbq)
        have KS4 := Lib.hid (KS3.out.of hbq)
        have hb4 := hb3.trans (hbq.mono hb3.size)
        have HB4 := Lib.hid hB4
        clear cp cf KF3 KS3 KP3 HB3 hB4 hn4 hbq hb3
        have cp := PVar.c KP4.out
        have cf := PVar.c KF4.out
        cases r1
        · go_wp2_with fail
          refine (pRt_is fx fy false HR1.out _).mono ?_
          rintro e W5 ⟨rfl, hn⟩
          have KF5 := Lib.hid (KF4.out.of hn)
          have KS5 := Lib.hid (KS4.out.of hn)
          have HB5 := Lib.hid (own_below HB4.out hn)
          have KP5 := Lib.hid (KP4.out.of hn)
          have hb5 := hb4.trans (hn.mono hb4.size)
          clear hn KF4 KS4 HB4 KP4 hb4 cp cf
          have cp := PVar.c KP5.out
          have cf := PVar.c KF5.out
          go_wp2_with fail
          go_roundg (n - (k + 1))
          case measure => omega
          case rel =>
            refine ⟨k + 1, g', by norm_cast, rfl, by omega, Nat.le_refl _, HG', KF5, ?_, HB5, hb5⟩
            have e : seS n fx fy X Y (k + 1) = seS n fx fy X Y k := by
              show seS n fx fy X Y k + seT n fx fy X Y k = _
              rw [HT.out]; simp
            rw [e]; exact KS5
        · go_wp2_with fail
          refine (pRt_is fx fy true HR1.out _).mono ?_
          rintro e W5 ⟨rfl, hn⟩
          have KF5 := Lib.hid (KF4.out.of hn)
          have KS5 := Lib.hid (KS4.out.of hn)
          have HB5 := Lib.hid (own_below HB4.out hn)
          have KP5 := Lib.hid (KP4.out.of hn)
          have hb5 := hb4.trans (hn.mono hb4.size)
          clear hn KF4 KS4 HB4 KP4 hb4 cp cf
          have cp := PVar.c KP5.out
          have cf := PVar.c KF5.out
          cases g'
          · go_wp2_with fail
            refine (pRt_is px py false HR2.out _).mono ?_
            rintro e W6 ⟨rfl, hn⟩
            have KF6 := Lib.hid (KF5.out.of hn)
            have KS6 := Lib.hid (KS5.out.of hn)
            have HB6 := Lib.hid (own_below HB5.out hn)
            have KP6 := Lib.hid (KP5.out.of hn)
            have hb6 := hb5.trans (hn.mono hb5.size)
            clear hn KF5 KS5 HB5 KP5 hb5 cp cf
            have cp := PVar.c KP6.out
            have cf := PVar.c KF6.out
            go_wp2_with fail
            go_roundg (n - (k + 1))
            case measure => omega
            case rel =>
              refine ⟨k + 1, false, by norm_cast, rfl, by omega, Nat.le_refl _, HG', KF6, ?_, HB6, hb6⟩
              have e : seS n fx fy X Y (k + 1) = seS n fx fy X Y k := by
                show seS n fx fy X Y k + seT n fx fy X Y k = _
                rw [HT.out]; simp
              rw [e]; exact KS6
          · go_wp2_with fail
            refine (pRt_is px py true HR2.out _).mono ?_
            rintro e W6 ⟨rfl, hn⟩
            have KF6 := Lib.hid (KF5.out.of hn)
            have KS6 := Lib.hid (KS5.out.of hn)
            have HB6 := Lib.hid (own_below HB5.out hn)
            have KP6 := Lib.hid (KP5.out.of hn)
            have hb6 := hb5.trans (hn.mono hb5.size)
            clear hn KF5 KS5 HB5 KP5 hb5 cp cf
            have cp := PVar.c KP6.out
            have cf := PVar.c KF6.out
            have qq := HO.out.atS hb6 hnn
            rw [HQ.out.1, HQ.out.2] at qq
            obtain ⟨q0, q1⟩ := qq
            cases r3
            · go_wp2_with fail
              refine (pRt_is qx qy false HR3.out _).mono ?_
              rintro e W7 ⟨rfl, hn⟩
              have KF7 := Lib.hid (KF6.out.of hn)
              have KS7 := Lib.hid (KS6.out.of hn)
              have HB7 := Lib.hid (own_below HB6.out hn)
              have KP7 := Lib.hid (KP6.out.of hn)
              have hb7 := hb6.trans (hn.mono hb6.size)
              clear hn KF6 KS6 HB6 KP6 hb6 cp cf
              have cp := PVar.c KP7.out
              have cf := PVar.c KF7.out
              clear q0 q1
              go_wp2_with fail
              go_roundg (n - (k + 1))
              case measure => omega
              case rel =>
                refine ⟨k + 1, true, by norm_cast, rfl, by omega, Nat.le_refl _, HG', KF7, ?_, HB7, hb7⟩
                have e : seS n fx fy X Y (k + 1) = seS n fx fy X Y k := by
                  show seS n fx fy X Y k + seT n fx fy X Y k = _
                  rw [HT.out]; simp
                rw [e]; exact KS7
            · go_wp2_with fail
              refine (pRt_is qx qy true HR3.out _).mono ?_
              rintro e W7 ⟨rfl, hn⟩
              have KF7 := Lib.hid (KF6.out.of hn)
              have KS7 := Lib.hid (KS6.out.of hn)
              have HB7 := Lib.hid (own_below HB6.out hn)
              have KP7 := Lib.hid (KP6.out.of hn)
              have hb7 := hb6.trans (hn.mono hb6.size)
              clear hn KF6 KS6 HB6 KP6 hb6 cp cf
              have cp := PVar.c KP7.out
              have cf := PVar.c KF7.out
              clear q0 q1
              have qq := HO.out.atS hb7 hnn
              rw [HQ.out.1, HQ.out.2] at qq
              obtain ⟨q0, q1⟩ := qq
              clear cp cf
              obtain ⟨neg, al, ll, cc, hS1, hS2⟩ := KS7.out
              have cf := PVar.c KF7.out
              have cp := PVar.c KP7.out
              have cs0 : W7.cell? ⟨fb + 1, 0, none⟩ = some (.bool neg) := hS1.cell 0
              have cs1 : W7.cell? ⟨fb + 1, 1, none⟩ = some (.slice al ll cc) := hS1.cell 1
              have HZ := Lib.hid hS2
              have HS1 := Lib.hid hS1
              have lf := KF7.out.lt
              have lp := KP7.out.lt
              have ls := hS1.lt
              have A1 := rp_co HR1.out
              have A2 := rp_co (show rp px py = true from HR2.out)
              have A3 := rp_co HR3.out
              obtain ⟨t, ht⟩ : ∃ t, trn fx fy px py qx qy = t := ⟨_, rfl⟩
              have HTT := Lib.hid ht
              have q0u : ∀ u : UpTo W7.heap.size W7, u.w.cell? (a.add (m * 2)) = some (.int .i64 qx) := fun u => (u.below.cell (World.block_lt_of_cell? _ _ q0)).trans q0
              have q1u : ∀ u : UpTo W7.heap.size W7, u.w.cell? { block := (a.add (m * 2)).block, off := (a.add (m * 2)).off + 1 } = some (.int .i64 qy) := fun u => (u.below.cell (World.block_lt_of_cell? _ _ q1)).trans q1
              clear hS1 hS2 ht q0 q1
              go_wp2_with fail
              refine wp_region_up W7.heap.size 15 [(true, 0), (true, 1), (true, 3), (true, 5), (true, 6), (true, 7), (true, 8), (true, 9), (true, 10), (true, 11), (true, 12), (false, 2), (false, 4), (false, 13), (false, 14)] (by kernel_rfl) (by kernel_rfl) (fun _ _ d _ _ h => by cases d <;> exact h) ?_
              have hb : Below W7.heap.size W7 W7.drew := (Below.refl _ _).drew
              iterate 11
                first | refine wpS_takeL rfl rfl ?_ | refine wpS_takeB rfl rfl rfl ?_
                first | go_big_quiet_step (rfl) | (go_big_quiet_want; go_big_quiet_op; refine ⟨_, fun _ => rfl, ?_⟩; go_big_quiet_on)
                refine wpQuiet_nil ?_
              refine wpS_doL rfl ?_
              intro K hK
              go_wp2_with ((first | (go_at_call 10; (with_reducible refine (pref_any fx fy _).mono ?_); rintro e w2 ⟨rfl, hn⟩) | (go_at_call 10; (with_reducible refine (pref_any px py _).mono ?_); rintro e w2 ⟨rfl, hn⟩) | (go_at_call 10; (with_reducible refine (pref_any qx qy _).mono ?_); rintro e w2 ⟨rfl, hn⟩)))
              replace hb := hb.trans (hn.mono hb.size)
              refine hK.out _ _ (up_iff.2 hb) ?_
              clear hK K
              clear hn
              try replace HB9 := Lib.hid (HB9.out.of hn)
              refine wpS_doL rfl ?_
              intro K hK
              go_wp2_with ((first | (go_at_call 10; (with_reducible refine (pref_any fx fy _).mono ?_); rintro e w2 ⟨rfl, hn⟩) | (go_at_call 10; (with_reducible refine (pref_any px py _).mono ?_); rintro e w2 ⟨rfl, hn⟩) | (go_at_call 10; (with_reducible refine (pref_any qx qy _).mono ?_); rintro e w2 ⟨rfl, hn⟩)))
              replace hb := hb.trans (hn.mono hb.size)
              refine hK.out _ _ (up_iff.2 hb) ?_
              clear hK K
              clear hn
              try replace HB9 := Lib.hid (HB9.out.of hn)
              refine wpS_doL rfl ?_
              intro K hK
              go_wp2_with ((first | (go_at_call 10; (with_reducible refine (pref_any fx fy _).mono ?_); rintro e w2 ⟨rfl, hn⟩) | (go_at_call 10; (with_reducible refine (pref_any px py _).mono ?_); rintro e w2 ⟨rfl, hn⟩) | (go_at_call 10; (with_reducible refine (pref_any qx qy _).mono ?_); rintro e w2 ⟨rfl, hn⟩)))
              replace hb := hb.trans (hn.mono hb.size)
              refine hK.out _ _ (up_iff.2 hb) ?_
              clear hK K
              clear hn
              try replace HB9 := Lib.hid (HB9.out.of hn)
              refine wpS_doL rfl ?_
              intro K hK
              go_wp2_with ((go_at_call 9; (with_reducible refine (rTurn_v fx fy px py qx qy t HTT.out A1.1 A1.2 A2.1 A2.2 A3.1 A3.2 _).mono ?_); rintro e w2 ⟨v_, rfl, hbm, hn⟩; have HB9 := Lib.hid hbm; have hvm := hbm.shape; clear hbm; obtain ⟨bn1, ba1, bl1, bc1, rfl⟩ := hvm))
              replace hb := hb.trans (hn.mono hb.size)
              refine hK.out _ _ (up_iff.2 hb) ?_
              clear hK K
              clear hn
              try replace HB9 := Lib.hid (HB9.out.of hn)
              refine wpS_nil ?_
              simp only [List.drop_succ_cons, List.drop_zero]
              go_wp2_with fail
              refine (bigAdd_any _ _ (seS n fx fy X Y k) t 12 _ (HZ.out.of hb) HB9.out (by decide)).mono ?_
              rintro e W9 ⟨v9, rfl, hv9, hn9⟩
              obtain ⟨nn, na, nl, nc, rfl⟩ := hv9.shape
              have hbw := hb.trans (hn9.mono hb.size)
              have KF9 := Lib.hid (KF7.out.of hbw)
              have HB9' := Lib.hid (own_below HB7.out hbw)
              have hb9 := hb7.trans (hbw.mono hb7.size)
              have hS9 := HS1.out.of hbw
              have e1 : seS n fx fy X Y (k + 1) = seS n fx fy X Y k + t := by
                show seS n fx fy X Y k + seT n fx fy X Y k = _
                rw [HT.out]; simp only [Bool.and_self, cond_true]; rw [HTT.out]
              have Hv : Hid (Big W9 (.agg #[.bool nn, .slice na nl nc]) (seS n fx fy X Y (k + 1)) 12) := by
                refine Lib.hid ?_
                have hk60 : ((k + 1 : Nat) : Int) ≤ 60 := by omega
                have bd := sumN_bd (f := seT n fx fy X Y) (k + 1) fun i _ => seT_bd n fx fy X Y i
                have bd' : -(77371252455336267181195264 * ((k + 1 : Nat) : Int)) ≤ seS n fx fy X Y (k + 1) ∧ seS n fx fy X Y (k + 1) ≤ 77371252455336267181195264 * ((k + 1 : Nat) : Int) := bd
                have p12 : P15 12 = 1532495540865888858358347027150309183618739122183602176 := by decide
                rw [← e1] at hv9
                refine hv9.fit ?_
                rw [p12]; omega
              have HS9 := Lib.hid hS9
              have c0 := hS9.cell 0
              have c1 := hS9.cell 1
              have f0 := hS9.free 0
              have f1 := hS9.free 1
              have ls9 := hS9.lt
              clear hb hbw hv9 hn9 hb7 KF7 HB7 HZ HS1 HB9 KP7 cs0 cs1 cf cp q0u q1u lf lp ls hS9 e1 hmod hn0 A1 A2 A3
              go_wp2_with fail
              go_roundg (n - (k + 1))
              case measure => omega
              case rel =>
                refine ⟨k + 1, true, by norm_cast, rfl, by omega, Nat.le_refl _, HG', Lib.hid (KF9.out.sett (by omega) _ _), Lib.hid ⟨nn, na, nl, nc, HS9.out.put2 _ _, Hv.out.set2 (HS9.out.cell 0) _ _⟩, Lib.hid (PB.set2 HB9'.out HS9.out (by decide) _ _), (hb9.setCell (by show _ ≤ fb + 1; omega) _).setCell (by show _ ≤ fb + 1; omega) _⟩

    · have hkn : k = n := by omega
      subst hkn
      obtain ⟨ao', cap', rfl, hPB, _⟩ := PB.pts HB.out
      have HPB := Lib.hid hPB
      have HOW := Lib.hid (HO.out.of hb)
      have hgc : allC k X Y = g := by rw [← allK_allC]; exact HG.out
      have hgb : allC k (fun j => X (k - 1 - j)) (fun j => Y (k - 1 - j)) = g := by rw [allC_rev]; exact hgc
      clear hlt hk hg HB hPB HG
      have hk60 : k ≤ 60 := by omega
      cases g
      · go_wp2_with fail
        refine (Area_no ao k cap X Y wr HOW.out hk60 hgc).mono ?_
        rintro e W2 ⟨rfl, hn⟩
        have HPB2 := Lib.hid (HPB.out.of hn)
        have hb2 := hb.trans (hn.mono hb.size)
        clear hn HPB HOW hb KF KS hgc
        go_wp2_with fail
        refine calls_w ?_
        intro V2 hV2
        have ka : Var V2 W2.heap.size 0 := by rw [hV2]; exact Blk.new _ _ _
        have hbv : Below W2.heap.size W2 V2 := by rw [hV2]; exact below_a1 _ _
        clear hV2
        have KA := Lib.hid ka
        have HPB3 := Lib.hid (HPB2.out.of hbv)
        have hb3 := hb2.trans (hbv.mono hb2.size)
        clear ka hbv HPB2 hb2
        refine (Area_no ao' k cap' _ _ V2 HPB3.out hk60 hgb).mono ?_
        rintro e W4 ⟨rfl, hn⟩
        have hb4 := hb3.trans (hn.mono hb3.size)
        have KA4 := Lib.hid (KA.out.of hn)
        have c4 := Var.c KA4.out
        have l4 := KA4.out.lt
        clear hn HPB3 hb3 KA hgb
        go_wp2_with fail
        refine calls_w ?_
        intro V5 hV5
        have hb5 : Below w.heap.size w V5 := by rw [hV5]; exact hb4.alloc hb4.size _
        clear hV5 hb4
        refine (Sign_is 0 0 rfl V5 (by decide)).mono ?_
        rintro e W6 ⟨rfl, hn⟩
        have hb6 := hb5.trans (hn.mono hb5.size)
        clear hn hb5
        go_wp2_with fail
        refine (pawake_any W6).mono ?_
        rintro e W7 ⟨rfl, hn⟩
        have hb7 := hb6.trans (hn.mono hb6.size)
        clear hn hb6
        go_wp2
        go_ret
        exact ⟨rfl, hb7⟩
      · obtain ⟨ar, har⟩ : ∃ r, area k X Y = r := ⟨_, rfl⟩
        have hbk : area k (fun j => X (k - 1 - j)) (fun j => Y (k - 1 - j)) = -ar := by rw [area_back, har]
        have hab : -580284393415022003858964480 ≤ ar ∧ ar ≤ 580284393415022003858964480 := by
          have bd := sumN_bd (f := fun i => crx X Y i (nx k i)) (B := 9671406556917033397649408) k fun i hi => by
            have q1 := allC_co hgc (show i < k by omega)
            have q2 := allC_co hgc (nx_lt (show i < k by omega))
            exact crx_bd q1.1 q2.2 q2.1 q1.2
          have e : area k X Y = sumN (fun i => crx X Y i (nx k i)) k := rfl
          rw [← e, har] at bd
          omega
        have hse : rp fx fy = true → seS k fx fy X Y k = ar := by
          intro hr; rw [← har, ← trS_all fx fy X Y k]
          refine sumN_congr k fun i hi => ?_
          have q1 := allC_rp hgc (show i < k by omega)
          have q2 := allC_rp hgc (nx_lt (show i < k by omega))
          unfold seT; rw [hr, q1, q2]; rfl
        have HSE := Lib.hid hse
        have HBK := Lib.hid hbk
        clear hse hbk
        go_wp2_with fail
        refine (Area_ok ao k cap X Y wr HOW.out hk60 hgc).mono ?_
        rintro e W2 ⟨rfl, hn⟩
        rw [har]
        have HPB2 := Lib.hid (HPB.out.of hn)
        have KF2 := Lib.hid (KF.out.of hn)
        have KS2 := Lib.hid (KS.out.of hn)
        have hb2 := hb.trans (hn.mono hb.size)
        clear hn HPB HOW hb KF KS hgc har
        go_wp2_with fail
        refine calls_w ?_
        intro V2 hV2
        have ka : Var V2 W2.heap.size ar := by rw [hV2]; exact Blk.new _ _ _
        have hbv : Below W2.heap.size W2 V2 := by rw [hV2]; exact below_a1 _ _
        clear hV2
        have KA := Lib.hid ka
        have HPB3 := Lib.hid (HPB2.out.of hbv)
        have KF3 := Lib.hid (KF2.out.of hbv)
        have KS3 := Lib.hid (KS2.out.of hbv)
        have hb3 := hb2.trans (hbv.mono hb2.size)
        clear ka hbv HPB2 hb2 KF2 KS2
        refine (Area_ok ao' k cap' _ _ V2 HPB3.out hk60 hgb).mono ?_
        rintro e W4 ⟨rfl, hn⟩
        rw [HBK.out]
        have hb4 := hb3.trans (hn.mono hb3.size)
        have KA4 := Lib.hid (KA.out.of hn)
        have KF4 := Lib.hid (KF3.out.of hn)
        have KS4 := Lib.hid (KS3.out.of hn)
        have c4 := Var.c KA4.out
        have l4 := KA4.out.lt
        clear hn HPB3 hb3 KA hgb KF3 KS3 HBK
        go_wp2_with fail
        refine name_world ?_
        intro W5 hW5
        have kb : Var W5 W4.heap.size (-ar) := by rw [hW5]; exact Blk.new _ _ _
        have hbv : Below W4.heap.size W4 W5 := by rw [hW5]; exact below_a1 _ _
        clear hW5 c4 l4
        have KA5 := Lib.hid (KA4.out.of hbv)
        have KB5 := Lib.hid kb
        have KF5 := Lib.hid (KF4.out.of hbv)
        have KS5 := Lib.hid (KS4.out.of hbv)
        have hb5 := hb4.trans (hbv.mono hb4.size)
        clear kb hbv KA4 KF4 KS4 hb4
        have ca := Var.c KA5.out
        have cb := Var.c KB5.out
        have la := KA5.out.lt
        have lb := KB5.out.lt
        have s1 : sg ar = ar := sg_id (by unfold b255; omega)
        have s2 : sg (-ar) = -ar := sg_id (by unfold b255; omega)
        have o1 : W2.heap.size < W5.heap.size := la
        refine wp_region_up W5.heap.size 10 [(true, 0), (true, 1), (true, 2), (true, 3), (true, 4), (true, 5), (true, 6), (true, 7), (true, 9), (false, 8)] (by kernel_rfl) (by kernel_rfl) (fun _ _ d _ _ h => by cases d <;> exact h) ?_
        have hb : Below W5.heap.size W5 W5.drew := (Below.refl _ _).drew
        iterate 9
          refine wpS_takeL rfl rfl ?_
          go_big_quiet_step (rfl)
          refine wpQuiet_nil ?_
        refine wpS_doL rfl ?_
        intro K hK
        try replace HB8 := Lib.hid (HB8.out.of hb); try replace HB9 := Lib.hid (HB9.out.of hb)
        go_wp2_with ((first | (go_at_call 14; (with_reducible refine (Read_in ar s1 _).mono ?_); rintro e w2 ⟨v_, rfl, hbm, hn⟩; have HB8 := Lib.hid hbm; have hvm := hbm.shape; clear hbm; obtain ⟨bn1, ba1, bl1, bc1, rfl⟩ := hvm) | (go_at_call 14; (with_reducible refine (Read_in (-ar) s2 _).mono ?_); rintro e w2 ⟨v_, rfl, hbm, hn⟩; have HB9 := Lib.hid hbm; have hvm := hbm.shape; clear hbm; obtain ⟨bn2, ba2, bl2, bc2, rfl⟩ := hvm)))
        try replace hb := hb.trans (hn.mono hb.size)
        refine hK.out _ _ (up_iff.2 hb) ?_
        clear hK K
        try clear hn
        try replace HB8 := Lib.hid (HB8.out.of hn)
        refine wpS_nil ?_
        simp only [List.drop_succ_cons, List.drop_zero]
        have KA6 := Lib.hid (KA5.out.of hb)
        have KB6 := Lib.hid (KB5.out.of hb)
        have KF6 := Lib.hid (KF5.out.of hb)
        have KS6 := Lib.hid (KS5.out.of hb)
        have hb6 := hb5.trans (hb.mono hb5.size)
        clear ca cb la lb o1 hb hb5 KA5 KB5 KF5 KS5
        have ca := Var.c KA6.out
        have cb := Var.c KB6.out
        go_wp2_with fail
        refine (Read_in (-ar) s2 _).mono ?_
        rintro e W7 ⟨v9, rfl, hv9, hn⟩
        obtain ⟨nn, na, nl, nc, rfl⟩ := hv9.shape
        replace HB8 := Lib.hid (HB8.out.of hn)
        clear ca cb
        have KA7 := Lib.hid (KA6.out.of hn)
        have KF7 := Lib.hid (KF6.out.of hn)
        have KS7 := Lib.hid (KS6.out.of hn)
        have hb7 := hb6.trans (hn.mono hb6.size)
        clear hn hb6 KA6 KF6 KS6
        clear KB6
        go_wp2_with fail
        refine (Minus_any _ (-ar) 18 _ hv9).mono ?_
        rintro e W8 ⟨v9, rfl, hv8, hn⟩
        obtain ⟨nn2, na2, nl2, nc2, rfl⟩ := hv8.shape
        rw [Int.neg_neg] at hv8
        replace HB8 := Lib.hid (HB8.out.of hn)
        clear hv9
        have KA8 := Lib.hid (KA7.out.of hn)
        have KF8 := Lib.hid (KF7.out.of hn)
        have KS8 := Lib.hid (KS7.out.of hn)
        have hb8 := hb7.trans (hn.mono hb7.size)
        clear hn hb7 KA7 KF7 KS7
        go_wp2_with fail
        refine (bigCmp_any _ _ ar ar 18 18 _ HB8.out hv8).mono ?_
        rintro e W9 ⟨rfl, hn⟩
        rw [show cmpI ar ar = 0 by unfold cmpI; simp]
        clear hv8 HB8
        have KA9 := Lib.hid (KA8.out.of hn)
        have KF9 := Lib.hid (KF8.out.of hn)
        have KS9 := Lib.hid (KS8.out.of hn)
        have hb9 := hb8.trans (hn.mono hb8.size)
        clear hn hb8 KA8 KF8 KS8
        have ca := Var.c KA9.out
        have cf := PVar.c KF9.out
        obtain ⟨neg, al, ll, cc, hS1, hS2⟩ := KS9.out
        have cs0 : W9.cell? ⟨fb + 1, 0, none⟩ = some (.bool neg) := hS1.cell 0
        have cs1 : W9.cell? ⟨fb + 1, 1, none⟩ = some (.slice al ll cc) := hS1.cell 1
        have HZ := Lib.hid hS2
        have HS1 := Lib.hid hS1
        have lf := KF9.out.lt
        have la := KA9.out.lt
        have ls := hS1.lt
        clear hS1 hS2 s2
        obtain ⟨r1, hr1⟩ : ∃ r, rp fx fy = r := ⟨_, rfl⟩
        have HR1 := Lib.hid hr1
        clear hr1
        go_wp2_with fail
        cases r1
        · clear KS9 HZ HSE
          refine wp_region_up W9.heap.size 7 [(true, 0), (false, 1), (true, 2), (true, 3), (true, 4), (true, 6), (false, 5)] (by kernel_rfl) (by kernel_rfl) (fun _ _ d _ _ h => by cases d <;> exact h) ?_
          have hb : Below W9.heap.size W9 W9.drew := (Below.refl _ _).drew
          refine wpS_takeL rfl rfl ?_
          go_big_quiet_step (rfl)
          refine wpQuiet_nil ?_
          refine wpS_doL rfl ?_
          intro K hK
          go_wp2_with ((go_at_call 7; (with_reducible refine (pRt_is fx fy false HR1.out _).mono ?_); rintro e w2 ⟨rfl, hn⟩))
          replace hb := hb.trans (hn.mono hb.size)
          refine hK.out _ _ (up_iff.2 hb) ?_
          clear hK K
          clear hn
          iterate 4
            refine wpS_takeL rfl rfl ?_
            go_big_quiet_step (rfl)
            refine wpQuiet_nil ?_
          refine wpS_doL rfl ?_
          intro K hK
          go_wp2_with ((first | (go_at_call 7; (with_reducible refine (pRt_is fx fy false HR1.out _).mono ?_); rintro e w2 ⟨rfl, hn⟩) | (go_at_call 6; (with_reducible refine (pawake_any _).mono ?_); rintro e w2 ⟨rfl, hn⟩)))
          try replace hb := hb.trans (hn.mono hb.size)
          refine hK.out _ _ (up_iff.2 hb) ?_
          clear hK K
          try clear hn
          refine wpS_nil ?_
          simp only [List.drop_succ_cons, List.drop_zero]
          have hb10 := hb9.trans (hb.mono hb9.size)
          clear hb hb9
          go_wp2_with fail
          refine (pawake_any _).mono ?_
          rintro e W11 ⟨rfl, hn⟩
          have hb11 := hb10.trans (hn.mono hb10.size)
          clear hn hb10
          go_wp2
          go_ret
          exact ⟨rfl, hb11⟩
        · clear KS9
          refine wp_region_up W9.heap.size 7 [(true, 0), (false, 1), (true, 2), (true, 3), (true, 4), (true, 6), (false, 5)] (by kernel_rfl) (by kernel_rfl) (fun _ _ d _ _ h => by cases d <;> exact h) ?_
          have hb : Below W9.heap.size W9 W9.drew := (Below.refl _ _).drew
          refine wpS_takeL rfl rfl ?_
          go_big_quiet_step (rfl)
          refine wpQuiet_nil ?_
          refine wpS_doL rfl ?_
          intro K hK
          try replace HB8 := Lib.hid (HB8.out.of hb)
          go_wp2_with ((go_at_call 7; (with_reducible refine (pRt_is fx fy true HR1.out _).mono ?_); rintro e w2 ⟨rfl, hn⟩))
          replace hb := hb.trans (hn.mono hb.size)
          refine hK.out _ _ (up_iff.2 hb) ?_
          clear hK K
          clear hn
          iterate 4
            refine wpS_takeL rfl rfl ?_
            go_big_quiet_step (rfl)
            refine wpQuiet_nil ?_
          refine wpS_doL rfl ?_
          intro K hK
          try replace HB8 := Lib.hid (HB8.out.of hb)
          go_wp2_with ((go_at_call 14; (with_reducible refine (Read_in ar s1 _).mono ?_); rintro e w2 ⟨v_, rfl, hbm, hn⟩; have HB8 := Lib.hid hbm; have hvm := hbm.shape; clear hbm; obtain ⟨bn1, ba1, bl1, bc1, rfl⟩ := hvm))
          try replace hb := hb.trans (hn.mono hb.size)
          refine hK.out _ _ (up_iff.2 hb) ?_
          clear hK K
          try clear hn
          refine wpS_nil ?_
          simp only [List.drop_succ_cons, List.drop_zero]
          go_wp2_with fail
          refine (bigCmp_is0 _ _ ar _ 18 12 (HSE.out HR1.out) _ HB8.out (HZ.out.of hb)).mono ?_
          rintro e W10 ⟨rfl, hn⟩
          have hb10 := (hb9.trans (hb.mono hb9.size)).trans (hn.mono (hb9.trans (hb.mono hb9.size)).size)
          clear hn hb hb9 HB8
          go_wp2_with fail
          refine (pawake_any _).mono ?_
          rintro e W11 ⟨rfl, hn⟩
          have hb11 := hb10.trans (hn.mono hb10.size)
          clear hn hb10
          go_wp2
          go_ret
          exact ⟨rfl, hb11⟩
theorem PointAreas_all (ao : Option Addr) (n cap : Nat) (X Y : Nat → Int) (fx fy : Int) (w : World) (h : Pts w ao n cap X Y) (_ : In64 fx) (_ : In64 fy) :
    Calls Try.prog 3 #[.slice ao n cap, pI fx fy] w fun e w' => e = .returned (.bool true) ∧ Below w.heap.size w w' := by
  by_cases hb : 60 < n
  · exact PointAreas_big ao n cap X Y fx fy w h hb
  · exact PointAreas_any ao n cap X Y fx fy w h hb
end Go.Proofs.Ytjboamjfdifjjaa

namespace Go.Proofs.Ytjboamjfdifjjaa
open Go.ChangeShapes Go.WideShapes Go.ChangeAt Go.RowKit

theorem blk_add (a : Addr) (n : Nat) : (a.add n).block = a.block := by unfold Addr.add; split <;> rfl
section
variable {H : Type} {enc : TypeId × Value → H} {w : World} {base : Nat} {held : Bool}
set_option maxRecDepth 100000 in
theorem open_pts {r : Reach} {b0 : Nat} {v : Value} {d : DataW H} {p : List MemPlace} (hv : Value.okWide Try.prog w r b0 22 v) (h : DataW.Trod enc Try.prog w base (fun _ => true) held 22 v d p) :
    ∃ ao n cap X Y, v = .slice ao n cap ∧ Pts w ao n cap X Y := by
  obtain ⟨ao, n, cap, rfl⟩ := okWide_slice Try.underlying22 hv
  obtain ⟨fuel, hf⟩ := h
  have hC : Try.prog.cellsOf 24 = 2 := by kernel_rfl
  have hC1 : Try.prog.cellsOf 3 = 1 := by kernel_rfl
  rcases Go.Deep.open_slice_pairs Try.underlying22 Try.underlying24 hC rfl rfl hC1 hC1 hf with ⟨hc, hx⟩ | ⟨a, len, c2, m, k, V0, V1, D0, D1, P0, P1, hc, _, hl, hm, hmm, hx, hall⟩
  · obtain ⟨rfl, rfl, rfl⟩ : ao = none ∧ n = 0 ∧ cap = 0 := by simpa [Value.cells] using hc
    exact ⟨none, 0, 0, fun _ => 0, fun _ => 0, rfl, fun h => absurd h (by omega), Nat.le_refl _, by omega⟩
  · obtain ⟨rfl, rfl, rfl⟩ : ao = some a ∧ n = len ∧ cap = c2 := by simpa [Value.cells] using hc
    have hmc : m = cap := by rw [hmm]; rfl
    have key : ∀ i, i < n → ∃ y : Int × Int, V0 i = .int .i64 y.1 ∧ V1 i = .int .i64 y.2 := by
      intro i hi
      obtain ⟨_, _, t0, t1⟩ := hall i (by omega)
      obtain ⟨a0, e0, _, g0⟩ := DataW.trod_int Try.underlying3 t0
      obtain ⟨a1, e1, _, g1⟩ := DataW.trod_int Try.underlying3 t1
      exact ⟨(a0, a1), by simpa using e0, by simpa using e1⟩
    refine ⟨some a, n, cap, fun i => if h : i < n then (key i h).choose.1 else 0, fun i => if h : i < n then (key i h).choose.2 else 0, rfl, fun h0 => ⟨a, rfl, ?_, fun i hi => ?_⟩, hl, hm⟩
    · have := (hall 0 (by omega)).1
      have := World.block_lt_of_cell? _ _ this
      rwa [blk_add] at this
    · have e0 := (hall i (by omega)).1
      have e1 := (hall i (by omega)).2.1
      rw [(key i hi).choose_spec.1] at e0
      rw [(key i hi).choose_spec.2] at e1
      simp only [dif_pos hi]
      exact ⟨e0, by rw [Go.Deep.add_add]; exact e1⟩
end
end Go.Proofs.Ytjboamjfdifjjaa

namespace Go.Proofs.Ytjboamjfdifjjaa
open Go.ChangeShapes Go.WideShapes Go.ChangeAt Go.RowKit

set_option maxRecDepth 100000 in
set_option maxHeartbeats 1000000 in
theorem pointAreas_lifted (os : Os) (started : os.Started) (H : Type) (enc : TypeId × Value → H) :
    ReturnsInHanded {} Try.checked os 3 .any (Rows.pointAreasSpec.pre6 enc Try.prog Try.f3 Rows.pointAreasRow.domain false) (Rows.pointAreasSpec.post enc Try.prog Try.f3 false true false false) := by
  refine returnsInHanded_of_change (C := Try.checked) own started (by kernel_rfl) Try.func3
    (ChangeSpec.witness6 (enc := enc) (C := Try.checked) false ⟨#[], #[.slice none 0 0, pI 0 0], []⟩ 8 (by kernel_rfl) (by kernel_rfl) (by kernel_rfl) (by kernel_rfl)) ?_
  intro W base args ds gs before hval0 hW hcnd _
  have hval : ∀ (j : Nat) t v, Try.f3.params[j]? = some t → args[j]? = some v → Value.okWide Try.prog W .any base t v := hval0
  have hW' := hW
  obtain ⟨p, q, hA0, hV, rfl, hfz, hnd⟩ := hW
  have hA : DataW.TrodAll enc Try.prog W 0 (fun _ => true) true Try.f3.params.toList args.toList ds p := hA0
  rw [Try.params3] at hA hval
  obtain ⟨v0, vs0, d0, ds0, p0, q0, hargs, rfl, rfl, h0, r0⟩ := trodAll_cons hA
  obtain ⟨v1, vs1, d1, ds1, p1, q1, rfl, rfl, rfl, h1, r1⟩ := trodAll_cons r0
  obtain ⟨rfl, rfl, rfl⟩ := trodAll_nil r1
  obtain rfl : args = #[v0, v1] := by cases args; simp_all
  obtain ⟨rfl, rfl⟩ := trodVars_none hV
  have k0 := h0
  have lt0 : ∀ x ∈ p0, x.block < W.heap.size := by obtain ⟨m, hm⟩ := k0; exact DataW.trod_lt m _ _ _ hm
  obtain ⟨ao0, n0, cap0, X0, Y0, rfl, io0⟩ := open_pts (hval 0 22 v0 rfl rfl) h0
  have k1 := h1
  have lt1 : ∀ x ∈ p1, x.block < W.heap.size := by obtain ⟨m, hm⟩ := k1; exact DataW.trod_lt m _ _ _ hm
  obtain ⟨x1, y1, ix1, iy1, rfl⟩ := open_point (hval 1 24 v1 rfl rfl) h1
  clear hA0 hval0
  refine (PointAreas_all ao0 n0 cap0 X0 Y0 x1 y1 W io0 ix1 iy1).mono fun e W' ⟨he, bel⟩ => ?_
  subst he
  exact ⟨_, rfl, _, _, _, [], _, [], hW', trodAll_mk1 (shut_bool Try.underlying4 _), (trodAll_cons_mk (Below.trod laidOut (by kernel_rfl) (of_decide_eq_true (by kernel_rfl)) k0 bel lt0) (trodAll_cons_mk (Below.trod laidOut (by kernel_rfl) (of_decide_eq_true (by kernel_rfl)) k1 bel lt1) trodAll_mk0)), rfl, bel.frame _, fun h => by cases h⟩

theorem pointAreas_holds : Rows.PointAreasSaid :=
  OpenClaim.holds_of_wide 3 Try.f3 rfl rfl rfl rfl rfl rfl rfl ⟨rfl, rfl, rfl, rfl, rfl⟩ rfl rfl rfl rfl rfl (by kernel_rfl) Try.func3 (by kernel_rfl)
    (of_decide_eq_true (by kernel_rfl)) (by unfold Func.isWrapper; rw [if_neg (by decide +kernel)]; exact ⟨rfl, rfl⟩)
    (fun os started H enc _ => pointAreas_lifted os started H enc)
#print axioms pointAreas_holds
end Go.Proofs.Ytjboamjfdifjjaa

