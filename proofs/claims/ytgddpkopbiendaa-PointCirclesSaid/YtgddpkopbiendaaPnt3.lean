/- The walks of package point: right, Turn. Conditions: the slice holds points. -/
import Derived.Test.YtgddpkopbiendaaPnt2
namespace Go.Proofs.Ytgddpkopbiendaa
open Go.RowKit

/-- a slice of points -/
structure Pts (w : World) (ao : Option Addr) (n cap : Nat) (X Y : Nat → Int) : Prop where
  ptr : 0 < n → ∃ a, ao = some a ∧ a.block < w.heap.size ∧ ∀ i, i < n → w.cell? (a.add (i * 2)) = some (.int .i64 (X i)) ∧ w.cell? ((a.add (i * 2)).add 1) = some (.int .i64 (Y i))
  capl : n ≤ cap
  capb : cap ≤ 9223372036854775807
theorem Pts.of {w w' : World} {ao : Option Addr} {n cap : Nat} {X Y : Nat → Int} (h : Pts w ao n cap X Y) (hb : Below w.heap.size w w') : Pts w' ao n cap X Y := by
  refine ⟨fun h0 => ?_, h.capl, h.capb⟩
  obtain ⟨a, h1, h2, h3⟩ := h.ptr h0
  refine ⟨a, h1, Nat.lt_of_lt_of_le h2 hb.size, fun i hi => ?_⟩
  have e1 : ∀ k, (a.add k).block = a.block := fun k => by unfold Addr.add; split <;> rfl
  have e2 : ∀ k l, ((a.add k).add l).block = a.block := fun k l => by unfold Addr.add; split <;> split <;> rfl
  rw [hb.cell (by rw [e1]; exact h2), hb.cell (by rw [e2]; exact h2)]
  exact h3 i hi
/-- are all points of a row right? -/
def allC (n : Nat) (X Y : Nat → Int) : Bool := (List.range n).all fun i => inC (X i) && inC (Y i)

set_option maxRecDepth 100000 in
set_option maxHeartbeats 1000000 in
theorem ptright_any (ao : Option Addr) (n cap : Nat) (X Y : Nat → Int) (w : World) (h : Pts w ao n cap X Y) :
    Calls Try.prog 78 #[.slice ao n cap] w fun e w' => e = .returned (.bool (allC n X Y)) ∧ Below w.heap.size w w' := by
  have hcl := h.capl
  have hcb := h.capb
  have HW := Lib.hid h
  clear h
  obtain ⟨A, hA⟩ : ∃ A, allC n X Y = A := ⟨_, rfl⟩
  rw [hA]
  replace hA := Lib.hid hA
  go_enter Try.func78, Try.ntmps78
  go_wp2_with fail
  go_loopw [7] (fun i wr => ∃ k : Nat, k ≤ n ∧ i = .int .i64 k ∧ Hid (∀ j, j < k → (inC (X j) && inC (Y j)) = true) ∧ Below w.heap.size w wr) (fun i _ => n - (intOf i).toNat)
  case atStart => exact ⟨0, Nat.zero_le _, rfl, fun j hj => absurd hj (by omega), Below.refl _ _⟩
  case round =>
    rename_i wr
    obtain ⟨k, hk, rfl, hall, hbl⟩ := hrel
    by_cases h1 : k < n
    · obtain ⟨a, rfl, hbk, hc⟩ := HW.out.ptr (by omega)
      have ebl : ∀ k, (a.add k).block = a.block := fun k => by unfold Addr.add; split <;> rfl
      have ebl2 : ∀ k l, ((a.add k).add l).block = a.block := fun k l => by unfold Addr.add; split <;> split <;> rfl
      have e0 : wr.cell? (a.add (k * 2)) = some (.int .i64 (X k)) := by rw [hbl.cell (by rw [ebl]; exact hbk)]; exact (hc k h1).1
      have e1 : wr.cell? ((a.add (k * 2)).add 1) = some (.int .i64 (Y k)) := by rw [hbl.cell (by rw [ebl2]; exact hbk)]; exact (hc k h1).2
      clear hc ebl ebl2
      obtain ⟨x, hx⟩ : ∃ x, X k = x := ⟨_, rfl⟩
      obtain ⟨y, hy⟩ : ∃ y, Y k = y := ⟨_, rfl⟩
      obtain ⟨g, hg⟩ : ∃ g, (inC x && inC y) = g := ⟨_, rfl⟩
      rw [hx] at e0
      rw [hy] at e1
      replace e1 : wr.cell? { block := (a.add (k * 2)).block, off := (a.add (k * 2)).off + 1 } = some (.int .i64 y) := e1
      have HX := Lib.hid hx
      have HY := Lib.hid hy
      have HG := Lib.hid hg
      clear hx hy hg
      go_wp2_with fail
      refine (PtRight_any x y _).mono ?_
      rintro e w2 ⟨rfl, hn⟩
      rw [HG.out]
      have hb2 : Below w.heap.size w w2 := (hbl.alloc hbl.size _).trans (hn.mono (by have := hbl.size; simp; omega))
      clear hn e0 e1
      cases g
      · have HA : A = false := by
          rw [← hA.out]; unfold allC; rw [List.all_eq_false]
          refine ⟨k, List.mem_range.2 h1, ?_⟩
          rw [HX.out, HY.out, HG.out]; exact Bool.false_ne_true
        subst HA
        clear hA hall
        go_wp2
        go_ret
        exact ⟨rfl, hb2⟩
      · go_wp2
        refine ⟨⟨k + 1, by omega, by norm_cast, fun j hj => ?_, hb2⟩, ?_⟩
        · by_cases hjk : j = k
          · subst hjk; rw [HX.out, HY.out, HG.out]
          · exact hall.out j (by omega)
        · simp only [intOf]; omega
    · have hkn : k = n := by omega
      have HA : A = true := by
        rw [← hA.out]; unfold allC; rw [List.all_eq_true]
        intro j hj; exact hall.out j (by rw [hkn]; exact List.mem_range.1 hj)
      subst HA
      clear hA hall
      go_wp2
      go_ret
      exact ⟨rfl, hbl⟩

/-- three, four values by their number -/
def f3 (a b c : Int) : Nat → Int | 0 => a | 1 => b | _ => c
def f4 (a b c d : Int) : Nat → Int | 0 => a | 1 => b | 2 => c | _ => d
theorem Pts.three {W : World} {b : Nat} {t : TypeId} {ax ay bx b_y cx cy : Int} (h : Blk W b #[.int .i64 ax, .int .i64 ay, .int .i64 bx, .int .i64 b_y, .int .i64 cx, .int .i64 cy] t) :
    Pts W (some ⟨b, 0, none⟩) 3 3 (f3 ax bx cx) (f3 ay b_y cy) := by
  refine ⟨fun _ => ⟨_, rfl, h.lt, fun i hi => ?_⟩, by decide, by decide⟩
  match i, hi with
  | 0, _ => exact ⟨h.cell 0, h.cell 1⟩
  | 1, _ => exact ⟨h.cell 2, h.cell 3⟩
  | 2, _ => exact ⟨h.cell 4, h.cell 5⟩
theorem Pts.four {W : World} {b : Nat} {t : TypeId} {ax ay bx b_y cx cy dx dy : Int} (h : Blk W b #[.int .i64 ax, .int .i64 ay, .int .i64 bx, .int .i64 b_y, .int .i64 cx, .int .i64 cy, .int .i64 dx, .int .i64 dy] t) :
    Pts W (some ⟨b, 0, none⟩) 4 4 (f4 ax bx cx dx) (f4 ay b_y cy dy) := by
  refine ⟨fun _ => ⟨_, rfl, h.lt, fun i hi => ?_⟩, by decide, by decide⟩
  match i, hi with
  | 0, _ => exact ⟨h.cell 0, h.cell 1⟩
  | 1, _ => exact ⟨h.cell 2, h.cell 3⟩
  | 2, _ => exact ⟨h.cell 4, h.cell 5⟩
  | 3, _ => exact ⟨h.cell 6, h.cell 7⟩
/-- may it be a point? -/
def rp (x y : Int) : Bool := inC x && inC y
def rp3 (ax ay bx b_y cx cy : Int) : Bool := rp ax ay && rp bx b_y && rp cx cy
def rp4 (ax ay bx b_y cx cy dx dy : Int) : Bool := rp ax ay && rp bx b_y && rp cx cy && rp dx dy
theorem allC_3 (ax ay bx b_y cx cy : Int) : allC 3 (f3 ax bx cx) (f3 ay b_y cy) = rp3 ax ay bx b_y cx cy := by
  simp [allC, List.range_succ, f3, rp3, rp, Bool.and_assoc]
theorem allC_4 (ax ay bx b_y cx cy dx dy : Int) : allC 4 (f4 ax bx cx dx) (f4 ay b_y cy dy) = rp4 ax ay bx b_y cx cy dx dy := by
  simp [allC, List.range_succ, f4, rp4, rp, Bool.and_assoc]
theorem inC_co {x : Int} (h : inC x = true) : Co x := by
  unfold inC at h; unfold Co; simpa using h
theorem rp_co {x y : Int} (h : rp x y = true) : Co x ∧ Co y := by
  unfold rp at h; rw [Bool.and_eq_true] at h; exact ⟨inC_co h.1, inC_co h.2⟩
theorem rp3_co {ax ay bx b_y cx cy : Int} (h : rp3 ax ay bx b_y cx cy = true) : Co ax ∧ Co ay ∧ Co bx ∧ Co b_y ∧ Co cx ∧ Co cy := by
  unfold rp3 at h; rw [Bool.and_eq_true, Bool.and_eq_true] at h
  obtain ⟨⟨h1, h2⟩, h3⟩ := h
  exact ⟨(rp_co h1).1, (rp_co h1).2, (rp_co h2).1, (rp_co h2).2, (rp_co h3).1, (rp_co h3).2⟩
/-- the way of the turn of any three -/
def way (ax ay bx b_y cx cy : Int) : Int := bif rp3 ax ay bx b_y cx cy then (trn ax ay bx b_y cx cy).sign else 0

theorem right3_is (ax ay bx b_y cx cy : Int) (g : Bool) (hg : rp3 ax ay bx b_y cx cy = g) (W : World) (b : Nat) (t : TypeId) (h : Blk W b #[.int .i64 ax, .int .i64 ay, .int .i64 bx, .int .i64 b_y, .int .i64 cx, .int .i64 cy] t) :
    Calls Try.prog 78 #[.slice (some ⟨b, 0, none⟩) 3 3] W fun e w' => e = .returned (.bool g) ∧ Below W.heap.size W w' := by
  have := ptright_any _ _ _ _ _ W (Pts.three h)
  rw [allC_3, hg] at this
  exact this
theorem right4_is (ax ay bx b_y cx cy dx dy : Int) (g : Bool) (hg : rp4 ax ay bx b_y cx cy dx dy = g) (W : World) (b : Nat) (t : TypeId) (h : Blk W b #[.int .i64 ax, .int .i64 ay, .int .i64 bx, .int .i64 b_y, .int .i64 cx, .int .i64 cy, .int .i64 dx, .int .i64 dy] t) :
    Calls Try.prog 78 #[.slice (some ⟨b, 0, none⟩) 4 4] W fun e w' => e = .returned (.bool g) ∧ Below W.heap.size W w' := by
  have := ptright_any _ _ _ _ _ W (Pts.four h)
  rw [allC_4, hg] at this
  exact this

set_option maxRecDepth 100000 in
set_option maxHeartbeats 1000000 in
theorem Turn_any (ax ay bx b_y cx cy : Int) (w : World) :
    Calls Try.prog 37 #[pI ax ay, pI bx b_y, pI cx cy] w fun e w' => e = .returned (.int .i64 (way ax ay bx b_y cx cy)) ∧ Below w.heap.size w w' := by
  unfold way
  obtain ⟨g, hg⟩ : ∃ g, rp3 ax ay bx b_y cx cy = g := ⟨_, rfl⟩
  rw [hg]
  obtain ⟨s, hs⟩ : ∃ s : Int, (bif g then (trn ax ay bx b_y cx cy).sign else 0) = s := ⟨_, rfl⟩
  rw [hs]
  have HG := Lib.hid hg
  have HS := Lib.hid hs
  clear hg hs
  go_enter Try.func37, Try.ntmps37
  go_wp2_with fail
  refine calls_w ?_
  intro W hW
  have ka : PVar W w.heap.size ax ay := by rw [hW]; exact (Blk.new w _ _).alloc _ |>.alloc _ |>.alloc _
  have kb : PVar W (w.heap.size + 1) bx b_y := by rw [hW]; exact (Blk.new1 w _ _ _).alloc _ |>.alloc _
  have kc : PVar W (w.heap.size + 1 + 1) cx cy := by rw [hW]; exact (Blk.new2 w _ _ _ _).alloc _
  have kl : Blk W (w.heap.size + 1 + 1 + 1) #[.int .i64 ax, .int .i64 ay, .int .i64 bx, .int .i64 b_y, .int .i64 cx, .int .i64 cy] 57 := by rw [hW]; exact Blk.new3 w _ _ _ _ _
  have hb0 : Below w.heap.size w W := by rw [hW]; exact (below_a3 _ _ _ _).alloc (by simp; omega) _
  clear hW
  refine (right3_is ax ay bx b_y cx cy g HG.out _ _ _ kl).mono ?_
  rintro e u1 ⟨rfl, hn⟩
  replace ka : PVar u1 _ _ _ := ka.of hn
  replace kb : PVar u1 _ _ _ := kb.of hn
  replace kc : PVar u1 _ _ _ := kc.of hn
  replace hb0 := hb0.trans (hn.mono hb0.size)
  clear hn kl
  have ca := PVar.c ka
  have cb := PVar.c kb
  have cc := PVar.c kc
  clear ka kb kc
  cases g
  · have h0 : s = 0 := HS.out.symm
    subst h0
    go_wp2
    go_ret
    exact ⟨rfl, hb0⟩
  · obtain ⟨h1, h2, h3, h4, h5, h6⟩ := rp3_co HG.out
    have HT := trn_bd h1 h2 h3 h4 h5 h6
    go_wp2_with fail
    refine (turn_any ax ay bx b_y cx cy h1 h2 h3 h4 h5 h6 _).mono ?_
    rintro e u2 ⟨rfl, hn⟩
    replace hb0 := hb0.trans (hn.mono hb0.size)
    clear hn ca cb cc
    go_wp2_with fail
    refine (Sign_is _ s HS.out _ (by unfold InI b255; omega)).mono ?_
    rintro e u3 ⟨rfl, hn⟩
    replace hb0 := hb0.trans (hn.mono hb0.size)
    clear hn
    go_wp2
    go_ret
    exact ⟨rfl, hb0⟩
end Go.Proofs.Ytgddpkopbiendaa
