/- The statement WideParsesCardSaid: for every input the law returns true, and its arguments read as before; the listed tables tied to the program. Conditions: none. -/
import Derived.Test.YtcfiemeknocgjaaDoorSWp2
import Derived.KernelRfl
import Derived.StillTail
import Derived.OrdersHeld
import Derived.Deep.Quiet
import Derived.Below
import Derived.WalkKit
import Derived.Test.YtcfiemeknocgjaaDoorProg
import Derived.WalkSpells
import Derived.StillTactics
import Derived.Laws.Pointers
import Derived.Deep.RegionHeld3
import Derived.RowKit3
import Derived.Deep.QuietTactic
import Derived.BigQuiet
import Derived.BigRegion
import Derived.Lib.Hide
import Derived.WalkSmall
import Derived.Laws.BitsAllLaws
import Derived.Shelf.Bits.Mul64
import Derived.Laws.Bits64b
import Derived.Shelf.Lays
import Derived.Shelf.Small.Bits
import Derived.Laws.MathBits
import Derived.IntWalk
import Derived.Deep.OwnRows
import Derived.Lib.BitFns
import Derived.Lib.ItoaNum
import Derived.Deep.LoopGhost
import Derived.RowKit
import Derived.Laws.BytesArg
import Derived.Shelf.Strconv.Itoa1
import Derived.Shelf.Strconv.Itoa2
import Derived.Lib.ItoaMem
import Derived.Test.YtcfiemeknocgjaaDoorRows
import Derived.ProofKit
import Derived.OpenShut
import Derived.ShutString
import Derived.ChangeOld
import Derived.Lib.SmallJoins
import Derived.Lib.LaidTab
import Derived.Laws.IdiomArrays
import Derived.LaidMore
import Derived.Stop.Joined
import Derived.ChangeMaps5
import Derived.Test.YtcfiemeknocgjaaDoorTie
import Derived.Test.YtcfiemeknocgjaaDoorCards
import Derived.SevenTiedAt
namespace Go.Proofs.YtcfiemeknocgjaaDoor
open Go.RowKit

theorem ws1 {W : World} {b : Nat} {u : Int} {t : TypeId} (hu : Wd u) (h : Blk W b #[.int .u64 u] t) : Ws W b [u] :=
  ⟨fun i hi => by
    match i, hi with
    | 0, _ => exact h.cell 0, h.lt, fun d hd => by rw [List.mem_singleton.1 hd]; exact hu, by simp⟩

set_option maxRecDepth 100000 in
set_option maxHeartbeats 1000000 in
theorem bigOf_pos (n : Int) (w : World) (h0 : 0 ≤ n) (h1 : n < 9223372036854775808) : Calls Tryd.prog 24 #[.int .i64 n] w (GivesBig w n 5) := by
  go_enter Tryd.func24, Tryd.ntmps24
  go_wp2_with fail
  refine calls_w ?_
  intro W hW
  have k0 : Blk W w.heap.size #[.bool false, .slice none 0 0] 34 := by rw [hW]; exact (Blk.new w _ _).alloc _
  have kl : Blk W (w.heap.size + 1) #[.int .u64 n] 22 := by rw [hW]; exact Blk.new1 w _ _ _
  have hb0 : Below w.heap.size w W := by rw [hW]; exact below_a2 _ _ _
  clear hW
  have T := Words_any (w.heap.size + 1) 1 1 [n] W (ws1 ⟨h0, by omega⟩ kl) rfl
  rw [show uval [n] = n by simp [uval]] at T
  refine T.mono ?_
  clear T
  rintro e u1 ⟨vm, rfl, hbm, hn⟩
  replace k0 := k0.of hn
  replace hb0 := hb0.trans (hn.mono hb0.size)
  have HBG := Lib.hid hbm
  have hvm := hbm.shape
  clear hbm hn kl
  obtain ⟨n5, a5, q5, c5, rfl⟩ := hvm
  have d0 := k0.cell 0
  have d1 := k0.cell 1
  have f0 := k0.free 0
  have f1 := k0.free 1
  simp only [List.getElem?_toArray, List.getElem?_cons_zero, List.getElem?_cons_succ] at d0 d1
  clear k0
  go_wp2
  simp [bodyPost, results, Tryd.results24, go_sem, d0, d1]
  exact ⟨_, rfl, HBG.out.set2 d0 (.bool n5) (.slice a5 q5 c5), set2_below hb0 (Nat.le_refl _) _ _⟩

set_option maxRecDepth 100000 in
set_option maxHeartbeats 1000000 in
theorem bigOf_neg (n : Int) (w : World) (h0 : n < 0) (h1 : -9223372036854775808 ≤ n) : Calls Tryd.prog 24 #[.int .i64 n] w (GivesBig w n 5) := by
  have hn0 : ¬ 0 ≤ n := by omega
  go_enter Tryd.func24, Tryd.ntmps24
  go_wp2_with fail
  refine calls_w ?_
  intro W hW
  have k0 : Blk W w.heap.size #[.bool false, .slice none 0 0] 34 := by rw [hW]; exact (Blk.new w _ _).alloc _
  have kl : Blk W (w.heap.size + 1) #[.int .u64 (-(n + 1) + 1)] 22 := by rw [hW]; exact Blk.new1 w _ _ _
  have hb0 : Below w.heap.size w W := by rw [hW]; exact below_a2 _ _ _
  clear hW
  have T := Words_any (w.heap.size + 1) 1 1 [-(n + 1) + 1] W (ws1 ⟨by omega, by omega⟩ kl) rfl
  rw [show uval [-(n + 1) + 1] = -n by simp [uval]; omega] at T
  refine T.mono ?_
  clear T
  rintro e u1 ⟨vm, rfl, hbm, hn⟩
  replace k0 := k0.of hn
  replace hb0 := hb0.trans (hn.mono hb0.size)
  have HB1 := Lib.hid hbm
  have hvm := hbm.shape
  clear hbm hn kl
  obtain ⟨n4, a4, q4, c4, rfl⟩ := hvm
  go_wp2_with fail
  have T := Minus_any _ _ _ _ HB1.out
  rw [Int.neg_neg] at T
  refine T.mono ?_
  clear T
  rintro e u2 ⟨vm, rfl, hbm, hn⟩
  replace k0 := k0.of hn
  replace hb0 := hb0.trans (hn.mono hb0.size)
  have HBG := Lib.hid hbm
  have hvm := hbm.shape
  clear hbm hn HB1
  obtain ⟨n5, a5, q5, c5, rfl⟩ := hvm
  have d0 := k0.cell 0
  have d1 := k0.cell 1
  have f0 := k0.free 0
  have f1 := k0.free 1
  simp only [List.getElem?_toArray, List.getElem?_cons_zero, List.getElem?_cons_succ] at d0 d1
  clear k0
  go_wp2
  simp [bodyPost, results, Tryd.results24, go_sem, d0, d1]
  exact ⟨_, rfl, HBG.out.set2 d0 (.bool n5) (.slice a5 q5 c5), set2_below hb0 (Nat.le_refl _) _ _⟩
theorem bigOf_any (n : Int) (w : World) (h : In64 n) : Calls Tryd.prog 24 #[.int .i64 n] w (GivesBig w n 5) := by
  by_cases h0 : 0 ≤ n
  · exact bigOf_pos n w h0 h.2
  · exact bigOf_neg n w (by omega) h.1
end Go.Proofs.YtcfiemeknocgjaaDoor

namespace Go.Proofs.YtcfiemeknocgjaaDoor
open Go.RowKit

theorem heap_setL (w : World) (b o : Nat) (l : List Value) (k : Nat) (hk : k ≠ b) : (setL w b o l).heap[k]? = w.heap[k]? := by
  induction l generalizing w o with
  | nil => rfl
  | cons v l ih => unfold setL; rw [ih, Below.heap_setCell _ _ _ _ hk]
theorem big_setL {w : World} {v : Value} {n : Int} {L b : Nat} (h : Big w v n L) {x : Value} (hd : w.cell? ⟨b, 0, none⟩ = some x) (hx : ∀ i, x ≠ .int .i64 i) (o : Nat) (l : List Value) : Big (setL w b o l) v n L := by
  obtain ⟨neg, ao, b3, cap, ds, h1, h2, h3⟩ := h
  have hne : 0 < ds.length → b3 ≠ b := by
    intro h0 e
    have := h2.cell 0 h0
    rw [e, hd] at this
    exact hx _ (Option.some.inj this)
  refine ⟨neg, ao, b3, cap, ds, h1, ⟨h2.ptr, h2.nil, h2.capl, h2.len, h2.capb, fun i hi => ?_, fun hl => ?_⟩, h3⟩
  · have e := h2.cell i hi
    unfold World.cell? at e ⊢
    rw [heap_setL _ _ _ _ _ (hne (by omega))]; exact e
  · rw [size_setL]; exact h2.blk hl
theorem bigOf_v (n d : Int) (h : n = d) (g : In64 n) (w : World) : Calls Tryd.prog 24 #[.int .i64 n] w (GivesBig w d 5) := h ▸ bigOf_any n w g
theorem bigMul_v (v v' : Value) (n m p : Int) (L L' : Nat) (hp : n * m = p) (w : World) (h : Big w v n L) (h' : Big w v' m L') (hL : L + L' < 268435456) :
    Calls Tryd.prog 25 #[v, v'] w (GivesBig w p (L + L')) := hp ▸ bigMul_any v v' n m L L' w h h' hL
theorem bigAdd_v (v v' : Value) (n m p : Int) (L : Nat) (hp : n + m = p) (w : World) (h : Big w v n L) (h' : Big w v' m L) (hL : L < 268435456) :
    Calls Tryd.prog 23 #[v, v'] w (GivesBig w p (L + 1)) := hp ▸ bigAdd_any v v' n m L w h h' hL
theorem bigMinus_v (v : Value) (n p : Int) (L : Nat) (hp : -n = p) (w : World) (h : Big w v n L) : Calls Tryd.prog 18 #[v] w (GivesBig w p L) := hp ▸ Minus_any v n L w h
end Go.Proofs.YtcfiemeknocgjaaDoor

namespace Go.Proofs.YtcfiemeknocgjaaDoor
open Go.RowKit

theorem size_v (x s : Int) (h : sz x = s) (w : World) : Calls Tryd.prog 28 #[wI x] w fun e w' => e = .returned (wI s) ∧ Below w.heap.size w w' := h ▸ size_any x w
theorem divided_v (u v q r : Int) (hq : u / v = q) (hr : u % v = r) (hu : 0 ≤ u ∧ u < b256) (hv : 0 < v ∧ v < b256) (w : World) :
    Calls Tryd.prog 29 #[wI u, wI v] w fun e w' => e = .returned (.tuple #[wI q, wI r]) ∧ Below w.heap.size w w' := by
  subst hq; subst hr; exact divided_any u v w hu hv
def dgS (m : Int) : ByteArray := ⟨(Lib.decDigits m.toNat).toArray⟩
def itB (a : Int) : ByteArray := ⟨(Lib.itoa a).toArray⟩
set_option maxRecDepth 100000 in
theorem fmtW (m : Int) (y : ByteArray) (h : dgS m = y) (hm : 0 ≤ m ∧ m < 1000000000000000000) (w : World) (hG : Tab w) :
    Calls Tryd.prog 36 #[.int .u64 (wd0 m), .int .i64 10] w fun e w' => e = .returned (.string y) ∧ Below w.heap.size w w' := by
  obtain ⟨u, rfl⟩ := Int.eq_ofNat_of_zero_le hm.1
  have e0 : wd0 (u : Int) = (u : Int) := by unfold wd0 b64; omega
  rw [e0]
  have T := fmtU_any u (by omega)
  have hy : (⟨(Lib.decDigits u).toArray⟩ : ByteArray) = y := h
  rw [hy] at T
  have HT := Lib.hid T
  have HG := Lib.hid hG
  clear T hy h hG e0
  go_enter Tryd.func36, Tryd.ntmps36
  go_wp2_with fail
  refine (HT.out _ HG.out).mono ?_
  rintro e w1 ⟨rfl, hn⟩
  go_wp2
  go_ret
  exact ⟨rfl, hn⟩
theorem ba_ext {a b : ByteArray} (h : a.data.toList = b.data.toList) : a = b := by
  apply ByteArray.ext; exact Array.toList_inj.1 h
theorem ba_size (a : ByteArray) : a.size = a.data.toList.length := by rw [Array.length_toList]; rfl
theorem ba_app (a b : ByteArray) : (a ++ b).data.toList = a.data.toList ++ b.data.toList := by rw [ByteArray.data_append, Array.toList_append]
/-- where Text's loop stands -/
def TxI (n x : Int) (s : ByteArray) : Prop := 0 ≤ x ∧ n < b256 ∧ ∃ k r : Nat, n = x * 10 ^ k + r ∧ r < 10 ^ k ∧ s.data.toList = pd k r ∧ (k = 0 ∨ 0 < x)
theorem TxI.begin {n : Int} (h0 : 0 ≤ n) (h : n < b256) : TxI n n ⟨#[]⟩ := ⟨h0, h, 0, 0, by omega, by decide, rfl, .inl rfl⟩
theorem TxI.sz {n x : Int} {s : ByteArray} (h : TxI n x s) : s.size ≤ 100 := by
  obtain ⟨h0, h1, k, r, e, hr, hs, hk⟩ := h
  rw [ba_size, hs, pd_len]
  rcases hk with rfl | hx
  · omega
  · rcases Nat.lt_or_ge 100 k with g | g
    · exfalso
      have h2 : 10 ^ 100 ≤ 10 ^ k := Nat.pow_le_pow_right (by decide) (by omega)
      have h3 : (1 : Int) * ((10 ^ k : Nat) : Int) ≤ x * ((10 ^ k : Nat) : Int) := Int.mul_le_mul_of_nonneg_right (by omega) (by omega)
      have e2 : ((10 ^ k : Nat) : Int) = (10 : Int) ^ k := Int.natCast_pow 10 k
      rw [e2] at h3
      have h4 : ((10 ^ 100 : Nat) : Int) ≤ ((10 ^ k : Nat) : Int) := Int.ofNat_le.2 h2
      rw [e2] at h4
      have h5 : b256 ≤ ((10 ^ 100 : Nat) : Int) := by decide
      omega
    · exact g
theorem TxI.rg {n x : Int} {s : ByteArray} (h : TxI n x s) : 0 ≤ x ∧ x < b256 := by
  obtain ⟨h0, h1, k, r, e, hr, hs, hk⟩ := h
  refine ⟨h0, ?_⟩
  have hp : (1 : Int) ≤ 10 ^ k := by
    have := Nat.pow_pos (n := k) (show 0 < 10 by decide)
    have e2 : ((10 ^ k : Nat) : Int) = (10 : Int) ^ k := Int.natCast_pow 10 k
    omega
  have := Int.mul_le_mul_of_nonneg_left hp h0
  omega
theorem m18 {x m : Int} (h : 0 ≤ x ∧ x < b256) (e : x % 1000000000000000000 = m) : 0 ≤ m ∧ m < 1000000000000000000 := by omega
theorem TxI.fin {n x q m : Int} {s y : ByteArray} (h : TxI n x s) (eq : x / 1000000000000000000 = q) (em : x % 1000000000000000000 = m) (hq : q = 0) (hy : dgS m = y) : (y ++ s).data.toList = Lib.decDigits n.toNat := by
  obtain ⟨h0, h1, k, r, e, hr, hs, hk⟩ := h
  have ex : m = x := by omega
  subst ex
  rw [ba_app, hs, ← hy]
  show Lib.decDigits m.toNat ++ pd k r = _
  obtain ⟨u, rfl⟩ := Int.eq_ofNat_of_zero_le h0
  have e2 : ((10 ^ k : Nat) : Int) = (10 : Int) ^ k := Int.natCast_pow 10 k
  have en : n.toNat = u * 10 ^ k + r := by
    rw [e, ← e2]; exact_mod_cast Int.toNat_natCast (u * 10 ^ k + r)
  rw [en]
  rcases hk with rfl | hx
  · simp at hr
    subst hr
    simp [pd]
  · rw [dd_split k u r (by omega) hr]; rfl
/-- where the padding stands -/
def PdI (m : Int) (p : ByteArray) : Prop := 0 ≤ m ∧ m < 1000000000000000000 ∧ ∃ j, p.data.toList = List.replicate j 48 ++ Lib.decDigits m.toNat ∧ j + Lib.nDigits m.toNat ≤ 18
theorem PdI.begin {m : Int} {y : ByteArray} (h : 0 ≤ m ∧ m < 1000000000000000000) (e : dgS m = y) : PdI m y :=
  ⟨h.1, h.2, 0, by rw [← e]; rfl, by have := nD_le (k := 18) (r := m.toNat) (by decide) (by omega); omega⟩
theorem PdI.size {m : Int} {p : ByteArray} (h : PdI m p) : p.size ≤ 18 := by
  obtain ⟨_, _, j, e, hj⟩ := h
  rw [ba_size, e, List.length_append, List.length_replicate, Lib.decDigits_length]; exact hj
theorem PdI.next {m : Int} {p : ByteArray} (h : PdI m p) (hp : (p.size : Int) < 18) : PdI m (⟨#[48]⟩ ++ p) := by
  obtain ⟨h0, h1, j, e, hj⟩ := h
  rw [ba_size, e, List.length_append, List.length_replicate, Lib.decDigits_length] at hp
  refine ⟨h0, h1, j + 1, ?_, by omega⟩
  rw [ba_app, e, List.replicate_succ]; rfl
theorem PdI.full {m : Int} {p : ByteArray} (h : PdI m p) (hp : ¬ (p.size : Int) < 18) : p.data.toList = pd 18 m.toNat := by
  obtain ⟨h0, h1, j, e, hj⟩ := h
  rw [ba_size, e, List.length_append, List.length_replicate, Lib.decDigits_length] at hp
  rw [e, pd_pad 18 m.toNat (by decide) (by omega), show 18 - Lib.nDigits m.toNat = j by omega]
theorem pd_app (k : Nat) : ∀ (j r m : Nat), r < 10 ^ k → pd (j + k) (m * 10 ^ k + r) = pd j m ++ pd k r := by
  induction k with
  | zero => intro j r m hr; have : r = 0 := (by simpa using hr); subst this; simp [pd]
  | succ k ih =>
    intro j r m hr
    rw [Nat.pow_succ] at hr ⊢
    rw [show j + (k + 1) = (j + k) + 1 by omega, pd, pd]
    rw [show (m * (10 ^ k * 10) + r) / 10 = m * 10 ^ k + r / 10 by rw [← Nat.mul_assoc]; omega, show (m * (10 ^ k * 10) + r) % 10 = r % 10 by rw [← Nat.mul_assoc]; omega, ih j (r / 10) m (by omega), List.append_assoc]
theorem TxI.next {n x q m : Int} {s p : ByteArray} (h : TxI n x s) (eq : x / 1000000000000000000 = q) (em : x % 1000000000000000000 = m) (hq : q ≠ 0) (hp : PdI m p) (hf : ¬ (p.size : Int) < 18) : TxI n q (p ++ s) := by
  obtain ⟨h0, h1, k, r, e, hr, hs, hk⟩ := h
  have hm := hp.1
  obtain ⟨u, hu⟩ := Int.eq_ofNat_of_zero_le hm
  have e2 : ((10 ^ k : Nat) : Int) = (10 : Int) ^ k := Int.natCast_pow 10 k
  have hml : u < 10 ^ 18 := by have := hp.2.1; omega
  refine ⟨by omega, h1, 18 + k, u * 10 ^ k + r, ?_, ?_, ?_, .inr (by omega)⟩
  · have ex : x = q * 1000000000000000000 + m := by omega
    rw [e, ex, hu, Int.pow_add, Int.natCast_add, Int.natCast_mul, e2, Int.add_mul, Int.mul_assoc, show (10 : Int) ^ 18 = 1000000000000000000 by decide]
    omega
  · rw [Nat.pow_add]
    have : (u + 1) * 10 ^ k ≤ 10 ^ 18 * 10 ^ k := Nat.mul_le_mul_right _ hml
    rw [Nat.succ_mul] at this; omega
  · rw [ba_app, hp.full hf, hs, hu, Int.toNat_natCast, pd_app k 18 r u hr]
theorem dgS_sz {m : Int} {y : ByteArray} (e : dgS m = y) (h : 0 ≤ m ∧ m < 1000000000000000000) : y.size ≤ 18 := (PdI.begin h e).size
theorem sz_abs {a : Int} (ia : InI a) : (sz a).toNat = a.natAbs ∧ 0 ≤ sz a ∧ sz a < b256 := by
  unfold sz; rw [ng_in ia]; unfold InI b255 at ia; unfold b256
  by_cases h : a < 0
  · rw [decide_eq_true h, cond_true]; omega
  · rw [decide_eq_false h, cond_false]; omega
theorem itB_pos {a n : Int} {t : ByteArray} (ia : InI a) (e : sz a = n) (h : nga a = false) (ht : t.data.toList = Lib.decDigits n.toNat) : t = itB a := by
  apply ba_ext
  have h' : ¬ a < 0 := of_decide_eq_false h
  rw [ht, ← e, (sz_abs ia).1]
  show _ = Lib.itoa a
  unfold Lib.itoa
  rw [if_neg h']; congr 1; omega
theorem itB_neg {a n : Int} {t : ByteArray} (ia : InI a) (e : sz a = n) (h : nga a = true) (ht : t.data.toList = Lib.decDigits n.toNat) : ⟨#[45]⟩ ++ t = itB a := by
  apply ba_ext
  have h' : a < 0 := of_decide_eq_true h
  rw [ba_app, ht, ← e, (sz_abs ia).1]
  show _ = Lib.itoa a
  unfold Lib.itoa
  rw [if_pos h']; rfl
theorem eq4_q {q x : Int} {z : Bool} (h : eq4 (wd0 q) (wd1 q) (wd2 q) (wd3 q) 0 0 0 0 = z) (hx : 0 ≤ x ∧ x < b256) (e : x / 1000000000000000000 = q) : z = true ↔ q = 0 := by
  rw [eq4_0] at h
  have : q % b256 = 0 ↔ q = 0 := by unfold b256 at *; omega
  rw [← h, decide_eq_true_iff]; exact this

set_option maxRecDepth 100000 in
set_option maxHeartbeats 4000000 in

theorem Text_g (a : Int) (n0 : Int) (R0 : ByteArray) (hR0 : itB a = R0) (hP0 : sz a = n0) (_n0 : 0 ≤ n0 ∧ n0 < b256) (_ia : InI a)  (w : World) (hG : Tab w) :
    Calls Tryd.prog 12 #[.agg #[.int .u64 (wd0 a), .int .u64 (wd1 a), .int .u64 (wd2 a), .int .u64 (wd3 a)]] w fun e w' => e = .returned (.string R0) ∧ Below w.heap.size w w' := by

  have HP0 := Lib.hid hP0
  clear hP0
  have HR0 := Lib.hid hR0
  clear hR0
  go_enter Tryd.func12, Tryd.ntmps12
  go_wp2_with fail
  first | refine calls_w ?_ | refine name_world ?_ | refine list_world ?_ | refine post_world ?_
  intro V1 hV1
  have hn : Below w.heap.size w V1 := by rw [hV1]; exact below_a1 _ _
  have nhb0 := hn
  have k1 : Blk V1 w.heap.size #[.int .u64 (wd0 a), .int .u64 (wd1 a), .int .u64 (wd2 a), .int .u64 (wd3 a)] 24 := by rw [hV1]; exact (Blk.new _ _ _)
  clear hV1
  have hb0 := nhb0
  clear nhb0
  refine (size_v a n0 HP0.out _).mono ?_
  rintro e U2 ⟨rfl, hn⟩
  replace k1 := k1.of hn
  replace hb0 := hb0.trans (hn.mono hb0.size)
  clear hn
  go_wp2_with fail
  first | refine name_world ?_
  intro V3 hV3
  have D1 := Lib.hid k1.lt
  have D2 := Lib.hid hb0.size
  have hn : Below U2.heap.size U2 V3 := by rw [hV3]; exact below_a1 _ _
  have nk1 := k1.of hn
  have nhb0 := hb0.trans (hn.mono hb0.size)
  clear hn
  have k2 : Blk V3 U2.heap.size #[.int .u64 (wd0 n0), .int .u64 (wd1 n0), .int .u64 (wd2 n0), .int .u64 (wd3 n0)] 24 := by rw [hV3]; exact (Blk.new _ _ _)
  clear k1
  clear hb0
  clear hV3
  have k1 := nk1
  clear nk1
  have hb0 := nhb0
  clear nhb0
  go_loopg [3] (n0.toNat) (fun gk_ s1_0 wr => ∃ (x : Int) (s : ByteArray), s1_0 = .string s ∧ Hid (TxI n0 x s ∧ x ≤ (gk_ : Int)) ∧ Blk wr w.heap.size #[.int .u64 (wd0 a), .int .u64 (wd1 a), .int .u64 (wd2 a), .int .u64 (wd3 a)] 24 ∧ Blk wr U2.heap.size #[.int .u64 (wd0 x), .int .u64 (wd1 x), .int .u64 (wd2 x), .int .u64 (wd3 x)] 24 ∧ Below w.heap.size w wr)
  case atStart =>
    have HIn : TxI n0 n0 ⟨#[]⟩ ∧ n0 ≤ ((n0.toNat) : Int) := by
      exact ⟨TxI.begin _n0.1 _n0.2, by omega⟩
    exact ⟨n0, ⟨#[]⟩, rfl, Lib.hid HIn, k1, k2, hb0⟩
  case round =>
    rename World => W1_
    rename Nat => gk1
    clear k1 k2
    clear hb0
    obtain ⟨x, s, rfl, HI1, k1, k2, hb0⟩ := hrel
    have c2_0 : W1_.cell? ⟨U2.heap.size, 0, none⟩ = some (.int .u64 (wd0 x)) := k2.cell 0
    have c2_1 : W1_.cell? ⟨U2.heap.size, 1, none⟩ = some (.int .u64 (wd1 x)) := k2.cell 1
    have c2_2 : W1_.cell? ⟨U2.heap.size, 2, none⟩ = some (.int .u64 (wd2 x)) := k2.cell 2
    have c2_3 : W1_.cell? ⟨U2.heap.size, 3, none⟩ = some (.int .u64 (wd3 x)) := k2.cell 3
    have l2 := k2.lt
    go_wp2_with fail
    clear c2_0 c2_1 c2_2 c2_3 l2
    obtain ⟨r1, hr1⟩ : ∃ o_o : Int, x / 1000000000000000000 = o_o := ⟨_, rfl⟩
    have Hr1 := Lib.hid hr1
    clear hr1
    obtain ⟨r2, hr2⟩ : ∃ o_o : Int, x % 1000000000000000000 = o_o := ⟨_, rfl⟩
    have Hr2 := Lib.hid hr2
    clear hr2
    refine (args_eq (a' := #[.agg #[.int .u64 (wd0 x), .int .u64 (wd1 x), .int .u64 (wd2 x), .int .u64 (wd3 x)], .agg #[.int .u64 1000000000000000000, .int .u64 0, .int .u64 0, .int .u64 0]]) (divided_v x 1000000000000000000 r1 r2 Hr1.out Hr2.out HI1.out.1.rg (by decide) _) (by kernel_rfl)).mono ?_
    rintro e U4 ⟨rfl, hn⟩
    replace k1 := k1.of hn
    replace k2 := k2.of hn
    replace hb0 := hb0.trans (hn.mono hb0.size)
    clear hn
    go_wp2_with fail
    first | refine calls_w ?_ | refine name_world ?_ | refine list_world ?_ | refine post_world ?_
    intro V5 hV5
    have D3 := Lib.hid k1.lt
    have D4 := Lib.hid k2.lt
    have D5 := Lib.hid hb0.size
    have hn : Below U4.heap.size U4 V5 := by rw [hV5]; exact below_a2 _ _ _
    have nk1 := k1.of hn
    have nk2 := k2.of hn
    have nhb0 := hb0.trans (hn.mono hb0.size)
    clear hn
    have k3 : Blk V5 U4.heap.size #[.int .u64 (wd0 r1), .int .u64 (wd1 r1), .int .u64 (wd2 r1), .int .u64 (wd3 r1)] 24 := by rw [hV5]; exact ((Blk.new _ _ _).alloc _)
    have k4 : Blk V5 (U4.heap.size + 1) #[.int .u64 (wd0 r2), .int .u64 (wd1 r2), .int .u64 (wd2 r2), .int .u64 (wd3 r2)] 24 := by rw [hV5]; exact (Blk.new1 _ _ _ _)
    clear k1 k2
    clear hb0
    clear hV5
    have k1 := nk1
    clear nk1
    have k2 := nk2
    clear nk2
    have hb0 := nhb0
    clear nhb0
    obtain ⟨y3, hy3⟩ : ∃ o_o : ByteArray, dgS r2 = o_o := ⟨_, rfl⟩
    have Hy3 := Lib.hid hy3
    clear hy3
    refine (fmtW r2 y3 Hy3.out (m18 HI1.out.1.rg Hr2.out) _ (hG.of hb0)).mono ?_
    rintro e U6 ⟨rfl, hn⟩
    replace k1 := k1.of hn
    replace k2 := k2.of hn
    replace k3 := k3.of hn
    replace k4 := k4.of hn
    replace hb0 := hb0.trans (hn.mono hb0.size)
    clear hn
    obtain ⟨z4, hz4⟩ : ∃ o_o : Bool, eq4 (wd0 r1) (wd1 r1) (wd2 r1) (wd3 r1) 0 0 0 0 = o_o := ⟨_, rfl⟩
    cases z4
    · have c3_0 : U6.cell? ⟨U4.heap.size, 0, none⟩ = some (.int .u64 (wd0 r1)) := k3.cell 0
      have c3_1 : U6.cell? ⟨U4.heap.size, 1, none⟩ = some (.int .u64 (wd1 r1)) := k3.cell 1
      have c3_2 : U6.cell? ⟨U4.heap.size, 2, none⟩ = some (.int .u64 (wd2 r1)) := k3.cell 2
      have c3_3 : U6.cell? ⟨U4.heap.size, 3, none⟩ = some (.int .u64 (wd3 r1)) := k3.cell 3
      have l3 := k3.lt
      go_wp2_with fail
      clear c3_0 c3_1 c3_2 c3_3 l3
      go_loopg [7] 18 (fun gk_ s2_0 wr => ∃ (p : ByteArray), s2_0 = .string p ∧ Hid (PdI r2 p ∧ 18 - p.size ≤ (gk_ : Nat)) ∧ Blk wr w.heap.size #[.int .u64 (wd0 a), .int .u64 (wd1 a), .int .u64 (wd2 a), .int .u64 (wd3 a)] 24 ∧ Blk wr U2.heap.size #[.int .u64 (wd0 x), .int .u64 (wd1 x), .int .u64 (wd2 x), .int .u64 (wd3 x)] 24 ∧ Blk wr U4.heap.size #[.int .u64 (wd0 r1), .int .u64 (wd1 r1), .int .u64 (wd2 r1), .int .u64 (wd3 r1)] 24 ∧ Blk wr (U4.heap.size + 1) #[.int .u64 (wd0 r2), .int .u64 (wd1 r2), .int .u64 (wd2 r2), .int .u64 (wd3 r2)] 24 ∧ Below w.heap.size w wr)
      case atStart =>
        have HIn : PdI r2 y3 ∧ 18 - y3.size ≤ (18 : Nat) := by
          exact ⟨PdI.begin (m18 HI1.out.1.rg Hr2.out) Hy3.out, by omega⟩
        exact ⟨y3, rfl, Lib.hid HIn, k1, k2, k3, k4, hb0⟩
      case round =>
        rename World => W2_
        rename Nat => gk2
        clear k1 k2 k3 k4
        clear hb0
        obtain ⟨p, rfl, HI2, k1, k2, k3, k4, hb0⟩ := hrel
        obtain ⟨z5, hz5⟩ : ∃ o_o : Bool, decide ((p.size : Int) < 18) = o_o := ⟨_, rfl⟩
        cases z5
        · go_wp2_with fail
          have c2_0 : W2_.cell? ⟨U2.heap.size, 0, none⟩ = some (.int .u64 (wd0 x)) := k2.cell 0
          have c2_1 : W2_.cell? ⟨U2.heap.size, 1, none⟩ = some (.int .u64 (wd1 x)) := k2.cell 1
          have c2_2 : W2_.cell? ⟨U2.heap.size, 2, none⟩ = some (.int .u64 (wd2 x)) := k2.cell 2
          have c2_3 : W2_.cell? ⟨U2.heap.size, 3, none⟩ = some (.int .u64 (wd3 x)) := k2.cell 3
          have f2_0 := k2.free 0
          have f2_1 := k2.free 1
          have f2_2 := k2.free 2
          have f2_3 := k2.free 3
          have l2 := k2.lt
          have c3_0 : W2_.cell? ⟨U4.heap.size, 0, none⟩ = some (.int .u64 (wd0 r1)) := k3.cell 0
          have c3_1 : W2_.cell? ⟨U4.heap.size, 1, none⟩ = some (.int .u64 (wd1 r1)) := k3.cell 1
          have c3_2 : W2_.cell? ⟨U4.heap.size, 2, none⟩ = some (.int .u64 (wd2 r1)) := k3.cell 2
          have c3_3 : W2_.cell? ⟨U4.heap.size, 3, none⟩ = some (.int .u64 (wd3 r1)) := k3.cell 3
          have l3 := k3.lt
          have ct0 : ¬ (p.size + s.size > 9223372036854775807) := (by (try simp only [ByteArray.size_append]); have i0_ : (ByteArray.mk #[48]).size = 1 := rfl; have i1_ : (ByteArray.mk #[45]).size = 1 := rfl; have i2_ : (ByteArray.mk #[]).size = 0 := rfl; have a1_ := TxI.sz HI1.out.1; have a3_ := dgS_sz Hy3.out (m18 HI1.out.1.rg Hr2.out); first | omega | (have a2_ := PdI.size HI2.out.1; omega))
          have p3_2 : U4.heap.size ≠ U2.heap.size := (by have := D4.out; omega)
          have Kk1 := Lib.hid k1
          clear k1
          have Kk2 := Lib.hid k2
          clear k2
          have Kk3 := Lib.hid k3
          clear k3
          have Kk4 := Lib.hid k4
          clear k4
          go_region
          first | refine name_q ?_ | refine lname_q ?_ | refine calls_w ?_ | refine name_world ?_ | refine list_world ?_ | refine post_world ?_
          intro U7 hU7
          clear c2_0 c2_1 c2_2 c2_3 f2_0 f2_1 f2_2 f2_3 l2 c3_0 c3_1 c3_2 c3_3 l3 ct0 p3_2
          have k1 : Blk U7 w.heap.size #[.int .u64 (wd0 a), .int .u64 (wd1 a), .int .u64 (wd2 a), .int .u64 (wd3 a)] 24 := by rw [hU7]; exact Blk.drew (blk_setL Kk1.out (by have := D1.out; omega) 0 [.int .u64 (wd0 r1), .int .u64 (wd1 r1), .int .u64 (wd2 r1), .int .u64 (wd3 r1)])
          clear Kk1
          have k2 : Blk U7 U2.heap.size #[.int .u64 (wd0 r1), .int .u64 (wd1 r1), .int .u64 (wd2 r1), .int .u64 (wd3 r1)] 24 := by rw [hU7]; exact Blk.drew (blk_full _ [.int .u64 (wd0 r1), .int .u64 (wd1 r1), .int .u64 (wd2 r1), .int .u64 (wd3 r1)] Kk2.out rfl)
          clear Kk2
          have k3 : Blk U7 U4.heap.size #[.int .u64 (wd0 r1), .int .u64 (wd1 r1), .int .u64 (wd2 r1), .int .u64 (wd3 r1)] 24 := by rw [hU7]; exact Blk.drew (blk_setL Kk3.out (by have := D4.out; omega) 0 [.int .u64 (wd0 r1), .int .u64 (wd1 r1), .int .u64 (wd2 r1), .int .u64 (wd3 r1)])
          clear Kk3
          have k4 : Blk U7 (U4.heap.size + 1) #[.int .u64 (wd0 r2), .int .u64 (wd1 r2), .int .u64 (wd2 r2), .int .u64 (wd3 r2)] 24 := by rw [hU7]; exact Blk.drew (blk_setL Kk4.out (by have := D4.out; omega) 0 [.int .u64 (wd0 r1), .int .u64 (wd1 r1), .int .u64 (wd2 r1), .int .u64 (wd3 r1)])
          clear Kk4
          replace hb0 : Below w.heap.size w U7 := by rw [hU7]; exact Below.drew (blw_setL hb0 (by have := D2.out; omega) 0 [.int .u64 (wd0 r1), .int .u64 (wd1 r1), .int .u64 (wd2 r1), .int .u64 (wd3 r1)])
          clear hU7
          go_wp2_with fail
          have HIn : TxI n0 r1 (p ++ s) ∧ r1 ≤ ((r1.toNat) : Int) := by
            exact ⟨HI1.out.1.next Hr1.out Hr2.out (mt (eq4_q hz4 HI1.out.1.rg Hr1.out).2 (by decide)) HI2.out.1 (of_decide_eq_false hz5), by omega⟩
          go_roundg (r1.toNat)
          case measure =>
            have q_ := Hr1.out
            have q1_ := HI1.out.1.rg
            have q2_ := HI1.out.2
            have q3_ := mt (eq4_q hz4 HI1.out.1.rg Hr1.out).2 (by decide)
            omega
          case rel => exact ⟨r1, (p ++ s), rfl, Lib.hid HIn, k1, k2, hb0⟩
        · have ct0 : ¬ ((ByteArray.mk #[48]).size + p.size > 9223372036854775807) := (by (try simp only [ByteArray.size_append]); have i0_ : (ByteArray.mk #[48]).size = 1 := rfl; have i1_ : (ByteArray.mk #[45]).size = 1 := rfl; have i2_ : (ByteArray.mk #[]).size = 0 := rfl; have a1_ := TxI.sz HI1.out.1; have a3_ := dgS_sz Hy3.out (m18 HI1.out.1.rg Hr2.out); first | omega | (have a2_ := PdI.size HI2.out.1; omega))
          go_wp2_with fail
          clear ct0
          have HIn : PdI r2 (⟨#[48]⟩ ++ p) ∧ 18 - (⟨#[48]⟩ ++ p).size ≤ ((18 - ((⟨#[48]⟩ ++ p)).size) : Nat) := by
            exact ⟨HI2.out.1.next (of_decide_eq_true hz5), by omega⟩
          go_roundg (18 - ((⟨#[48]⟩ ++ p)).size)
          case measure =>
            have q_ := of_decide_eq_true hz5
            have q2_ := HI2.out.2
            rw [ByteArray.size_append]
            have i0_ : (ByteArray.mk #[48]).size = 1 := rfl
            omega
          case rel => exact ⟨(⟨#[48]⟩ ++ p), rfl, Lib.hid HIn, k1, k2, k3, k4, hb0⟩
    · have c1_0 : U6.cell? ⟨w.heap.size, 0, none⟩ = some (.int .u64 (wd0 a)) := k1.cell 0
      have c1_1 : U6.cell? ⟨w.heap.size, 1, none⟩ = some (.int .u64 (wd1 a)) := k1.cell 1
      have c1_2 : U6.cell? ⟨w.heap.size, 2, none⟩ = some (.int .u64 (wd2 a)) := k1.cell 2
      have c1_3 : U6.cell? ⟨w.heap.size, 3, none⟩ = some (.int .u64 (wd3 a)) := k1.cell 3
      have l1 := k1.lt
      have c3_0 : U6.cell? ⟨U4.heap.size, 0, none⟩ = some (.int .u64 (wd0 r1)) := k3.cell 0
      have c3_1 : U6.cell? ⟨U4.heap.size, 1, none⟩ = some (.int .u64 (wd1 r1)) := k3.cell 1
      have c3_2 : U6.cell? ⟨U4.heap.size, 2, none⟩ = some (.int .u64 (wd2 r1)) := k3.cell 2
      have c3_3 : U6.cell? ⟨U4.heap.size, 3, none⟩ = some (.int .u64 (wd3 r1)) := k3.cell 3
      have l3 := k3.lt
      have ct0 : ¬ (y3.size + s.size > 9223372036854775807) := (by (try simp only [ByteArray.size_append]); have i0_ : (ByteArray.mk #[48]).size = 1 := rfl; have i1_ : (ByteArray.mk #[45]).size = 1 := rfl; have i2_ : (ByteArray.mk #[]).size = 0 := rfl; have a1_ := TxI.sz HI1.out.1; have a3_ := dgS_sz Hy3.out (m18 HI1.out.1.rg Hr2.out); first | omega | (have a2_ := PdI.size HI2.out.1; omega))
      go_wp2_with fail
      clear c1_0 c1_1 c1_2 c1_3 l1 c3_0 c3_1 c3_2 c3_3 l3 ct0
      obtain ⟨z6, hz6⟩ : ∃ o_o : Bool, nga a = o_o := ⟨_, rfl⟩
      have Hz6 := Lib.hid hz6
      clear hz6
      refine (ng_v a z6 Hz6.out _ia _).mono ?_
      rintro e U8 ⟨rfl, hn⟩
      clear k1 k2 k3 k4
      replace hb0 := hb0.trans (hn.mono hb0.size)
      clear hn
      cases z6
      · have e0 : (y3 ++ s) = R0 := by rw [← HR0.out]; (first | exact (itB_pos _ia HP0.out Hz6.out (HI1.out.1.fin Hr1.out Hr2.out ((eq4_q (z := true) hz4 HI1.out.1.rg Hr1.out).1 rfl) Hy3.out)) | exact (itB_neg _ia HP0.out Hz6.out (HI1.out.1.fin Hr1.out Hr2.out ((eq4_q (z := true) hz4 HI1.out.1.rg Hr1.out).1 rfl) Hy3.out)))
        subst e0
        go_wp2
        first | go_ret | go_ret2
        exact ⟨by first | rfl | simp, hb0⟩
      · have ct0 : ¬ ((ByteArray.mk #[45]).size + (y3 ++ s).size > 9223372036854775807) := (by (try simp only [ByteArray.size_append]); have i0_ : (ByteArray.mk #[48]).size = 1 := rfl; have i1_ : (ByteArray.mk #[45]).size = 1 := rfl; have i2_ : (ByteArray.mk #[]).size = 0 := rfl; have a1_ := TxI.sz HI1.out.1; have a3_ := dgS_sz Hy3.out (m18 HI1.out.1.rg Hr2.out); first | omega | (have a2_ := PdI.size HI2.out.1; omega))
        have e0 : (⟨#[45]⟩ ++ (y3 ++ s)) = R0 := by rw [← HR0.out]; (first | exact (itB_pos _ia HP0.out Hz6.out (HI1.out.1.fin Hr1.out Hr2.out ((eq4_q (z := true) hz4 HI1.out.1.rg Hr1.out).1 rfl) Hy3.out)) | exact (itB_neg _ia HP0.out Hz6.out (HI1.out.1.fin Hr1.out Hr2.out ((eq4_q (z := true) hz4 HI1.out.1.rg Hr1.out).1 rfl) Hy3.out)))
        subst e0
        go_wp2
        clear ct0
        first | go_ret | go_ret2
        exact ⟨by first | rfl | simp, hb0⟩
end Go.Proofs.YtcfiemeknocgjaaDoor

namespace Go.Proofs.YtcfiemeknocgjaaDoor
open Go.RowKit

theorem Text_v (a : Int) (y : ByteArray) (h : itB a = y) (ia : InI a) (w : World) (hG : Tab w) :
    Calls Tryd.prog 12 #[wI a] w fun e w' => e = .returned (.string y) ∧ Below w.heap.size w w' := Text_g a _ y h rfl (sz_abs ia).2 ia w hG

def stV (a : Int) (b : Bool) (n : Int) : Int := (bif b then (subv a n) else (addv a n))

def stK (a : Int) (b : Bool) (n : Int) : Bool := (bif b then (okI (a - n)) else (okI (a + n)))

set_option maxRecDepth 100000 in
set_option maxHeartbeats 4000000 in

theorem step_is (a : Int) (b : Bool) (n : Int)  (R0 : Int) (R1 : Bool) (hR0 : stV a b n = R0) (hR1 : stK a b n = R1) (_ia : InI a) (_in : In64 n)  (w : World)  :
    Calls Tryd.prog 37 #[.agg #[.int .u64 (wd0 a), .int .u64 (wd1 a), .int .u64 (wd2 a), .int .u64 (wd3 a)], .bool b, .int .i64 n] w fun e w' => e = .returned (.tuple #[.agg #[.int .u64 (wd0 R0), .int .u64 (wd1 R0), .int .u64 (wd2 R0), .int .u64 (wd3 R0)], .bool R1]) ∧ Below w.heap.size w w' := by

  have HR0 := Lib.hid hR0
  clear hR0
  have HR1 := Lib.hid hR1
  clear hR1
  cases b
  · go_enter Tryd.func37, Tryd.ntmps37
    go_wp2_with fail
    first | refine calls_w ?_ | refine name_world ?_ | refine list_world ?_ | refine post_world ?_
    intro V1 hV1
    have hn : Below w.heap.size w V1 := by rw [hV1]; exact below_a2 _ _ _
    have nhb0 := hn
    have k3 : Blk V1 w.heap.size #[.int .u64 (wd0 a), .int .u64 (wd1 a), .int .u64 (wd2 a), .int .u64 (wd3 a)] 24 := by rw [hV1]; exact ((Blk.new _ _ _).alloc _)
    have k4 : Blk V1 (w.heap.size + 1) #[.int .u64 0, .int .u64 0, .int .u64 0, .int .u64 0] 24 := by rw [hV1]; exact (Blk.new1 _ _ _ _)
    clear hV1
    have hb0 := nhb0
    clear nhb0
    obtain ⟨r1, hr1⟩ : ∃ o_o : Int, addv a n = o_o := ⟨_, rfl⟩
    have Hr1 := Lib.hid hr1
    clear hr1
    obtain ⟨z2, hz2⟩ : ∃ o_o : Bool, okI (a + n) = o_o := ⟨_, rfl⟩
    have Hz2 := Lib.hid hz2
    clear hz2
    have c3_0 : V1.cell? ⟨w.heap.size, 0, none⟩ = some (.int .u64 (wd0 a)) := k3.cell 0
    have c3_1 : V1.cell? ⟨w.heap.size, 1, none⟩ = some (.int .u64 (wd1 a)) := k3.cell 1
    have c3_2 : V1.cell? ⟨w.heap.size, 2, none⟩ = some (.int .u64 (wd2 a)) := k3.cell 2
    have c3_3 : V1.cell? ⟨w.heap.size, 3, none⟩ = some (.int .u64 (wd3 a)) := k3.cell 3
    have l3 := k3.lt
    have Kk3 := Lib.hid k3
    clear k3
    have Kk4 := Lib.hid k4
    clear k4
    refine wp_region_up V1.heap.size 6 [(true, 0), (true, 1), (false, 2), (false, 3), (true, 4), (true, 5)] (by kernel_rfl) (by kernel_rfl) (fun _ _ d _ _ h => by cases d <;> exact h) ?_
    have hb : Below V1.heap.size V1 V1.drew := (Below.refl _ _).drew
    iterate 2
      refine wpS_takeL rfl rfl ?_
      go_big_quiet_step (rfl)
      refine wpQuiet_nil ?_
    refine wpS_doL rfl ?_
    intro K hK
    go_wp2_with ((go_at_call 31; (with_reducible refine (Of_v n n rfl _in _).mono ?_); rintro e w2 ⟨rfl, hn⟩))
    replace hb := hb.trans (hn.mono hb.size)
    refine hK.out _ _ (up_iff.2 hb) ?_
    clear hK K
    clear hn
    refine wpS_doL rfl ?_
    intro K hK
    go_wp2_with ((go_at_call 53; (with_reducible refine (Add_v a n r1 z2 Hr1.out Hz2.out _ia (in64_I' _in) _).mono ?_); rintro e w2 ⟨rfl, hn⟩))
    replace hb := hb.trans (hn.mono hb.size)
    refine hK.out _ _ (up_iff.2 hb) ?_
    clear hK K
    clear hn
    iterate 2
      refine wpS_takeL rfl rfl ?_
      go_big_quiet_step (rfl)
      refine wpQuiet_nil ?_
    refine wpS_nil ?_
    simp only [List.drop_succ_cons, List.drop_zero]
    first | refine calls_w ?_ | refine name_world ?_ | refine list_world ?_ | refine post_world ?_
    intro U2 hU2
    first | (subst hU2; have u_ := U2; clear u_) | (rw [← hU2] at hb; clear hU2)
    clear c3_0 c3_1 c3_2 c3_3 l3
    have k3 := Kk3.out.of hb
    clear Kk3
    have k4 := Kk4.out.of hb
    clear Kk4
    replace hb0 := hb0.trans (hb.mono hb0.size)
    clear hb
    have c4_0 : U2.cell? ⟨(w.heap.size + 1), 0, none⟩ = some (.int .u64 0) := k4.cell 0
    have c4_1 : U2.cell? ⟨(w.heap.size + 1), 1, none⟩ = some (.int .u64 0) := k4.cell 1
    have c4_2 : U2.cell? ⟨(w.heap.size + 1), 2, none⟩ = some (.int .u64 0) := k4.cell 2
    have c4_3 : U2.cell? ⟨(w.heap.size + 1), 3, none⟩ = some (.int .u64 0) := k4.cell 3
    have f4_0 := k4.free 0
    have f4_1 := k4.free 1
    have f4_2 := k4.free 2
    have f4_3 := k4.free 3
    have l4 := k4.lt
    have e0 : r1 = R0 := by rw [← HR0.out]; unfold stV; (try rw [Hr1.out]); (try rw [Hz2.out]); all_goals first | rfl | simp
    have e1 : z2 = R1 := by rw [← HR1.out]; unfold stK; (try rw [Hr1.out]); (try rw [Hz2.out]); all_goals first | rfl | simp
    subst e0
    subst e1
    go_wp2
    clear c4_0 c4_1 c4_2 c4_3 f4_0 f4_1 f4_2 f4_3 l4
    first | refine post_world ?_
    intro V3 hV3
    clear k3
    have D1 := Lib.hid k4.lt
    have D2 := Lib.hid hb0.size
    have nk4 : Blk V3 (w.heap.size + 1) #[.int .u64 (wd0 r1), .int .u64 (wd1 r1), .int .u64 (wd2 r1), .int .u64 (wd3 r1)] 24 := by rw [hV3]; exact (blk_full _ [.int .u64 (wd0 r1), .int .u64 (wd1 r1), .int .u64 (wd2 r1), .int .u64 (wd3 r1)] k4 rfl)
    have nhb0 : Below w.heap.size w V3 := by rw [hV3]; exact (blw_setL hb0 (by omega) 0 [.int .u64 (wd0 r1), .int .u64 (wd1 r1), .int .u64 (wd2 r1), .int .u64 (wd3 r1)])
    clear k4
    clear hb0
    clear hV3
    have k4 := nk4
    clear nk4
    have hb0 := nhb0
    clear nhb0
    have g4_0 : V3.cell? ⟨(w.heap.size + 1), 0, none⟩ = some (.int .u64 (wd0 r1)) := k4.cell 0
    have g4_1 : V3.cell? ⟨(w.heap.size + 1), 1, none⟩ = some (.int .u64 (wd1 r1)) := k4.cell 1
    have g4_2 : V3.cell? ⟨(w.heap.size + 1), 2, none⟩ = some (.int .u64 (wd2 r1)) := k4.cell 2
    have g4_3 : V3.cell? ⟨(w.heap.size + 1), 3, none⟩ = some (.int .u64 (wd3 r1)) := k4.cell 3
    clear k4
    simp [bodyPost, results, Tryd.results37, go_sem, g4_0, g4_1, g4_2, g4_3]
    first | exact hb0 | exact ⟨rfl, hb0⟩
  · go_enter Tryd.func37, Tryd.ntmps37
    go_wp2_with fail
    first | refine calls_w ?_ | refine name_world ?_ | refine list_world ?_ | refine post_world ?_
    intro V4 hV4
    have hn : Below w.heap.size w V4 := by rw [hV4]; exact below_a2 _ _ _
    have nhb0 := hn
    have k5 : Blk V4 w.heap.size #[.int .u64 (wd0 a), .int .u64 (wd1 a), .int .u64 (wd2 a), .int .u64 (wd3 a)] 24 := by rw [hV4]; exact ((Blk.new _ _ _).alloc _)
    have k6 : Blk V4 (w.heap.size + 1) #[.int .u64 0, .int .u64 0, .int .u64 0, .int .u64 0] 24 := by rw [hV4]; exact (Blk.new1 _ _ _ _)
    clear hV4
    have hb0 := nhb0
    clear nhb0
    obtain ⟨r3, hr3⟩ : ∃ o_o : Int, subv a n = o_o := ⟨_, rfl⟩
    have Hr3 := Lib.hid hr3
    clear hr3
    obtain ⟨z4, hz4⟩ : ∃ o_o : Bool, okI (a - n) = o_o := ⟨_, rfl⟩
    have Hz4 := Lib.hid hz4
    clear hz4
    have c5_0 : V4.cell? ⟨w.heap.size, 0, none⟩ = some (.int .u64 (wd0 a)) := k5.cell 0
    have c5_1 : V4.cell? ⟨w.heap.size, 1, none⟩ = some (.int .u64 (wd1 a)) := k5.cell 1
    have c5_2 : V4.cell? ⟨w.heap.size, 2, none⟩ = some (.int .u64 (wd2 a)) := k5.cell 2
    have c5_3 : V4.cell? ⟨w.heap.size, 3, none⟩ = some (.int .u64 (wd3 a)) := k5.cell 3
    have l5 := k5.lt
    have Kk5 := Lib.hid k5
    clear k5
    have Kk6 := Lib.hid k6
    clear k6
    refine wp_region_up V4.heap.size 6 [(true, 0), (true, 1), (false, 2), (false, 3), (true, 4), (true, 5)] (by kernel_rfl) (by kernel_rfl) (fun _ _ d _ _ h => by cases d <;> exact h) ?_
    have hb : Below V4.heap.size V4 V4.drew := (Below.refl _ _).drew
    iterate 2
      refine wpS_takeL rfl rfl ?_
      go_big_quiet_step (rfl)
      refine wpQuiet_nil ?_
    refine wpS_doL rfl ?_
    intro K hK
    go_wp2_with ((go_at_call 31; (with_reducible refine (Of_v n n rfl _in _).mono ?_); rintro e w2 ⟨rfl, hn⟩))
    replace hb := hb.trans (hn.mono hb.size)
    refine hK.out _ _ (up_iff.2 hb) ?_
    clear hK K
    clear hn
    refine wpS_doL rfl ?_
    intro K hK
    go_wp2_with ((go_at_call 52; (with_reducible refine (Sub_v a n r3 z4 Hr3.out Hz4.out _ia (in64_I' _in) _).mono ?_); rintro e w2 ⟨rfl, hn⟩))
    replace hb := hb.trans (hn.mono hb.size)
    refine hK.out _ _ (up_iff.2 hb) ?_
    clear hK K
    clear hn
    iterate 2
      refine wpS_takeL rfl rfl ?_
      go_big_quiet_step (rfl)
      refine wpQuiet_nil ?_
    refine wpS_nil ?_
    simp only [List.drop_succ_cons, List.drop_zero]
    first | refine calls_w ?_ | refine name_world ?_ | refine list_world ?_ | refine post_world ?_
    intro U5 hU5
    first | (subst hU5; have u_ := U5; clear u_) | (rw [← hU5] at hb; clear hU5)
    clear c5_0 c5_1 c5_2 c5_3 l5
    have k5 := Kk5.out.of hb
    clear Kk5
    have k6 := Kk6.out.of hb
    clear Kk6
    replace hb0 := hb0.trans (hb.mono hb0.size)
    clear hb
    have c6_0 : U5.cell? ⟨(w.heap.size + 1), 0, none⟩ = some (.int .u64 0) := k6.cell 0
    have c6_1 : U5.cell? ⟨(w.heap.size + 1), 1, none⟩ = some (.int .u64 0) := k6.cell 1
    have c6_2 : U5.cell? ⟨(w.heap.size + 1), 2, none⟩ = some (.int .u64 0) := k6.cell 2
    have c6_3 : U5.cell? ⟨(w.heap.size + 1), 3, none⟩ = some (.int .u64 0) := k6.cell 3
    have f6_0 := k6.free 0
    have f6_1 := k6.free 1
    have f6_2 := k6.free 2
    have f6_3 := k6.free 3
    have l6 := k6.lt
    have e0 : r3 = R0 := by rw [← HR0.out]; unfold stV; (try rw [Hr3.out]); (try rw [Hz4.out]); all_goals first | rfl | simp
    have e1 : z4 = R1 := by rw [← HR1.out]; unfold stK; (try rw [Hr3.out]); (try rw [Hz4.out]); all_goals first | rfl | simp
    subst e0
    subst e1
    go_wp2
    clear c6_0 c6_1 c6_2 c6_3 f6_0 f6_1 f6_2 f6_3 l6
    first | refine post_world ?_
    intro V6 hV6
    have D3 := Lib.hid k5.lt
    have D4 := Lib.hid k6.lt
    have D5 := Lib.hid hb0.size
    clear k5
    have nk6 : Blk V6 (w.heap.size + 1) #[.int .u64 (wd0 r3), .int .u64 (wd1 r3), .int .u64 (wd2 r3), .int .u64 (wd3 r3)] 24 := by rw [hV6]; exact (blk_full _ [.int .u64 (wd0 r3), .int .u64 (wd1 r3), .int .u64 (wd2 r3), .int .u64 (wd3 r3)] k6 rfl)
    have nhb0 : Below w.heap.size w V6 := by rw [hV6]; exact (blw_setL hb0 (by omega) 0 [.int .u64 (wd0 r3), .int .u64 (wd1 r3), .int .u64 (wd2 r3), .int .u64 (wd3 r3)])
    clear k6
    clear hb0
    clear hV6
    have k6 := nk6
    clear nk6
    have hb0 := nhb0
    clear nhb0
    have g6_0 : V6.cell? ⟨(w.heap.size + 1), 0, none⟩ = some (.int .u64 (wd0 r3)) := k6.cell 0
    have g6_1 : V6.cell? ⟨(w.heap.size + 1), 1, none⟩ = some (.int .u64 (wd1 r3)) := k6.cell 1
    have g6_2 : V6.cell? ⟨(w.heap.size + 1), 2, none⟩ = some (.int .u64 (wd2 r3)) := k6.cell 2
    have g6_3 : V6.cell? ⟨(w.heap.size + 1), 3, none⟩ = some (.int .u64 (wd3 r3)) := k6.cell 3
    clear k6
    simp [bodyPost, results, Tryd.results37, go_sem, g6_0, g6_1, g6_2, g6_3]
    first | exact hb0 | exact ⟨rfl, hb0⟩

abbrev bl (s : ByteArray) : List UInt8 := s.data.toList
/-- a byte -/
def chI (s : ByteArray) (i : Int) : Int := (((bl s).getD i.toNat 0).toNat : Int)
theorem ch_v (s : ByteArray) (i x : Int) (h : chI s i = x) : ∀ hi : i.toNat < s.size, ((s[i.toNat]'hi).toNat : Int) = x := by
  intro hi
  rw [← h]; unfold chI bl
  have e : s[i.toNat]'hi = s.data.toList.getD i.toNat 0 := by
    rw [List.getD_eq_getElem?_getD, Array.getElem?_toList, Array.getElem?_eq_getElem hi]; rfl
  rw [e]
theorem u8_64 (x : Int) : In64 (x % 256) := by unfold In64; omega
theorem bl_len (s : ByteArray) : (bl s).length = s.size := (ba_size s).symm
theorem ch_get {s : ByteArray} {i : Int} {x : Int} (h : chI s i = x) (h0 : 0 ≤ i ∧ i < (s.size : Int)) : ∃ c : UInt8, (bl s)[i.toNat]? = some c ∧ (c.toNat : Int) = x := by
  have hi : i.toNat < (bl s).length := by rw [bl_len]; omega
  refine ⟨(bl s)[i.toNat], List.getElem?_eq_getElem hi, ?_⟩
  rw [← h]; unfold chI
  rw [List.getD_eq_getElem?_getD, List.getElem?_eq_getElem hi]; rfl
def pvB (s : ByteArray) : Int := pv (bl s) (bl s).length
def prsK (s : ByteArray) : Bool := okI (pvB s) && (Lib.itoa (pvB s) == bl s)
def prsV (s : ByteArray) : Int := bif prsK s then pvB s else 0
theorem pvB_is {s : ByteArray} {v : Int} (h : Lib.itoa v = bl s) : pvB s = v := by
  unfold pvB; rw [pv_all _ _ (Nat.le_refl _), ← h]; exact itoa_val v
theorem prsK_is {s : ByteArray} (h : prsK s = true) : InI (pvB s) ∧ Lib.itoa (pvB s) = bl s := by
  unfold prsK at h
  rw [Bool.and_eq_true] at h
  exact ⟨by have := h.1; unfold okI at this; exact of_decide_eq_true this, by simpa using h.2⟩
theorem prsK_of {s : ByteArray} {v : Int} (h : Lib.itoa v = bl s) (iv : InI v) : prsK s = true := by
  unfold prsK; rw [pvB_is h, h]
  unfold okI; rw [decide_eq_true iv]; simp
theorem nof {s : ByteArray} (h : ¬ prsK s = true) : prsK s = false := by simpa using h
/-- where the loop of Parse stands -/
def PaI (s : ByteArray) (a : Int) (ok : Bool) (i : Int) : Prop := 0 ≤ i ∧ i ≤ s.size ∧ InI a ∧ (ok = true → a = pv (bl s) i.toNat) ∧ (ok = false → prsK s = false)
theorem PaI.ia {s : ByteArray} {a i : Int} {ok : Bool} (h : PaI s a ok i) : InI a := h.2.2.1
theorem PaI.ix {s : ByteArray} {a i : Int} {ok : Bool} (h : PaI s a ok i) (g : i < (s.size : Int)) : 0 ≤ i ∧ i < (s.size : Int) := ⟨h.1, g⟩
theorem PaI.i0 {s : ByteArray} {a i : Int} {ok : Bool} (h : PaI s a ok i) (g : i < (s.size : Int)) : (0 : Int) ≤ 0 ∧ 0 < (s.size : Int) := ⟨by omega, by have := h.1; omega⟩
theorem PaI.w {s : ByteArray} {a i : Int} {ok : Bool} (h : PaI s a ok i) (g : i < (s.size : Int)) (hs : (s.size : Int) ≤ 144) : wrap64 (i + 1) = i + 1 := by have := h.1; exact wrap64_id (by unfold In64; omega)
theorem neg_ch {s : ByteArray} {x : Int} (h : chI s 0 = x) (h0 : 0 < (s.size : Int)) : neg? (bl s) = decide (x = 45) := by
  obtain ⟨c, hc, e⟩ := ch_get h ⟨by omega, h0⟩
  unfold neg?
  rw [List.head?_eq_getElem?, show (bl s)[0]? = some c from hc, ← e]
  rw [Bool.eq_iff_iff, decide_eq_true_iff]
  constructor
  · intro g
    have : c = 45 := by simpa using g
    rw [this]; rfl
  · intro g
    have : c = 45 := UInt8.toNat_inj.1 (by show c.toNat = 45; omega)
    rw [this]; rfl
/-- between 0 and v -/
def Btw (x v : Int) : Prop := (0 ≤ x ∧ x ≤ v) ∨ (v ≤ x ∧ x ≤ 0)
theorem Btw.i {x v : Int} (h : Btw x v) (iv : InI v) : InI x := by unfold Btw at h; unfold InI b255 at *; omega
theorem pv_btw (v : Int) (i : Nat) : Btw (pv (Lib.itoa v) i) v := by
  have h := pv_le v i
  have hs : (neg? (Lib.itoa v) = true → pv (Lib.itoa v) i ≤ 0) ∧ (neg? (Lib.itoa v) = false → 0 ≤ pv (Lib.itoa v) i) := by
    unfold pv sgv
    constructor
    · intro g; rw [g, cond_true]; omega
    · intro g; rw [g, cond_false]; omega
  rw [itoa_neg?] at hs
  unfold Btw
  by_cases g : v < 0
  · have := hs.1 (decide_eq_true g); omega
  · have := hs.2 (decide_eq_false g); omega
/-- one digit more -/
structure DgStep (s : ByteArray) (a i x d : Int) (m : Bool) : Prop where
  me : m = neg? (bl s)
  fr : from? (bl s) ≤ i.toNat
  nx : pv (bl s) (i + 1).toNat = (bif m then a * 10 - d else a * 10 + d)
  d0 : 0 ≤ d ∧ d ≤ 9
  sg : (m = true → a ≤ 0) ∧ (m = false → 0 ≤ a)
theorem dg_step {s : ByteArray} {a i x d y : Int} (h : PaI s a true i) (g : i < (s.size : Int)) (hx : chI s i = x) (hy : chI s 0 = y) (x0 : 48 ≤ x) (x1 : x ≤ 57) (hd : (x - 48) % 256 = d) : DgStep s a i x d (decide (y = 45)) := by
  have hm := neg_ch hy (h.i0 g).2
  obtain ⟨h0, h1, h2, h3, h4⟩ := h
  obtain ⟨c, hc, e⟩ := ch_get hx ⟨h0, g⟩
  have hD : isD c = true := (isD_iff c).2 (by omega)
  have hfr : from? (bl s) ≤ i.toNat := by
    unfold from?
    rw [hm]
    by_cases q : i = 0
    · subst q
      have : y = x := hy.symm.trans hx
      rw [decide_eq_false (by omega)]; exact Nat.zero_le _
    · cases decide (y = 45)
      · exact Nat.zero_le _
      · show 1 ≤ i.toNat; omega
  have hp := pv_step hfr hc hD
  have ha := h3 rfl
  have e1 : (i + 1).toNat = i.toNat + 1 := by omega
  refine ⟨hm.symm, hfr, ?_, by omega, ?_⟩
  · rw [e1, hp, ha]
    unfold pv sgv
    rw [hm]
    cases decide (y = 45)
    · rw [cond_false, cond_false, cond_false]; omega
    · rw [cond_true, cond_true, cond_true]; omega
  · rw [ha]
    unfold pv sgv
    rw [hm]
    constructor
    · intro q; rw [q, cond_true]; omega
    · intro q; rw [q, cond_false]; omega
theorem dg_btw {s : ByteArray} {a i x d : Int} {m : Bool} (h : DgStep s a i x d m) (hk : prsK s = true) : InI (a * 10) ∧ InI (pv (bl s) (i + 1).toNat) := by
  obtain ⟨iv, hs⟩ := prsK_is hk
  have b := pv_btw (pvB s) (i + 1).toNat
  rw [hs] at b
  refine ⟨?_, b.i iv⟩
  obtain ⟨_, _, nx, d0, sg⟩ := h
  have b2 : Btw (a * 10) (pv (bl s) (i + 1).toNat) := by
    rw [nx]
    unfold Btw
    cases m
    · rw [cond_false]; have := sg.2 rfl; omega
    · rw [cond_true]; have := sg.1 rfl; omega
  exact b2.i (b.i iv)
theorem PaI.begin (s : ByteArray) (ok : Bool) (h : ok = false → prsK s = false) : PaI s 0 ok 0 := ⟨by omega, by omega, by unfold InI b255; omega, fun _ => (pv_zero _).symm, h⟩
/-- a product that is too great -/
theorem PaI.mulF {s : ByteArray} {a i x y p : Int} (h : PaI s a true i) (g : i < (s.size : Int)) (hx : chI s i = x) (hy : chI s 0 = y) (x0 : 48 ≤ x) (x1 : x ≤ 57) (ok : okI (a * 10) = false) (e : mulv a 10 = p) : PaI s p false (i + 1) := by
  have S := dg_step h g hx hy x0 x1 rfl
  refine ⟨by have := h.1; omega, by omega, by rw [← e]; exact mulv_in _ _, (fun q => by cases q), fun _ => nof fun hk => ?_⟩
  have := (dg_btw S hk).1
  unfold okI at ok
  exact of_decide_eq_false ok this
theorem PaI.stp {s : ByteArray} {a i x d y p q : Int} {k : Bool} (h : PaI s a true i) (g : i < (s.size : Int)) (hx : chI s i = x) (hy : chI s 0 = y) (x0 : 48 ≤ x) (x1 : x ≤ 57) (hd : (x - 48) % 256 = d) (ok : okI (a * 10) = true) (e : mulv a 10 = p)
    (m : Bool) (hm : decide (y = 45) = m) (eq : stV p m d = q) (ek : stK p m d = k) : PaI s q k (i + 1) := by
  have S := dg_step h g hx hy x0 x1 hd
  rw [hm] at S
  have ep : p = a * 10 := (mulv_okb ok e).symm
  have iq : InI q := by
    rw [← eq]
    unfold stV
    cases m
    · exact addv_in _ _
    · exact subv_in _ _
  have key : k = okI (pv (bl s) (i + 1).toNat) ∧ (k = true → q = pv (bl s) (i + 1).toNat) := by
    rw [S.nx, ← eq, ← ek, ep]
    unfold stV stK
    cases m
    · refine ⟨rfl, fun r => ?_⟩
      show addv _ _ = _
      unfold addv; rw [show okI (a * 10 + d) = true from r]; rfl
    · refine ⟨rfl, fun r => ?_⟩
      show subv _ _ = _
      unfold subv; rw [show okI (a * 10 - d) = true from r]; rfl
  refine ⟨by have := h.1; omega, by omega, iq, key.2, fun r => nof fun hk => ?_⟩
  have := (dg_btw S hk).2
  rw [r] at key
  have k1 := key.1
  unfold okI at k1
  exact of_decide_eq_false k1.symm this
/-- what is no digit -/
theorem PaI.badF {s : ByteArray} {a i x : Int} (h : PaI s a true i) (g : i < (s.size : Int)) (hx : chI s i = x) (hn : ¬ (48 ≤ x ∧ x ≤ 57)) (hm : ¬ x = 45 ∨ 0 < i) : PaI s a false (i + 1) := by
  refine ⟨by have := h.1; omega, by omega, h.ia, (fun q => by cases q), fun _ => nof fun hk => ?_⟩
  obtain ⟨iv, hs⟩ := prsK_is hk
  obtain ⟨c, hc, e⟩ := ch_get hx ⟨h.1, g⟩
  have hd := (itoa_DigS (pvB s)).2.2
  rw [hs] at hd
  by_cases q : from? (bl s) ≤ i.toNat
  · obtain ⟨c', hc', hD⟩ := hd i.toNat q (by have := h.1; rw [bl_len]; omega)
    rw [hc] at hc'
    obtain rfl := Option.some.inj hc'
    have := (isD_iff c).1 hD
    omega
  · have hi : i = 0 := by
      have : from? (bl s) ≤ 1 := by unfold from?; cases neg? (bl s) <;> decide
      have := h.1; omega
    subst hi
    have hn1 : neg? (bl s) = true := by
      unfold from? at q
      cases z : neg? (bl s)
      · rw [z] at q; exact absurd (Nat.zero_le _) q
      · rfl
    rw [neg_ch hx g] at hn1
    have := of_decide_eq_true hn1
    omega
theorem PaI.sign {s : ByteArray} {a i x : Int} (h : PaI s a true i) (g : i < (s.size : Int)) (hx : chI s i = x) (hm : x = 45) (hi : ¬ 0 < i) : PaI s a true (i + 1) := by
  obtain ⟨h0, h1, h2, h3, h4⟩ := h
  obtain rfl : i = 0 := by omega
  have hn1 : neg? (bl s) = true := by rw [neg_ch hx g]; exact decide_eq_true hm
  refine ⟨by omega, by omega, h2, fun _ => ?_, fun q => by cases q⟩
  rw [h3 rfl]
  show pv (bl s) 0 = pv (bl s) 1
  rw [pv_zero, pv_skip hn1]
theorem PaI.fin {s : ByteArray} {a i : Int} {y : ByteArray} {z : Bool} (h : PaI s a true i) (g : ¬ i < (s.size : Int)) (hy : itB a = y) (hz : (y.toList == s.toList) = z) : prsK s = z ∧ (z = true → prsV s = a) := by
  obtain ⟨h0, h1, h2, h3, h4⟩ := h
  have ha : a = pvB s := by
    rw [h3 rfl]; unfold pvB
    rw [show i.toNat = (bl s).length by rw [bl_len]; omega]
  rw [ByteArray.toList_eq, ByteArray.toList_eq, ← hy] at hz
  have e1 : prsK s = z := by
    rw [← hz]
    unfold prsK
    rw [← ha]
    have : okI a = true := decide_eq_true h2
    rw [this, Bool.true_and]
    rfl
  refine ⟨e1, fun q => ?_⟩
  unfold prsV; rw [e1, q, ← ha]; rfl
theorem prs_zero {s : ByteArray} (h : prsK s = false) : prsV s = 0 := by unfold prsV; rw [h]; rfl
theorem prs_empty {s : ByteArray} (h : s.toList.isEmpty = true) : prsK s = false := nof fun hk => by
  have hs := (prsK_is hk).2
  have e : s.toList = [] := List.isEmpty_iff.1 h
  rw [ByteArray.toList_eq] at e
  have d := (itoa_DigS (pvB s)).1
  rw [hs] at d
  have : (bl s).length = 0 := by rw [show bl s = _ from e]; rfl
  omega
def kpV (x : Int) (k : Bool) : Int := bif k then x else 0

theorem kp_fin {s : ByteArray} {a : Int} {z : Bool} (h : prsK s = z ∧ (z = true → prsV s = a)) : kpV a z = prsV s := by
  cases z
  · exact (prs_zero h.1).symm
  · exact (h.2 rfl).symm
theorem kept_v (x : Int) (k : Bool) (v : Int) (h : kpV x k = v) (w : World) : Calls Tryd.prog 38 #[wI x, .bool k] w fun e w' => e = .returned (.tuple #[wI v, .bool k]) ∧ Below w.heap.size w w' := h ▸ kept_any x k w
end Go.Proofs.YtcfiemeknocgjaaDoor

namespace Go.Proofs.YtcfiemeknocgjaaDoor
open Go.RowKit

set_option maxRecDepth 100000 in
set_option maxHeartbeats 4000000 in

theorem Parse_g (s : ByteArray)  (R0 : Int) (R1 : Bool) (hR0 : prsV s = R0) (hR1 : prsK s = R1) (hP0 : decide ((s.size : Int) ≤ 144) = true) (_sz : Hid ((s.size : Int) ≤ 144))  (w : World) (hG : Tab w) :
    Calls Tryd.prog 13 #[.string s] w fun e w' => e = .returned (.tuple #[.agg #[.int .u64 (wd0 R0), .int .u64 (wd1 R0), .int .u64 (wd2 R0), .int .u64 (wd3 R0)], .bool R1]) ∧ Below w.heap.size w w' := by

  have HR0 := Lib.hid hR0
  clear hR0
  have HR1 := Lib.hid hR1
  clear hR1
  go_enter Tryd.func13, Tryd.ntmps13
  go_wp2_with fail
  first | refine name_world ?_
  intro V1 hV1
  have hn : Below w.heap.size w V1 := by rw [hV1]; exact below_a2 _ _ _
  have nhb0 := hn
  have k1 : Blk V1 w.heap.size #[.int .u64 0, .int .u64 0, .int .u64 0, .int .u64 0] 24 := by rw [hV1]; exact ((Blk.new _ _ _).alloc _)
  have k2 : Blk V1 (w.heap.size + 1) #[.int .u64 0, .int .u64 0, .int .u64 0, .int .u64 0] 24 := by rw [hV1]; exact (Blk.new1 _ _ _ _)
  clear hV1
  have hb0 := nhb0
  clear nhb0
  go_loopg [5, 6] (s.size) (fun gk_ s1_0 s1_1 wr => ∃ (a : Int) (ok : Bool) (i : Int), s1_0 = .bool ok ∧ s1_1 = .int .i64 i ∧ Hid (PaI s a ok i ∧ s.size - i ≤ (gk_ : Int)) ∧ Blk wr w.heap.size #[.int .u64 0, .int .u64 0, .int .u64 0, .int .u64 0] 24 ∧ Blk wr (w.heap.size + 1) #[.int .u64 (wd0 a), .int .u64 (wd1 a), .int .u64 (wd2 a), .int .u64 (wd3 a)] 24 ∧ Below w.heap.size w wr)
  case atStart =>
    have HIn : PaI s 0 (!s.toList.isEmpty) 0 ∧ s.size - 0 ≤ ((s.size) : Int) := by
      exact ⟨PaI.begin s _ (fun h => prs_empty (by simpa using h)), by omega⟩
    exact ⟨0, (!s.toList.isEmpty), 0, rfl, rfl, Lib.hid HIn, k1, (blk_eq k2 (by kernel_rfl)), hb0⟩
  case round =>
    rename World => W1_
    rename Nat => gk1
    clear k1 k2
    clear hb0
    obtain ⟨a, ok, i, rfl, rfl, HI1, k1, k2, hb0⟩ := hrel
    cases ok
    · go_wp2_with fail
      obtain ⟨r1, hr1⟩ : ∃ o_o : Int, kpV a false = o_o := ⟨_, rfl⟩
      have Hr1 := Lib.hid hr1
      clear hr1
      have c2_0 : W1_.cell? ⟨(w.heap.size + 1), 0, none⟩ = some (.int .u64 (wd0 a)) := k2.cell 0
      have c2_1 : W1_.cell? ⟨(w.heap.size + 1), 1, none⟩ = some (.int .u64 (wd1 a)) := k2.cell 1
      have c2_2 : W1_.cell? ⟨(w.heap.size + 1), 2, none⟩ = some (.int .u64 (wd2 a)) := k2.cell 2
      have c2_3 : W1_.cell? ⟨(w.heap.size + 1), 3, none⟩ = some (.int .u64 (wd3 a)) := k2.cell 3
      have l2 := k2.lt
      have Kk1 := Lib.hid k1
      clear k1
      have Kk2 := Lib.hid k2
      clear k2
      refine wp_region_up W1_.heap.size 11 [(true, 0), (true, 1), (true, 2), (true, 3), (true, 5), (false, 4), (true, 6), (true, 7), (false, 8), (true, 9), (true, 10)] (by kernel_rfl) (by kernel_rfl) (fun _ _ d _ _ h => by cases d <;> exact h) ?_
      have hb : Below W1_.heap.size W1_ W1_.drew := (Below.refl _ _).drew
      iterate 5
        refine wpS_takeL rfl rfl ?_
        go_big_quiet_step (rfl)
        refine wpQuiet_nil ?_
      refine wpS_doL rfl ?_
      intro K hK
      go_wp2_with ((go_at_call 38; (with_reducible refine (kept_v a false r1 Hr1.out _).mono ?_); rintro e w2 ⟨rfl, hn⟩))
      try replace hb := hb.trans (hn.mono hb.size)
      refine hK.out _ _ (up_iff.2 hb) ?_
      clear hK K
      try clear hn
      iterate 2
        refine wpS_takeL rfl rfl ?_
        go_big_quiet_step (rfl)
        refine wpQuiet_nil ?_
      refine wpS_doL rfl ?_
      intro K hK
      go_wp2_with ((go_at_call 38; (with_reducible refine (kept_v a false r1 Hr1.out _).mono ?_); rintro e w2 ⟨rfl, hn⟩))
      replace hb := hb.trans (hn.mono hb.size)
      refine hK.out _ _ (up_iff.2 hb) ?_
      clear hK K
      clear hn
      iterate 2
        refine wpS_takeL rfl rfl ?_
        go_big_quiet_step (rfl)
        refine wpQuiet_nil ?_
      refine wpS_nil ?_
      simp only [List.drop_succ_cons, List.drop_zero]
      first | refine calls_w ?_ | refine name_world ?_ | refine list_world ?_ | refine post_world ?_
      intro U2 hU2
      first | (subst hU2; have u_ := U2; clear u_) | (rw [← hU2] at hb; clear hU2)
      clear c2_0 c2_1 c2_2 c2_3 l2
      have k1 := Kk1.out.of hb
      clear Kk1
      have k2 := Kk2.out.of hb
      clear Kk2
      replace hb0 := hb0.trans (hb.mono hb0.size)
      clear hb
      have c1_0 : U2.cell? ⟨w.heap.size, 0, none⟩ = some (.int .u64 0) := k1.cell 0
      have c1_1 : U2.cell? ⟨w.heap.size, 1, none⟩ = some (.int .u64 0) := k1.cell 1
      have c1_2 : U2.cell? ⟨w.heap.size, 2, none⟩ = some (.int .u64 0) := k1.cell 2
      have c1_3 : U2.cell? ⟨w.heap.size, 3, none⟩ = some (.int .u64 0) := k1.cell 3
      have f1_0 := k1.free 0
      have f1_1 := k1.free 1
      have f1_2 := k1.free 2
      have f1_3 := k1.free 3
      have l1 := k1.lt
      have e0 : r1 = R0 := by rw [← HR0.out]; (rw [← Hr1.out]; exact (prs_zero (HI1.out.1.2.2.2.2 rfl)).symm)
      have e1 : false = R1 := by rw [← HR1.out]; (exact (HI1.out.1.2.2.2.2 rfl).symm)
      subst e0
      subst e1
      go_wp2
      clear c1_0 c1_1 c1_2 c1_3 f1_0 f1_1 f1_2 f1_3 l1
      first | refine post_world ?_
      intro V3 hV3
      clear k2
      have D1 := Lib.hid k1.lt
      have D2 := Lib.hid hb0.size
      have nk1 : Blk V3 w.heap.size #[.int .u64 (wd0 r1), .int .u64 (wd1 r1), .int .u64 (wd2 r1), .int .u64 (wd3 r1)] 24 := by rw [hV3]; exact (blk_full _ [.int .u64 (wd0 r1), .int .u64 (wd1 r1), .int .u64 (wd2 r1), .int .u64 (wd3 r1)] k1 rfl)
      have nhb0 : Below w.heap.size w V3 := by rw [hV3]; exact (blw_setL hb0 (by omega) 0 [.int .u64 (wd0 r1), .int .u64 (wd1 r1), .int .u64 (wd2 r1), .int .u64 (wd3 r1)])
      clear k1
      clear hb0
      clear hV3
      have k1 := nk1
      clear nk1
      have hb0 := nhb0
      clear nhb0
      have g1_0 : V3.cell? ⟨w.heap.size, 0, none⟩ = some (.int .u64 (wd0 r1)) := k1.cell 0
      have g1_1 : V3.cell? ⟨w.heap.size, 1, none⟩ = some (.int .u64 (wd1 r1)) := k1.cell 1
      have g1_2 : V3.cell? ⟨w.heap.size, 2, none⟩ = some (.int .u64 (wd2 r1)) := k1.cell 2
      have g1_3 : V3.cell? ⟨w.heap.size, 3, none⟩ = some (.int .u64 (wd3 r1)) := k1.cell 3
      clear k1
      simp [bodyPost, results, Tryd.results13, go_sem, g1_0, g1_1, g1_2, g1_3]
      first | exact hb0 | exact ⟨rfl, hb0⟩
    · obtain ⟨z2, hz2⟩ : ∃ o_o : Bool, decide (i < (s.size : Int)) = o_o := ⟨_, rfl⟩
      cases z2
      · go_wp2_with fail
        obtain ⟨y3, hy3⟩ : ∃ o_o : ByteArray, itB a = o_o := ⟨_, rfl⟩
        have Hy3 := Lib.hid hy3
        clear hy3
        obtain ⟨r4, hr4⟩ : ∃ o_o : Int, kpV a (y3.toList == s.toList) = o_o := ⟨_, rfl⟩
        have Hr4 := Lib.hid hr4
        clear hr4
        have c2_0 : W1_.cell? ⟨(w.heap.size + 1), 0, none⟩ = some (.int .u64 (wd0 a)) := k2.cell 0
        have c2_1 : W1_.cell? ⟨(w.heap.size + 1), 1, none⟩ = some (.int .u64 (wd1 a)) := k2.cell 1
        have c2_2 : W1_.cell? ⟨(w.heap.size + 1), 2, none⟩ = some (.int .u64 (wd2 a)) := k2.cell 2
        have c2_3 : W1_.cell? ⟨(w.heap.size + 1), 3, none⟩ = some (.int .u64 (wd3 a)) := k2.cell 3
        have l2 := k2.lt
        have Kk1 := Lib.hid k1
        clear k1
        have Kk2 := Lib.hid k2
        clear k2
        refine wp_region_up W1_.heap.size 11 [(true, 0), (true, 1), (true, 2), (true, 3), (true, 5), (false, 4), (true, 6), (true, 7), (false, 8), (true, 9), (true, 10)] (by kernel_rfl) (by kernel_rfl) (fun _ _ d _ _ h => by cases d <;> exact h) ?_
        have hb : Below W1_.heap.size W1_ W1_.drew := (Below.refl _ _).drew
        iterate 5
          refine wpS_takeL rfl rfl ?_
          go_big_quiet_step (rfl)
          refine wpQuiet_nil ?_
        refine wpS_doL rfl ?_
        intro K hK
        go_wp2_with ((go_at_call 12; (with_reducible refine (Text_v a y3 Hy3.out HI1.out.1.ia _ ((hG.of hb0).of hb)).mono ?_); rintro e w2 ⟨rfl, hn⟩))
        try replace hb := hb.trans (hn.mono hb.size)
        refine hK.out _ _ (up_iff.2 hb) ?_
        clear hK K
        try clear hn
        iterate 2
          refine wpS_takeL rfl rfl ?_
          go_big_quiet_step (rfl)
          refine wpQuiet_nil ?_
        refine wpS_doL rfl ?_
        intro K hK
        go_wp2_with ((go_at_call 38; (with_reducible refine (kept_v a (y3.toList == s.toList) r4 Hr4.out _).mono ?_); rintro e w2 ⟨rfl, hn⟩))
        replace hb := hb.trans (hn.mono hb.size)
        refine hK.out _ _ (up_iff.2 hb) ?_
        clear hK K
        clear hn
        iterate 2
          refine wpS_takeL rfl rfl ?_
          go_big_quiet_step (rfl)
          refine wpQuiet_nil ?_
        refine wpS_nil ?_
        simp only [List.drop_succ_cons, List.drop_zero]
        first | refine calls_w ?_ | refine name_world ?_ | refine list_world ?_ | refine post_world ?_
        intro U4 hU4
        first | (subst hU4; have u_ := U4; clear u_) | (rw [← hU4] at hb; clear hU4)
        clear c2_0 c2_1 c2_2 c2_3 l2
        have k1 := Kk1.out.of hb
        clear Kk1
        have k2 := Kk2.out.of hb
        clear Kk2
        replace hb0 := hb0.trans (hb.mono hb0.size)
        clear hb
        have c1_0 : U4.cell? ⟨w.heap.size, 0, none⟩ = some (.int .u64 0) := k1.cell 0
        have c1_1 : U4.cell? ⟨w.heap.size, 1, none⟩ = some (.int .u64 0) := k1.cell 1
        have c1_2 : U4.cell? ⟨w.heap.size, 2, none⟩ = some (.int .u64 0) := k1.cell 2
        have c1_3 : U4.cell? ⟨w.heap.size, 3, none⟩ = some (.int .u64 0) := k1.cell 3
        have f1_0 := k1.free 0
        have f1_1 := k1.free 1
        have f1_2 := k1.free 2
        have f1_3 := k1.free 3
        have l1 := k1.lt
        have e0 : r4 = R0 := by rw [← HR0.out]; (first   | (rw [← Hr4.out]; exact kp_fin (HI1.out.1.fin (of_decide_eq_false hz2) Hy3.out rfl))   | (rw [← Hr4.out]; exact (prs_zero (HI1.out.1.2.2.2.2 rfl)).symm))
        have e1 : (y3.toList == s.toList) = R1 := by rw [← HR1.out]; (first   | (exact (HI1.out.1.fin (of_decide_eq_false hz2) Hy3.out rfl).1.symm)   | (exact (HI1.out.1.2.2.2.2 rfl).symm))
        subst e0
        subst e1
        go_wp2
        clear c1_0 c1_1 c1_2 c1_3 f1_0 f1_1 f1_2 f1_3 l1
        first | refine post_world ?_
        intro V5 hV5
        clear k2
        have D3 := Lib.hid k1.lt
        have D4 := Lib.hid hb0.size
        have nk1 : Blk V5 w.heap.size #[.int .u64 (wd0 r4), .int .u64 (wd1 r4), .int .u64 (wd2 r4), .int .u64 (wd3 r4)] 24 := by rw [hV5]; exact (blk_full _ [.int .u64 (wd0 r4), .int .u64 (wd1 r4), .int .u64 (wd2 r4), .int .u64 (wd3 r4)] k1 rfl)
        have nhb0 : Below w.heap.size w V5 := by rw [hV5]; exact (blw_setL hb0 (by omega) 0 [.int .u64 (wd0 r4), .int .u64 (wd1 r4), .int .u64 (wd2 r4), .int .u64 (wd3 r4)])
        clear k1
        clear hb0
        clear hV5
        have k1 := nk1
        clear nk1
        have hb0 := nhb0
        clear nhb0
        have g1_0 : V5.cell? ⟨w.heap.size, 0, none⟩ = some (.int .u64 (wd0 r4)) := k1.cell 0
        have g1_1 : V5.cell? ⟨w.heap.size, 1, none⟩ = some (.int .u64 (wd1 r4)) := k1.cell 1
        have g1_2 : V5.cell? ⟨w.heap.size, 2, none⟩ = some (.int .u64 (wd2 r4)) := k1.cell 2
        have g1_3 : V5.cell? ⟨w.heap.size, 3, none⟩ = some (.int .u64 (wd3 r4)) := k1.cell 3
        clear k1
        simp [bodyPost, results, Tryd.results13, go_sem, g1_0, g1_1, g1_2, g1_3]
        first | exact hb0 | exact ⟨rfl, hb0⟩
      · obtain ⟨r5, hr5⟩ : ∃ o_o : Int, chI s i = o_o := ⟨_, rfl⟩
        have Hr5 := Lib.hid hr5
        clear hr5
        obtain ⟨z6, hz6⟩ : ∃ o_o : Bool, decide (48 ≤ r5) = o_o := ⟨_, rfl⟩
        cases z6
        · obtain ⟨z7, hz7⟩ : ∃ o_o : Bool, (r5 == 45) = o_o := ⟨_, rfl⟩
          cases z7
          · have nz7 : ¬ r5 = 45 := by simpa using hz7
            have xa0 : (0 : Int) ≤ i := ((HI1.out.1.ix (of_decide_eq_true hz2))).1
            have xb0 : (i : Int) < (s.size : Int) := ((HI1.out.1.ix (of_decide_eq_true hz2))).2
            have xc0 := ch_v s i r5 Hr5.out
            go_wp2_with fail
            clear xa0 xb0 xc0
            have HIn : PaI s a false (wrap64 (i + 1)) ∧ s.size - (wrap64 (i + 1)) ≤ (((s.size - (wrap64 (i + 1))).toNat) : Int) := by
              rw [(HI1.out.1.w (of_decide_eq_true hz2) _sz.out)]
              exact ⟨HI1.out.1.badF (of_decide_eq_true hz2) Hr5.out (fun q_ => absurd q_.1 (of_decide_eq_false hz6)) (.inl (by simpa using hz7)), by omega⟩
            go_roundg ((s.size - (wrap64 (i + 1))).toNat)
            case measure =>
              rw [(HI1.out.1.w (of_decide_eq_true hz2) _sz.out)]
              have q_ := (of_decide_eq_true hz2)
              have q2_ := HI1.out.2
              omega
            case rel => exact ⟨a, false, (wrap64 (i + 1)), rfl, rfl, Lib.hid HIn, k1, k2, hb0⟩
          · obtain rfl : r5 = 45 := by simpa using hz7
            clear hz7
            obtain ⟨z8, hz8⟩ : ∃ o_o : Bool, decide (0 < i) = o_o := ⟨_, rfl⟩
            cases z8
            · have xa0 : (0 : Int) ≤ i := ((HI1.out.1.ix (of_decide_eq_true hz2))).1
              have xb0 : (i : Int) < (s.size : Int) := ((HI1.out.1.ix (of_decide_eq_true hz2))).2
              have xc0 := ch_v s i 45 Hr5.out
              go_wp2_with fail
              clear xa0 xb0 xc0
              have HIn : PaI s a true (wrap64 (i + 1)) ∧ s.size - (wrap64 (i + 1)) ≤ (((s.size - (wrap64 (i + 1))).toNat) : Int) := by
                first
                  | (rw [(HI1.out.1.w (of_decide_eq_true hz2) _sz.out)]; exact ⟨HI1.out.1.badF (of_decide_eq_true hz2) Hr5.out (fun q_ => absurd q_.1 (of_decide_eq_false hz6)) (.inl (by simpa using hz7)), by omega⟩)
                  | (rw [(HI1.out.1.w (of_decide_eq_true hz2) _sz.out)]; exact ⟨HI1.out.1.badF (of_decide_eq_true hz2) Hr5.out (fun q_ => absurd q_.1 (of_decide_eq_false hz6)) (.inr (of_decide_eq_true hz8)), by omega⟩)
                  | (rw [(HI1.out.1.w (of_decide_eq_true hz2) _sz.out)]; exact ⟨HI1.out.1.sign (of_decide_eq_true hz2) Hr5.out rfl (of_decide_eq_false hz8), by omega⟩)
              go_roundg ((s.size - (wrap64 (i + 1))).toNat)
              case measure =>
                rw [(HI1.out.1.w (of_decide_eq_true hz2) _sz.out)]
                have q_ := (of_decide_eq_true hz2)
                have q2_ := HI1.out.2
                omega
              case rel => exact ⟨a, true, (wrap64 (i + 1)), rfl, rfl, Lib.hid HIn, k1, k2, hb0⟩
            · have xa0 : (0 : Int) ≤ i := ((HI1.out.1.ix (of_decide_eq_true hz2))).1
              have xb0 : (i : Int) < (s.size : Int) := ((HI1.out.1.ix (of_decide_eq_true hz2))).2
              have xc0 := ch_v s i 45 Hr5.out
              go_wp2_with fail
              clear xa0 xb0 xc0
              have HIn : PaI s a false (wrap64 (i + 1)) ∧ s.size - (wrap64 (i + 1)) ≤ (((s.size - (wrap64 (i + 1))).toNat) : Int) := by
                first
                  | (rw [(HI1.out.1.w (of_decide_eq_true hz2) _sz.out)]; exact ⟨HI1.out.1.badF (of_decide_eq_true hz2) Hr5.out (fun q_ => absurd q_.1 (of_decide_eq_false hz6)) (.inl (by simpa using hz7)), by omega⟩)
                  | (rw [(HI1.out.1.w (of_decide_eq_true hz2) _sz.out)]; exact ⟨HI1.out.1.badF (of_decide_eq_true hz2) Hr5.out (fun q_ => absurd q_.1 (of_decide_eq_false hz6)) (.inr (of_decide_eq_true hz8)), by omega⟩)
                  | (rw [(HI1.out.1.w (of_decide_eq_true hz2) _sz.out)]; exact ⟨HI1.out.1.sign (of_decide_eq_true hz2) Hr5.out rfl (of_decide_eq_false hz8), by omega⟩)
              go_roundg ((s.size - (wrap64 (i + 1))).toNat)
              case measure =>
                rw [(HI1.out.1.w (of_decide_eq_true hz2) _sz.out)]
                have q_ := (of_decide_eq_true hz2)
                have q2_ := HI1.out.2
                omega
              case rel => exact ⟨a, false, (wrap64 (i + 1)), rfl, rfl, Lib.hid HIn, k1, k2, hb0⟩
        · obtain ⟨z9, hz9⟩ : ∃ o_o : Bool, decide (r5 ≤ 57) = o_o := ⟨_, rfl⟩
          cases z9
          · obtain ⟨z10, hz10⟩ : ∃ o_o : Bool, (r5 == 45) = o_o := ⟨_, rfl⟩
            cases z10
            · have nz10 : ¬ r5 = 45 := by simpa using hz10
              have xa0 : (0 : Int) ≤ i := ((HI1.out.1.ix (of_decide_eq_true hz2))).1
              have xb0 : (i : Int) < (s.size : Int) := ((HI1.out.1.ix (of_decide_eq_true hz2))).2
              have xc0 := ch_v s i r5 Hr5.out
              go_wp2_with fail
              clear xa0 xb0 xc0
              have HIn : PaI s a false (wrap64 (i + 1)) ∧ s.size - (wrap64 (i + 1)) ≤ (((s.size - (wrap64 (i + 1))).toNat) : Int) := by
                first
                  | (rw [(HI1.out.1.w (of_decide_eq_true hz2) _sz.out)]; exact ⟨HI1.out.1.badF (of_decide_eq_true hz2) Hr5.out (fun q_ => absurd q_.1 (of_decide_eq_false hz6)) (.inl (by simpa using hz10)), by omega⟩)
                  | (rw [(HI1.out.1.w (of_decide_eq_true hz2) _sz.out)]; exact ⟨HI1.out.1.badF (of_decide_eq_true hz2) Hr5.out (fun q_ => absurd q_.2 (of_decide_eq_false hz9)) (.inl (by simpa using hz10)), by omega⟩)
              go_roundg ((s.size - (wrap64 (i + 1))).toNat)
              case measure =>
                rw [(HI1.out.1.w (of_decide_eq_true hz2) _sz.out)]
                have q_ := (of_decide_eq_true hz2)
                have q2_ := HI1.out.2
                omega
              case rel => exact ⟨a, false, (wrap64 (i + 1)), rfl, rfl, Lib.hid HIn, k1, k2, hb0⟩
            · obtain rfl : r5 = 45 := by simpa using hz10
              clear hz10
              obtain ⟨z11, hz11⟩ : ∃ o_o : Bool, decide (0 < i) = o_o := ⟨_, rfl⟩
              cases z11
              · have xa0 : (0 : Int) ≤ i := ((HI1.out.1.ix (of_decide_eq_true hz2))).1
                have xb0 : (i : Int) < (s.size : Int) := ((HI1.out.1.ix (of_decide_eq_true hz2))).2
                have xc0 := ch_v s i 45 Hr5.out
                go_wp2_with fail
                clear xa0 xb0 xc0
                have HIn : PaI s a true (wrap64 (i + 1)) ∧ s.size - (wrap64 (i + 1)) ≤ (((s.size - (wrap64 (i + 1))).toNat) : Int) := by
                  first
                    | (rw [(HI1.out.1.w (of_decide_eq_true hz2) _sz.out)]; exact ⟨HI1.out.1.badF (of_decide_eq_true hz2) Hr5.out (fun q_ => absurd q_.1 (of_decide_eq_false hz6)) (.inl (by simpa using hz10)), by omega⟩)
                    | (rw [(HI1.out.1.w (of_decide_eq_true hz2) _sz.out)]; exact ⟨HI1.out.1.badF (of_decide_eq_true hz2) Hr5.out (fun q_ => absurd q_.1 (of_decide_eq_false hz6)) (.inr (of_decide_eq_true hz11)), by omega⟩)
                    | (rw [(HI1.out.1.w (of_decide_eq_true hz2) _sz.out)]; exact ⟨HI1.out.1.badF (of_decide_eq_true hz2) Hr5.out (fun q_ => absurd q_.2 (of_decide_eq_false hz9)) (.inl (by simpa using hz10)), by omega⟩)
                    | (rw [(HI1.out.1.w (of_decide_eq_true hz2) _sz.out)]; exact ⟨HI1.out.1.badF (of_decide_eq_true hz2) Hr5.out (fun q_ => absurd q_.2 (of_decide_eq_false hz9)) (.inr (of_decide_eq_true hz11)), by omega⟩)
                    | (rw [(HI1.out.1.w (of_decide_eq_true hz2) _sz.out)]; exact ⟨HI1.out.1.sign (of_decide_eq_true hz2) Hr5.out rfl (of_decide_eq_false hz11), by omega⟩)
                go_roundg ((s.size - (wrap64 (i + 1))).toNat)
                case measure =>
                  rw [(HI1.out.1.w (of_decide_eq_true hz2) _sz.out)]
                  have q_ := (of_decide_eq_true hz2)
                  have q2_ := HI1.out.2
                  omega
                case rel => exact ⟨a, true, (wrap64 (i + 1)), rfl, rfl, Lib.hid HIn, k1, k2, hb0⟩
              · have xa0 : (0 : Int) ≤ i := ((HI1.out.1.ix (of_decide_eq_true hz2))).1
                have xb0 : (i : Int) < (s.size : Int) := ((HI1.out.1.ix (of_decide_eq_true hz2))).2
                have xc0 := ch_v s i 45 Hr5.out
                go_wp2_with fail
                clear xa0 xb0 xc0
                have HIn : PaI s a false (wrap64 (i + 1)) ∧ s.size - (wrap64 (i + 1)) ≤ (((s.size - (wrap64 (i + 1))).toNat) : Int) := by
                  first
                    | (rw [(HI1.out.1.w (of_decide_eq_true hz2) _sz.out)]; exact ⟨HI1.out.1.badF (of_decide_eq_true hz2) Hr5.out (fun q_ => absurd q_.1 (of_decide_eq_false hz6)) (.inl (by simpa using hz10)), by omega⟩)
                    | (rw [(HI1.out.1.w (of_decide_eq_true hz2) _sz.out)]; exact ⟨HI1.out.1.badF (of_decide_eq_true hz2) Hr5.out (fun q_ => absurd q_.1 (of_decide_eq_false hz6)) (.inr (of_decide_eq_true hz11)), by omega⟩)
                    | (rw [(HI1.out.1.w (of_decide_eq_true hz2) _sz.out)]; exact ⟨HI1.out.1.badF (of_decide_eq_true hz2) Hr5.out (fun q_ => absurd q_.2 (of_decide_eq_false hz9)) (.inl (by simpa using hz10)), by omega⟩)
                    | (rw [(HI1.out.1.w (of_decide_eq_true hz2) _sz.out)]; exact ⟨HI1.out.1.badF (of_decide_eq_true hz2) Hr5.out (fun q_ => absurd q_.2 (of_decide_eq_false hz9)) (.inr (of_decide_eq_true hz11)), by omega⟩)
                    | (rw [(HI1.out.1.w (of_decide_eq_true hz2) _sz.out)]; exact ⟨HI1.out.1.sign (of_decide_eq_true hz2) Hr5.out rfl (of_decide_eq_false hz11), by omega⟩)
                go_roundg ((s.size - (wrap64 (i + 1))).toNat)
                case measure =>
                  rw [(HI1.out.1.w (of_decide_eq_true hz2) _sz.out)]
                  have q_ := (of_decide_eq_true hz2)
                  have q2_ := HI1.out.2
                  omega
                case rel => exact ⟨a, false, (wrap64 (i + 1)), rfl, rfl, Lib.hid HIn, k1, k2, hb0⟩
          · have xa0 : (0 : Int) ≤ i := ((HI1.out.1.ix (of_decide_eq_true hz2))).1
            have xb0 : (i : Int) < (s.size : Int) := ((HI1.out.1.ix (of_decide_eq_true hz2))).2
            have xc0 := ch_v s i r5 Hr5.out
            go_wp2_with fail
            clear xa0 xb0 xc0
            obtain ⟨r12, hr12⟩ : ∃ o_o : Int, mulv a 10 = o_o := ⟨_, rfl⟩
            have Hr12 := Lib.hid hr12
            clear hr12
            obtain ⟨z13, hz13⟩ : ∃ o_o : Bool, okI (a * 10) = o_o := ⟨_, rfl⟩
            have Hz13 := Lib.hid hz13
            clear hz13
            have c2_0 : W1_.cell? ⟨(w.heap.size + 1), 0, none⟩ = some (.int .u64 (wd0 a)) := k2.cell 0
            have c2_1 : W1_.cell? ⟨(w.heap.size + 1), 1, none⟩ = some (.int .u64 (wd1 a)) := k2.cell 1
            have c2_2 : W1_.cell? ⟨(w.heap.size + 1), 2, none⟩ = some (.int .u64 (wd2 a)) := k2.cell 2
            have c2_3 : W1_.cell? ⟨(w.heap.size + 1), 3, none⟩ = some (.int .u64 (wd3 a)) := k2.cell 3
            have f2_0 := k2.free 0
            have f2_1 := k2.free 1
            have f2_2 := k2.free 2
            have f2_3 := k2.free 3
            have l2 := k2.lt
            have Kk1 := Lib.hid k1
            clear k1
            have Kk2 := Lib.hid k2
            clear k2
            refine wp_region_G 6 [(0, 0), (1, 1), (1, 2), (0, 3), (0, 4), (2, 5), (3, 6), (2, 7)] (by kernel_rfl) (by kernel_rfl) (fun _ _ d _ _ => by cases d <;> exact Iff.rfl) ?_
            have hb : Below W1_.heap.size W1_ W1_.drew := (Below.refl _ _).drew
            refine wpG_take0 rfl rfl ?_
            go_big_quiet_step (rfl)
            refine wpQuiet_nil ?_
            refine wpG_do1 rfl ?_
            intro K hK
            go_wp2_with ((go_at_call 31; (with_reducible refine (Of_v 10 10 rfl (by unfold In64; omega) _).mono ?_); rintro e w2 ⟨rfl, hn⟩))
            replace hb := hb.trans (hn.mono hb.size)
            refine hK.out _ _ (up_iff.2 hb) ?_
            clear hK K
            clear hn
            refine wpG_do1 rfl ?_
            intro K hK
            go_wp2_with ((go_at_call 32; (with_reducible refine (Mul_v a 10 r12 z13 Hr12.out Hz13.out HI1.out.1.ia (by unfold InI b255; omega) _).mono ?_); rintro e w2 ⟨rfl, hn⟩))
            replace hb := hb.trans (hn.mono hb.size)
            refine hK.out _ _ (up_iff.2 hb) ?_
            clear hK K
            clear hn
            iterate 2
              refine wpG_take0 rfl rfl ?_
              go_big_quiet_step (rfl)
              refine wpQuiet_nil ?_
            refine wpG_take2 rfl rfl ?_
            go_big_quiet_step (rfl)
            refine wpQuiet_nil ?_
            have Mk2 := Kk2.out.of hb
            have Mk2_0 := Mk2.cell 0
            have Nk2_0 := Mk2.free 0
            have Mk2_1 := Mk2.cell 1
            have Nk2_1 := Mk2.free 1
            have Mk2_2 := Mk2.cell 2
            have Nk2_2 := Mk2.free 2
            have Mk2_3 := Mk2.cell 3
            have Nk2_3 := Mk2.free 3
            simp only [List.getElem?_toArray, List.getElem?_cons_zero, List.getElem?_cons_succ] at Mk2_0 Mk2_1 Mk2_2 Mk2_3
            refine wpG_do3 rfl ?_
            intro K hK
            go_wp2_with (fail)
            refine hK.out _ _ ?_
            clear hK K
            refine wpG_take2 rfl rfl ?_
            go_big_quiet_step (rfl)
            refine wpQuiet_nil ?_
            refine wpG_nil ?_
            refine list_world ?_
            intro U6 hU6
            clear c2_0 c2_1 c2_2 c2_3 f2_0 f2_1 f2_2 f2_3 l2 Mk2 Mk2_0 Nk2_0 Mk2_1 Nk2_1 Mk2_2 Nk2_2 Mk2_3 Nk2_3
            have D5 := Lib.hid Kk1.out.lt
            have D6 := Lib.hid Kk2.out.lt
            have D7 := Lib.hid hb0.size
            have k1 : Blk U6 w.heap.size #[.int .u64 0, .int .u64 0, .int .u64 0, .int .u64 0] 24 := by rw [hU6]; exact (blk_setL (Kk1.out.of hb) (by omega) 0 [.int .u64 (wd0 r12), .int .u64 (wd1 r12), .int .u64 (wd2 r12), .int .u64 (wd3 r12)])
            have k2 : Blk U6 (w.heap.size + 1) #[.int .u64 (wd0 r12), .int .u64 (wd1 r12), .int .u64 (wd2 r12), .int .u64 (wd3 r12)] 24 := by rw [hU6]; exact (blk_full _ [.int .u64 (wd0 r12), .int .u64 (wd1 r12), .int .u64 (wd2 r12), .int .u64 (wd3 r12)] (Kk2.out.of hb) rfl)
            replace hb0 : Below w.heap.size w U6 := by rw [hU6]; exact (blw_setL (hb0.trans (hb.mono hb0.size)) (by omega) 0 [.int .u64 (wd0 r12), .int .u64 (wd1 r12), .int .u64 (wd2 r12), .int .u64 (wd3 r12)])
            clear hU6 hb Kk1 Kk2
            cases z13
            · go_wp2_with fail
              have HIn : PaI s r12 false (wrap64 (i + 1)) ∧ s.size - (wrap64 (i + 1)) ≤ (((s.size - (wrap64 (i + 1))).toNat) : Int) := by
                rw [(HI1.out.1.w (of_decide_eq_true hz2) _sz.out)]
                exact ⟨HI1.out.1.mulF (of_decide_eq_true hz2) Hr5.out rfl (of_decide_eq_true hz6) (of_decide_eq_true hz9) Hz13.out Hr12.out, by omega⟩
              go_roundg ((s.size - (wrap64 (i + 1))).toNat)
              case measure =>
                rw [(HI1.out.1.w (of_decide_eq_true hz2) _sz.out)]
                have q_ := (of_decide_eq_true hz2)
                have q2_ := HI1.out.2
                omega
              case rel => exact ⟨r12, false, (wrap64 (i + 1)), rfl, rfl, Lib.hid HIn, k1, k2, hb0⟩
            · go_wp2_with fail
              obtain ⟨r14, hr14⟩ : ∃ o_o : Int, chI s 0 = o_o := ⟨_, rfl⟩
              have Hr14 := Lib.hid hr14
              clear hr14
              obtain ⟨r15, hr15⟩ : ∃ o_o : Int, (r5 - 48) % 256 = o_o := ⟨_, rfl⟩
              have Hr15 := Lib.hid hr15
              clear hr15
              obtain ⟨r16, hr16⟩ : ∃ o_o : Int, stV r12 (r14 == 45) r15 = o_o := ⟨_, rfl⟩
              have Hr16 := Lib.hid hr16
              clear hr16
              obtain ⟨z17, hz17⟩ : ∃ o_o : Bool, stK r12 (r14 == 45) r15 = o_o := ⟨_, rfl⟩
              have Hz17 := Lib.hid hz17
              clear hz17
              have c2_0 : U6.cell? ⟨(w.heap.size + 1), 0, none⟩ = some (.int .u64 (wd0 r12)) := k2.cell 0
              have c2_1 : U6.cell? ⟨(w.heap.size + 1), 1, none⟩ = some (.int .u64 (wd1 r12)) := k2.cell 1
              have c2_2 : U6.cell? ⟨(w.heap.size + 1), 2, none⟩ = some (.int .u64 (wd2 r12)) := k2.cell 2
              have c2_3 : U6.cell? ⟨(w.heap.size + 1), 3, none⟩ = some (.int .u64 (wd3 r12)) := k2.cell 3
              have f2_0 := k2.free 0
              have f2_1 := k2.free 1
              have f2_2 := k2.free 2
              have f2_3 := k2.free 3
              have l2 := k2.lt
              have xa0 : (0 : Int) ≤ 0 := ((HI1.out.1.i0 (of_decide_eq_true hz2))).1
              have xb0 : (0 : Int) < (s.size : Int) := ((HI1.out.1.i0 (of_decide_eq_true hz2))).2
              have xc0 := ch_v s 0 r14 Hr14.out
              have xd0 : 0 < s.size := by omega
              have xe0 : ∀ hi : 0 < s.size, ((s[0]'hi).toNat : Int) = r14 := xc0
              have xu0 := Hr15.out
              have Kk1 := Lib.hid k1
              clear k1
              have Kk2 := Lib.hid k2
              clear k2
              refine wp_region_G 11 [(0, 0), (0, 1), (0, 2), (0, 3), (0, 4), (0, 5), (0, 6), (1, 7), (0, 8), (0, 9), (2, 10), (3, 11), (2, 12)] (by kernel_rfl) (by kernel_rfl) (fun _ _ d _ _ => by cases d <;> exact Iff.rfl) ?_
              have hb : Below U6.heap.size U6 U6.drew := (Below.refl _ _).drew
              iterate 7
                refine wpG_take0 rfl rfl ?_
                go_big_quiet_step (rfl)
                refine wpQuiet_nil ?_
              refine wpG_do1 rfl ?_
              intro K hK
              go_wp2_with ((go_at_call 37; (try simp only [xe0, xu0]); (with_reducible refine (step_is r12 (r14 == 45) r15 r16 z17 Hr16.out Hz17.out (Hr12.out ▸ mulv_in _ _) (Hr15.out ▸ u8_64 _)  _).mono ?_); rintro e w2 ⟨rfl, hn⟩))
              replace hb := hb.trans (hn.mono hb.size)
              refine hK.out _ _ (up_iff.2 hb) ?_
              clear hK K
              clear hn
              iterate 2
                refine wpG_take0 rfl rfl ?_
                go_big_quiet_step (rfl)
                refine wpQuiet_nil ?_
              refine wpG_take2 rfl rfl ?_
              go_big_quiet_step (rfl)
              refine wpQuiet_nil ?_
              have Mk2 := Kk2.out.of hb
              have Mk2_0 := Mk2.cell 0
              have Nk2_0 := Mk2.free 0
              have Mk2_1 := Mk2.cell 1
              have Nk2_1 := Mk2.free 1
              have Mk2_2 := Mk2.cell 2
              have Nk2_2 := Mk2.free 2
              have Mk2_3 := Mk2.cell 3
              have Nk2_3 := Mk2.free 3
              simp only [List.getElem?_toArray, List.getElem?_cons_zero, List.getElem?_cons_succ] at Mk2_0 Mk2_1 Mk2_2 Mk2_3
              refine wpG_do3 rfl ?_
              intro K hK
              go_wp2_with (fail)
              refine hK.out _ _ ?_
              clear hK K
              refine wpG_take2 rfl rfl ?_
              go_big_quiet_step (rfl)
              refine wpQuiet_nil ?_
              refine wpG_nil ?_
              refine list_world ?_
              intro U7 hU7
              clear c2_0 c2_1 c2_2 c2_3 f2_0 f2_1 f2_2 f2_3 l2 xa0 xb0 xc0 xd0 xe0 xu0 Mk2 Mk2_0 Nk2_0 Mk2_1 Nk2_1 Mk2_2 Nk2_2 Mk2_3 Nk2_3
              have D8 := Lib.hid Kk1.out.lt
              have D9 := Lib.hid Kk2.out.lt
              have D10 := Lib.hid hb0.size
              have k1 : Blk U7 w.heap.size #[.int .u64 0, .int .u64 0, .int .u64 0, .int .u64 0] 24 := by rw [hU7]; exact (blk_setL (Kk1.out.of hb) (by omega) 0 [.int .u64 (wd0 r16), .int .u64 (wd1 r16), .int .u64 (wd2 r16), .int .u64 (wd3 r16)])
              have k2 : Blk U7 (w.heap.size + 1) #[.int .u64 (wd0 r16), .int .u64 (wd1 r16), .int .u64 (wd2 r16), .int .u64 (wd3 r16)] 24 := by rw [hU7]; exact (blk_full _ [.int .u64 (wd0 r16), .int .u64 (wd1 r16), .int .u64 (wd2 r16), .int .u64 (wd3 r16)] (Kk2.out.of hb) rfl)
              replace hb0 : Below w.heap.size w U7 := by rw [hU7]; exact (blw_setL (hb0.trans (hb.mono hb0.size)) (by omega) 0 [.int .u64 (wd0 r16), .int .u64 (wd1 r16), .int .u64 (wd2 r16), .int .u64 (wd3 r16)])
              clear hU7 hb Kk1 Kk2
              go_wp2_with fail
              have HIn : PaI s r16 z17 (wrap64 (i + 1)) ∧ s.size - (wrap64 (i + 1)) ≤ (((s.size - (wrap64 (i + 1))).toNat) : Int) := by
                first
                  | (rw [(HI1.out.1.w (of_decide_eq_true hz2) _sz.out)]; exact ⟨HI1.out.1.mulF (of_decide_eq_true hz2) Hr5.out rfl (of_decide_eq_true hz6) (of_decide_eq_true hz9) Hz13.out Hr12.out, by omega⟩)
                  | (rw [(HI1.out.1.w (of_decide_eq_true hz2) _sz.out)]; exact ⟨HI1.out.1.stp (of_decide_eq_true hz2) Hr5.out Hr14.out (of_decide_eq_true hz6) (of_decide_eq_true hz9) Hr15.out Hz13.out Hr12.out _ rfl Hr16.out Hz17.out, by omega⟩)
              go_roundg ((s.size - (wrap64 (i + 1))).toNat)
              case measure =>
                rw [(HI1.out.1.w (of_decide_eq_true hz2) _sz.out)]
                have q_ := (of_decide_eq_true hz2)
                have q2_ := HI1.out.2
                omega
              case rel => exact ⟨r16, z17, (wrap64 (i + 1)), rfl, rfl, Lib.hid HIn, k1, k2, hb0⟩
end Go.Proofs.YtcfiemeknocgjaaDoor

namespace Go.Proofs.YtcfiemeknocgjaaDoor
open Go.RowKit

theorem beqE {x y : Int} (h : (x == y) = true) : x = y := by simpa using h
theorem beqN {x y : Int} (h : (x == y) = false) : ¬ x = y := by simpa using h
def digK (s : ByteArray) : Bool := Lib.itoa (pvB s) == bl s
def digV (s : ByteArray) : Int := bif digK s then pvB s else 0
theorem digK_iff (s : ByteArray) : digK s = true ↔ DigS (bl s) := by
  constructor
  · intro h
    have e : Lib.itoa (pvB s) = bl s := by unfold digK at h; simpa using h
    have d := itoa_DigS (pvB s)
    rwa [e] at d
  · intro h
    obtain ⟨v, hv⟩ := DigS_itoa h
    unfold digK
    rw [pvB_is hv, hv]; simp
theorem dig_no {s : ByteArray} (h : ¬ DigS (bl s)) : digK s = false ∧ digV s = 0 := by
  have e : digK s = false := by
    cases g : digK s
    · rfl
    · exact absurd ((digK_iff s).1 g) h
  exact ⟨e, by unfold digV; rw [e]; rfl⟩
/-- the head of a text as it is to be -/
structure DgH (s : ByteArray) (fr : Int) : Prop where
  f : from? (bl s) = fr.toNat
  f0 : 0 ≤ fr
  f1 : fr < s.size
  h : chI s fr = 48 → s.size = 1
theorem from_neg {s : ByteArray} {x : Int} (hx : chI s 0 = x) (h0 : 0 < (s.size : Int)) : from? (bl s) = if x = 45 then 1 else 0 := by
  unfold from?
  rw [neg_ch hx h0]
  by_cases h : x = 45
  · rw [if_pos h, decide_eq_true h]; rfl
  · rw [if_neg h, decide_eq_false h]; rfl
theorem DgH.mk0 {s : ByteArray} {x : Int} (hx : chI s 0 = x) (h0 : 0 < (s.size : Int)) (hn : ¬ x = 45) (hh : ¬ x = 48 ∨ ¬ 1 < (s.size : Int)) : DgH s 0 :=
  ⟨by rw [from_neg hx h0, if_neg hn]; rfl, by omega, h0, fun e => by rw [hx] at e; omega⟩
theorem DgH.mk1 {s : ByteArray} {y : Int} (hx : chI s 0 = 45) (h0 : 0 < (s.size : Int)) (h1 : ¬ (s.size : Int) = 1) (hy : chI s 1 = y) (hh : ¬ y = 48 ∨ ¬ 1 < (s.size : Int)) : DgH s 1 :=
  ⟨by rw [from_neg hx h0, if_pos rfl]; rfl, by omega, by omega, fun e => by rw [hy] at e; omega⟩
/-- where the loop of Digits stands -/
structure DgI (s : ByteArray) (fr n i : Int) : Prop where
  h : DgH s fr
  i0 : fr ≤ i
  i1 : i ≤ s.size
  ne : n = (dv (((bl s).take i.toNat).drop fr.toNat) : Int)
  b : n < 10 ^ i.toNat
  d : ∀ j : Int, fr ≤ j → j < i → 48 ≤ chI s j ∧ chI s j ≤ 57
theorem DgI.begin {s : ByteArray} {fr : Int} (h : DgH s fr) : DgI s fr 0 fr := by
  refine ⟨h, by omega, by have := h.f1; omega, ?_, by have : (0 : Int) < 10 ^ fr.toNat := Int.pow_pos (by decide); omega, fun j h0 h1 => by omega⟩
  have : ((bl s).take fr.toNat).drop fr.toNat = [] := List.drop_eq_nil_of_le (by rw [List.length_take]; omega)
  rw [this]; rfl
theorem DgI.ix {s : ByteArray} {fr n i : Int} (h : DgI s fr n i) (g : i < (s.size : Int)) : 0 ≤ i ∧ i < (s.size : Int) := ⟨by have := h.h.f0; have := h.i0; omega, g⟩
theorem DgI.w {s : ByteArray} {fr n i : Int} (h : DgI s fr n i) (g : i < (s.size : Int)) (hs : (s.size : Int) ≤ 200) : wrap64 (i + 1) = i + 1 := by have := (h.ix g).1; exact wrap64_id (by unfold In64; omega)
theorem DgI.n0 {s : ByteArray} {fr n i : Int} (h : DgI s fr n i) : 0 ≤ n := by rw [h.ne]; omega
theorem DgI.next {s : ByteArray} {fr n i x d p q : Int} (h : DgI s fr n i) (g : i < (s.size : Int)) (hx : chI s i = x) (x0 : ¬ x < 48) (x1 : ¬ 57 < x) (hd : (x - 48) % 256 = d) (hp : n * 10 = p) (hq : p + d = q) : DgI s fr q (i + 1) := by
  obtain ⟨c, hc, e⟩ := ch_get hx (h.ix g)
  have hi := (h.ix g).1
  have e1 : (i + 1).toNat = i.toNat + 1 := by omega
  have hf : fr.toNat ≤ i.toNat := by have := h.i0; omega
  have hl : i.toNat < (bl s).length := by rw [bl_len]; omega
  have et : (bl s).take (i.toNat + 1) = (bl s).take i.toNat ++ [c] := by rw [List.take_add_one, hc]; rfl
  refine ⟨h.h, by have := h.i0; omega, by omega, ?_, ?_, fun j h0 h1 => ?_⟩
  · rw [e1, et, List.drop_append_of_le_length (by rw [List.length_take]; omega), dv_snoc]
    have := h.ne
    omega
  · rw [e1, Int.pow_succ]
    have := h.b
    omega
  · by_cases q : j = i
    · subst q; rw [hx]; omega
    · exact h.d j h0 (by omega)
theorem DgI.bad {s : ByteArray} {fr n i x : Int} (h : DgI s fr n i) (g : i < (s.size : Int)) (hx : chI s i = x) (hn : x < 48 ∨ 57 < x) : ¬ DigS (bl s) := fun hD => by
  obtain ⟨c, hc, e⟩ := ch_get hx (h.ix g)
  obtain ⟨c', hc', hd⟩ := hD.2.2 i.toNat (by rw [h.h.f]; have := h.i0; omega) (by rw [bl_len]; have := (h.ix g).1; omega)
  rw [hc] at hc'
  obtain rfl := Option.some.inj hc'
  have := (isD_iff c).1 hd
  omega
theorem DgI.fin {s : ByteArray} {fr n i : Int} (h : DgI s fr n i) (g : ¬ i < (s.size : Int)) : digK s = true ∧ digV s = (if fr = 0 then n else -n) := by
  have hD : DigS (bl s) := by
    refine ⟨by rw [h.h.f, bl_len]; have := h.h.f1; have := h.h.f0; omega, fun e => ?_, fun j h0 h1 => ?_⟩
    · rw [h.h.f] at e
      have : chI s fr = 48 := by unfold chI; rw [List.getD_eq_getElem?_getD, e]; rfl
      rw [bl_len]; exact h.h.h this
    · rw [bl_len] at h1
      rw [h.h.f] at h0
      have hj := h.d (j : Int) (by have := h.h.f0; omega) (by have := h.i1; omega)
      obtain ⟨c, hc, e⟩ := ch_get (s := s) (i := (j : Int)) rfl ⟨by omega, by omega⟩
      exact ⟨c, hc, (isD_iff c).2 (by omega)⟩
  have hk := (digK_iff s).2 hD
  refine ⟨hk, ?_⟩
  unfold digV
  rw [hk, cond_true]
  unfold pvB pv sgv
  have en : n = (dv (((bl s).take (bl s).length).drop (from? (bl s))) : Int) := by
    rw [h.ne, h.h.f]
    have : i.toNat = (bl s).length := by rw [bl_len]; have := h.i1; omega
    rw [this]
  rw [← en]
  have hf := h.h.f
  unfold from? at hf
  have hz := h.h.f0
  cases hn : neg? (bl s)
  · rw [hn] at hf
    have hf' : 0 = fr.toNat := hf
    rw [if_pos (by omega)]; rfl
  · rw [hn] at hf
    have hf' : 1 = fr.toNat := hf
    rw [if_neg (by omega)]; rfl
theorem dig_empty {s : ByteArray} (h : (s.size : Int) = 0) : ¬ DigS (bl s) := fun hD => by
  have := hD.1
  rw [bl_len] at this
  omega
theorem dig_z0 {s : ByteArray} (hx : chI s 0 = 48) (h1 : 1 < (s.size : Int)) : ¬ DigS (bl s) := fun hD => by
  obtain ⟨c, hc, e⟩ := ch_get hx ⟨by omega, by omega⟩
  have hf : from? (bl s) = 0 := by rw [from_neg hx (by omega), if_neg (by omega)]
  have h2 := hD.2.1
  rw [hf] at h2
  have : c = 48 := UInt8.toNat_inj.1 (by show c.toNat = 48; omega)
  subst this
  have := h2 hc
  rw [bl_len] at this
  omega
theorem dig_m1 {s : ByteArray} (hx : chI s 0 = 45) (h1 : (s.size : Int) = 1) : ¬ DigS (bl s) := fun hD => by
  have hf : from? (bl s) = 1 := by rw [from_neg hx (by omega), if_pos rfl]
  have := hD.1
  rw [hf, bl_len] at this
  omega
theorem dig_z1 {s : ByteArray} (hx : chI s 0 = 45) (hy : chI s 1 = 48) (h1 : 1 < (s.size : Int)) : ¬ DigS (bl s) := fun hD => by
  obtain ⟨c, hc, e⟩ := ch_get hy ⟨by omega, by omega⟩
  have hf : from? (bl s) = 1 := by rw [from_neg hx (by omega), if_pos rfl]
  have h2 := hD.2.1
  rw [hf] at h2
  have : c = 48 := UInt8.toNat_inj.1 (by show c.toNat = 48; omega)
  subst this
  have := h2 hc
  rw [bl_len] at this
  omega
theorem fit_D {w : World} {v : Value} {n : Int} {L : Nat} {s : ByteArray} {fr i : Int} (h : Big w v n L) (hn : DgI s fr n i) (hs : (s.size : Int) ≤ 200) : Big w v n 50 := h.fit (by
  have h0 := hn.n0
  have h1 := hn.b
  have h2 : i.toNat ≤ 200 := by have := hn.i1; omega
  have h3 : ((10 ^ i.toNat : Nat) : Int) ≤ ((10 ^ 200 : Nat) : Int) := Int.ofNat_le.2 (Nat.pow_le_pow_right (by decide) h2)
  have e : ((10 ^ i.toNat : Nat) : Int) = (10 : Int) ^ i.toNat := Int.natCast_pow 10 _
  have h4 : ((10 ^ 200 : Nat) : Int) < P15 50 := by decide +kernel
  omega)

def Digits_g_post (w : World) (R0 : Int) (R1 : Bool) (e : Ending) (w' : World) : Prop := ∃ (m0 : Bool) (p0 : Option Addr) (q0 t0 : Nat), e = .returned (.tuple #[.agg #[.bool m0, .slice p0 q0 t0], .bool R1]) ∧ Big w' (.agg #[.bool m0, .slice p0 q0 t0]) R0 50 ∧ Below w.heap.size w w'

set_option maxRecDepth 100000 in
set_option maxHeartbeats 4000000 in

theorem Digits_g (s : ByteArray)  (R0 : Int) (R1 : Bool) (hR0 : digV s = R0) (hR1 : digK s = R1) (_sz : Hid ((s.size : Int) ≤ 200))  (w : World)  :
    Calls Tryd.prog 11 #[.string s] w (Digits_g_post w R0 R1) := by

  have HR0 := Lib.hid hR0
  clear hR0
  have HR1 := Lib.hid hR1
  clear hR1
  obtain ⟨z1, hz1⟩ : ∃ o_o : Bool, decide (0 < (s.size : Int)) = o_o := ⟨_, rfl⟩
  cases z1
  · obtain ⟨z2, hz2⟩ : ∃ o_o : Bool, ((s.size : Int) == 0) = o_o := ⟨_, rfl⟩
    cases z2
    · have nz2 : ¬ (s.size : Int) = 0 := by simpa using hz2
      exact absurd (by have a_ := of_decide_eq_false hz1; omega : (s.size : Int) = 0) (beqN hz2)
    · go_enter Tryd.func11, Tryd.ntmps11
      have e0 : 0 = R0 := by rw [← HR0.out]; (exact (dig_no (dig_empty (beqE hz2))).2.symm)
      have e1 : false = R1 := by rw [← HR1.out]; (exact (dig_no (dig_empty (beqE hz2))).1.symm)
      subst e0
      subst e1
      go_wp2
      first | refine post_world ?_
      intro V1 hV1
      have hn : Below w.heap.size w V1 := by rw [hV1]; exact below_a1 _ _
      have nhb0 := hn
      have k3 : Blk V1 w.heap.size #[.bool false, .slice none 0 0] 34 := by rw [hV1]; exact (Blk.new _ _ _)
      clear hV1
      have hb0 := nhb0
      clear nhb0
      have g3_0 : V1.cell? ⟨w.heap.size, 0, none⟩ = some (.bool false) := k3.cell 0
      have g3_1 : V1.cell? ⟨w.heap.size, 1, none⟩ = some (.slice none 0 0) := k3.cell 1
      clear k3
      simp [bodyPost, results, Tryd.results11, go_sem, g3_0, g3_1]
      exact ⟨_, _, _, _, rfl, Big.zero _ _, hb0⟩
  · obtain ⟨r3, hr3⟩ : ∃ o_o : Int, chI s 0 = o_o := ⟨_, rfl⟩
    have Hr3 := Lib.hid hr3
    clear hr3
    obtain ⟨z4, hz4⟩ : ∃ o_o : Bool, (r3 == 45) = o_o := ⟨_, rfl⟩
    cases z4
    · have nz4 : ¬ r3 = 45 := by simpa using hz4
      obtain ⟨z5, hz5⟩ : ∃ o_o : Bool, ((s.size : Int) == 0) = o_o := ⟨_, rfl⟩
      cases z5
      · have nz5 : ¬ (s.size : Int) = 0 := by simpa using hz5
        obtain ⟨z6, hz6⟩ : ∃ o_o : Bool, (r3 == 48) = o_o := ⟨_, rfl⟩
        cases z6
        · have nz6 : ¬ r3 = 48 := by simpa using hz6
          have xa0 : (0 : Int) ≤ 0 := ((⟨by omega, of_decide_eq_true hz1⟩ : (0 : Int) ≤ 0 ∧ (0 : Int) < (s.size : Int))).1
          have xb0 : (0 : Int) < (s.size : Int) := ((⟨by omega, of_decide_eq_true hz1⟩ : (0 : Int) ≤ 0 ∧ (0 : Int) < (s.size : Int))).2
          have xc0 := ch_v s 0 r3 Hr3.out
          have xd0 : 0 < s.size := by omega
          have xe0 : ∀ hi : 0 < s.size, ((s[0]'hi).toNat : Int) = r3 := xc0
          have xa1 : (0 : Int) ≤ 0 := ((⟨by omega, of_decide_eq_true hz1⟩ : (0 : Int) ≤ 0 ∧ (0 : Int) < (s.size : Int))).1
          have xb1 : (0 : Int) < (s.size : Int) := ((⟨by omega, of_decide_eq_true hz1⟩ : (0 : Int) ≤ 0 ∧ (0 : Int) < (s.size : Int))).2
          have xc1 := ch_v s 0 r3 Hr3.out
          have xd1 : 0 < s.size := by omega
          have xe1 : ∀ hi : 0 < s.size, ((s[0]'hi).toNat : Int) = r3 := xc1
          go_enter Tryd.func11, Tryd.ntmps11
          go_wp2_with fail
          clear xa0 xb0 xc0 xd0 xe0 xa1 xb1 xc1 xd1 xe1
          first | refine name_world ?_
          intro V2 hV2
          have hn : Below w.heap.size w V2 := by rw [hV2]; exact below_a2 _ _ _
          have nhb0 := hn
          have k7 : Blk V2 w.heap.size #[.bool false, .slice none 0 0] 34 := by rw [hV2]; exact ((Blk.new _ _ _).alloc _)
          have k8 : Blk V2 (w.heap.size + 1) #[.bool false, .slice none 0 0] 34 := by rw [hV2]; exact (Blk.new1 _ _ _ _)
          clear hV2
          have hb0 := nhb0
          clear nhb0
          go_loopg [6] (s.size) (fun gk_ s1_0 wr => ∃ (n : Int) (i : Int) (bn : Bool) (ba : Option Addr) (bl_ bc : Nat), s1_0 = .int .i64 i ∧ Hid (DgI s 0 n i ∧ s.size - i ≤ (gk_ : Int)) ∧ Blk wr w.heap.size #[.bool false, .slice none 0 0] 34 ∧ Blk wr (w.heap.size + 1) #[.bool bn, .slice ba bl_ bc] 34 ∧ Big wr (.agg #[.bool bn, .slice ba bl_ bc]) n 50 ∧ Below w.heap.size w wr)
          case atStart =>
            have HIn : DgI s 0 0 0 ∧ s.size - 0 ≤ ((s.size) : Int) := by
              exact ⟨DgI.begin (DgH.mk0 Hr3.out (of_decide_eq_true hz1) (beqN hz4) (.inl (beqN hz6))), by omega⟩
            exact ⟨0, 0, false, none, 0, 0, rfl, Lib.hid HIn, k7, k8, (Big.zero _ _), hb0⟩
          case round =>
            rename World => W1_
            rename Nat => gk1
            clear k7 k8
            clear hb0
            obtain ⟨n, i, bn, ba, bl_, bc, rfl, HI1, k7, k8, HB1_, hb0⟩ := hrel
            have HB1 := Lib.hid HB1_
            clear HB1_
            obtain ⟨z7, hz7⟩ : ∃ o_o : Bool, decide (i < (s.size : Int)) = o_o := ⟨_, rfl⟩
            cases z7
            · have c7_0 : W1_.cell? ⟨w.heap.size, 0, none⟩ = some (.bool false) := k7.cell 0
              have c7_1 : W1_.cell? ⟨w.heap.size, 1, none⟩ = some (.slice none 0 0) := k7.cell 1
              have f7_0 := k7.free 0
              have f7_1 := k7.free 1
              have l7 := k7.lt
              have c8_0 : W1_.cell? ⟨(w.heap.size + 1), 0, none⟩ = some (.bool bn) := k8.cell 0
              have c8_1 : W1_.cell? ⟨(w.heap.size + 1), 1, none⟩ = some (.slice ba bl_ bc) := k8.cell 1
              have l8 := k8.lt
              have p8_7 : (w.heap.size + 1) ≠ w.heap.size := (by omega)
              have e0 : n = R0 := by rw [← HR0.out]; (first   | (exact (HI1.out.1.fin (of_decide_eq_false hz7)).2.symm)   | (exact (dig_no (dig_empty (beqE hz5))).2.symm))
              have e1 : true = R1 := by rw [← HR1.out]; (first   | (exact (HI1.out.1.fin (of_decide_eq_false hz7)).1.symm)   | (exact (dig_no (dig_empty (beqE hz5))).1.symm))
              subst e0
              subst e1
              go_wp2
              clear c7_0 c7_1 f7_0 f7_1 l7 c8_0 c8_1 l8 p8_7
              first | refine post_world ?_
              intro V3 hV3
              clear k8
              have D1 := Lib.hid k7.lt
              have D2 := Lib.hid hb0.size
              have nk7 : Blk V3 w.heap.size #[.bool bn, .slice ba bl_ bc] 34 := by rw [hV3]; exact (blk_full _ [.bool bn, .slice ba bl_ bc] k7 rfl)
              have nhb0 : Below w.heap.size w V3 := by rw [hV3]; exact (blw_setL hb0 (by omega) 0 [.bool bn, .slice ba bl_ bc])
              replace HB1 : Hid (Big V3 (.agg #[.bool bn, .slice ba bl_ bc]) n 50) := Lib.hid (by rw [hV3]; exact (big_setL HB1.out (Blk.cell k7 0) (fun _ h => by cases h) 0 [.bool bn, .slice ba bl_ bc]))
              clear k7
              clear hb0
              clear hV3
              have k7 := nk7
              clear nk7
              have hb0 := nhb0
              clear nhb0
              have g7_0 : V3.cell? ⟨w.heap.size, 0, none⟩ = some (.bool bn) := k7.cell 0
              have g7_1 : V3.cell? ⟨w.heap.size, 1, none⟩ = some (.slice ba bl_ bc) := k7.cell 1
              clear k7
              simp [bodyPost, results, Tryd.results11, go_sem, g7_0, g7_1]
              exact ⟨_, _, _, _, rfl, (HB1.out.mono (by decide)), hb0⟩
            · obtain ⟨r8, hr8⟩ : ∃ o_o : Int, chI s i = o_o := ⟨_, rfl⟩
              have Hr8 := Lib.hid hr8
              clear hr8
              obtain ⟨z9, hz9⟩ : ∃ o_o : Bool, decide (r8 < 48) = o_o := ⟨_, rfl⟩
              cases z9
              · obtain ⟨z10, hz10⟩ : ∃ o_o : Bool, decide (57 < r8) = o_o := ⟨_, rfl⟩
                cases z10
                · have xa0 : (0 : Int) ≤ i := ((HI1.out.1.ix (of_decide_eq_true hz7))).1
                  have xb0 : (i : Int) < (s.size : Int) := ((HI1.out.1.ix (of_decide_eq_true hz7))).2
                  have xc0 := ch_v s i r8 Hr8.out
                  have xa1 : (0 : Int) ≤ i := ((HI1.out.1.ix (of_decide_eq_true hz7))).1
                  have xb1 : (i : Int) < (s.size : Int) := ((HI1.out.1.ix (of_decide_eq_true hz7))).2
                  have xc1 := ch_v s i r8 Hr8.out
                  go_wp2_with fail
                  clear xa0 xb0 xc0 xa1 xb1 xc1
                  obtain ⟨r11, hr11⟩ : ∃ o_o : Int, n * 10 = o_o := ⟨_, rfl⟩
                  have Hr11 := Lib.hid hr11
                  clear hr11
                  obtain ⟨r12, hr12⟩ : ∃ o_o : Int, (r8 - 48) % 256 = o_o := ⟨_, rfl⟩
                  have Hr12 := Lib.hid hr12
                  clear hr12
                  have c8_0 : W1_.cell? ⟨(w.heap.size + 1), 0, none⟩ = some (.bool bn) := k8.cell 0
                  have c8_1 : W1_.cell? ⟨(w.heap.size + 1), 1, none⟩ = some (.slice ba bl_ bc) := k8.cell 1
                  have l8 := k8.lt
                  have xa0 : (0 : Int) ≤ i := ((HI1.out.1.ix (of_decide_eq_true hz7))).1
                  have xb0 : (i : Int) < (s.size : Int) := ((HI1.out.1.ix (of_decide_eq_true hz7))).2
                  have xc0 := ch_v s i r8 Hr8.out
                  have xu0 := Hr12.out
                  have Kk7 := Lib.hid k7
                  clear k7
                  have Kk8 := Lib.hid k8
                  clear k8
                  refine wp_region_up W1_.heap.size 8 [(true, 0), (true, 3), (true, 4), (true, 5), (true, 6), (true, 7), (false, 1), (false, 2)] (by kernel_rfl) (by kernel_rfl) (fun _ _ d _ _ h => by cases d <;> exact h) ?_
                  have hb : Below W1_.heap.size W1_ W1_.drew := (Below.refl _ _).drew
                  iterate 6
                    refine wpS_takeL rfl rfl ?_
                    go_big_quiet_step (rfl)
                    refine wpQuiet_nil ?_
                  refine wpS_doL rfl ?_
                  intro K hK
                  go_wp2_with ((go_at_call 24; (with_reducible refine (bigOf_v 10 10 rfl (by unfold In64; omega) _).mono ?_); rintro e w2 ⟨v_, rfl, hbm, hn⟩; have HB2 := Lib.hid hbm; have hvm := hbm.shape; clear hbm; obtain ⟨bn2, ba2, bl2, bc2, rfl⟩ := hvm))
                  replace hb := hb.trans (hn.mono hb.size)
                  refine hK.out _ _ (up_iff.2 hb) ?_
                  clear hK K
                  clear hn
                  refine wpS_doL rfl ?_
                  intro K hK
                  go_wp2_with ((go_at_call 25; (with_reducible refine (bigMul_v (.agg #[.bool bn, .slice ba bl_ bc]) (.agg #[.bool bn2, .slice ba2 bl2 bc2]) n 10 r11 50 5 Hr11.out _ (HB1.out.of hb) HB2.out (by decide)).mono ?_); rintro e w2 ⟨v_, rfl, hbm, hn⟩; replace HB2 := Lib.hid (HB2.out.of hn); have HB3 := Lib.hid hbm; have hvm := hbm.shape; clear hbm; obtain ⟨bn3, ba3, bl3, bc3, rfl⟩ := hvm))
                  replace hb := hb.trans (hn.mono hb.size)
                  refine hK.out _ _ (up_iff.2 hb) ?_
                  clear hK K
                  clear hn
                  refine wpS_nil ?_
                  simp only [List.drop_succ_cons, List.drop_zero]
                  first | refine calls_w ?_ | refine name_world ?_ | refine list_world ?_ | refine post_world ?_
                  intro U4 hU4
                  first | (subst hU4; have u_ := U4; clear u_) | (rw [← hU4] at hb; clear hU4)
                  clear c8_0 c8_1 l8 xa0 xb0 xc0 xu0
                  have k7 := Kk7.out.of hb
                  clear Kk7
                  have k8 := Kk8.out.of hb
                  clear Kk8
                  replace HB1 := Lib.hid (HB1.out.of hb)
                  replace hb0 := hb0.trans (hb.mono hb0.size)
                  clear hb
                  go_wp2_with fail
                  refine (bigOf_v r12 r12 rfl (Hr12.out ▸ u8_64 _) _).mono ?_
                  rintro e U5 ⟨v_, rfl, hbm, hn⟩
                  replace k7 := k7.of hn
                  replace k8 := k8.of hn
                  replace HB1 := Lib.hid (HB1.out.of hn)
                  replace HB2 := Lib.hid (HB2.out.of hn)
                  replace HB3 := Lib.hid (HB3.out.of hn)
                  replace hb0 := hb0.trans (hn.mono hb0.size)
                  clear hn
                  have HB4 := Lib.hid hbm
                  have hvm := hbm.shape
                  clear hbm
                  obtain ⟨bn4, ba4, bl4, bc4, rfl⟩ := hvm
                  go_wp2_with fail
                  obtain ⟨r13, hr13⟩ : ∃ o_o : Int, r11 + r12 = o_o := ⟨_, rfl⟩
                  have Hr13 := Lib.hid hr13
                  clear hr13
                  refine (bigAdd_v (.agg #[.bool bn3, .slice ba3 bl3 bc3]) (.agg #[.bool bn4, .slice ba4 bl4 bc4]) r11 r12 r13 55 Hr13.out _ HB3.out (HB4.out.mono (by decide)) (by decide)).mono ?_
                  rintro e U6 ⟨v_, rfl, hbm, hn⟩
                  replace k7 := k7.of hn
                  replace k8 := k8.of hn
                  replace HB1 := Lib.hid (HB1.out.of hn)
                  replace HB2 := Lib.hid (HB2.out.of hn)
                  replace HB3 := Lib.hid (HB3.out.of hn)
                  replace HB4 := Lib.hid (HB4.out.of hn)
                  replace hb0 := hb0.trans (hn.mono hb0.size)
                  clear hn
                  have HB5 := Lib.hid hbm
                  have hvm := hbm.shape
                  clear hbm
                  obtain ⟨bn5, ba5, bl5, bc5, rfl⟩ := hvm
                  have c8_0 : U6.cell? ⟨(w.heap.size + 1), 0, none⟩ = some (.bool bn) := k8.cell 0
                  have c8_1 : U6.cell? ⟨(w.heap.size + 1), 1, none⟩ = some (.slice ba bl_ bc) := k8.cell 1
                  have f8_0 := k8.free 0
                  have f8_1 := k8.free 1
                  have l8 := k8.lt
                  go_wp2_with fail
                  clear c8_0 c8_1 f8_0 f8_1 l8
                  first | refine k_world ?_
                  intro V7 hV7
                  have D3 := Lib.hid k7.lt
                  have D4 := Lib.hid k8.lt
                  have D5 := Lib.hid hb0.size
                  have nk7 : Blk V7 w.heap.size #[.bool false, .slice none 0 0] 34 := by rw [hV7]; exact (blk_setL k7 (by omega) 0 [.bool bn5, .slice ba5 bl5 bc5])
                  have nk8 : Blk V7 (w.heap.size + 1) #[.bool bn5, .slice ba5 bl5 bc5] 34 := by rw [hV7]; exact (blk_full _ [.bool bn5, .slice ba5 bl5 bc5] k8 rfl)
                  have nhb0 : Below w.heap.size w V7 := by rw [hV7]; exact (blw_setL hb0 (by omega) 0 [.bool bn5, .slice ba5 bl5 bc5])
                  replace HB1 : Hid (Big V7 (.agg #[.bool bn, .slice ba bl_ bc]) n 50) := Lib.hid (by rw [hV7]; exact (big_setL HB1.out (Blk.cell k8 0) (fun _ h => by cases h) 0 [.bool bn5, .slice ba5 bl5 bc5]))
                  replace HB2 : Hid (Big V7 (.agg #[.bool bn2, .slice ba2 bl2 bc2]) 10 5) := Lib.hid (by rw [hV7]; exact (big_setL HB2.out (Blk.cell k8 0) (fun _ h => by cases h) 0 [.bool bn5, .slice ba5 bl5 bc5]))
                  replace HB3 : Hid (Big V7 (.agg #[.bool bn3, .slice ba3 bl3 bc3]) r11 55) := Lib.hid (by rw [hV7]; exact (big_setL HB3.out (Blk.cell k8 0) (fun _ h => by cases h) 0 [.bool bn5, .slice ba5 bl5 bc5]))
                  replace HB4 : Hid (Big V7 (.agg #[.bool bn4, .slice ba4 bl4 bc4]) r12 5) := Lib.hid (by rw [hV7]; exact (big_setL HB4.out (Blk.cell k8 0) (fun _ h => by cases h) 0 [.bool bn5, .slice ba5 bl5 bc5]))
                  replace HB5 : Hid (Big V7 (.agg #[.bool bn5, .slice ba5 bl5 bc5]) r13 56) := Lib.hid (by rw [hV7]; exact (big_setL HB5.out (Blk.cell k8 0) (fun _ h => by cases h) 0 [.bool bn5, .slice ba5 bl5 bc5]))
                  clear k7 k8
                  clear hb0
                  clear hV7
                  have k7 := nk7
                  clear nk7
                  have k8 := nk8
                  clear nk8
                  have hb0 := nhb0
                  clear nhb0
                  have HIn : DgI s 0 r13 (wrap64 (i + 1)) ∧ s.size - (wrap64 (i + 1)) ≤ (((s.size - (wrap64 (i + 1))).toNat) : Int) := by
                    rw [(HI1.out.1.w (of_decide_eq_true hz7) _sz.out)]
                    exact ⟨(HI1.out.1.next (of_decide_eq_true hz7) Hr8.out (of_decide_eq_false hz9) (of_decide_eq_false hz10) Hr12.out Hr11.out Hr13.out), by omega⟩
                  go_roundg ((s.size - (wrap64 (i + 1))).toNat)
                  case measure =>
                    rw [(HI1.out.1.w (of_decide_eq_true hz7) _sz.out)]
                    have q_ := (of_decide_eq_true hz7)
                    have q2_ := HI1.out.2
                    omega
                  case rel => exact ⟨r13, (wrap64 (i + 1)), bn5, ba5, bl5, bc5, rfl, Lib.hid HIn, k7, k8, (fit_D HB5.out HIn.1 _sz.out), hb0⟩
                · have c7_0 : W1_.cell? ⟨w.heap.size, 0, none⟩ = some (.bool false) := k7.cell 0
                  have c7_1 : W1_.cell? ⟨w.heap.size, 1, none⟩ = some (.slice none 0 0) := k7.cell 1
                  have f7_0 := k7.free 0
                  have f7_1 := k7.free 1
                  have l7 := k7.lt
                  have xa0 : (0 : Int) ≤ i := ((HI1.out.1.ix (of_decide_eq_true hz7))).1
                  have xb0 : (i : Int) < (s.size : Int) := ((HI1.out.1.ix (of_decide_eq_true hz7))).2
                  have xc0 := ch_v s i r8 Hr8.out
                  have xa1 : (0 : Int) ≤ i := ((HI1.out.1.ix (of_decide_eq_true hz7))).1
                  have xb1 : (i : Int) < (s.size : Int) := ((HI1.out.1.ix (of_decide_eq_true hz7))).2
                  have xc1 := ch_v s i r8 Hr8.out
                  have e0 : 0 = R0 := by rw [← HR0.out]; (first   | (exact (HI1.out.1.fin (of_decide_eq_false hz7)).2.symm)   | (exact (dig_no (dig_empty (beqE hz5))).2.symm)   | (exact (dig_no (HI1.out.1.bad (of_decide_eq_true hz7) Hr8.out (.inl (of_decide_eq_true hz9)))).2.symm)   | (exact (dig_no (HI1.out.1.bad (of_decide_eq_true hz7) Hr8.out (.inr (of_decide_eq_true hz10)))).2.symm))
                  have e1 : false = R1 := by rw [← HR1.out]; (first   | (exact (HI1.out.1.fin (of_decide_eq_false hz7)).1.symm)   | (exact (dig_no (dig_empty (beqE hz5))).1.symm)   | (exact (dig_no (HI1.out.1.bad (of_decide_eq_true hz7) Hr8.out (.inl (of_decide_eq_true hz9)))).1.symm)   | (exact (dig_no (HI1.out.1.bad (of_decide_eq_true hz7) Hr8.out (.inr (of_decide_eq_true hz10)))).1.symm))
                  subst e0
                  subst e1
                  go_wp2
                  clear c7_0 c7_1 f7_0 f7_1 l7 xa0 xb0 xc0 xa1 xb1 xc1
                  first | refine post_world ?_
                  intro V8 hV8
                  have D6 := Lib.hid k7.lt
                  have D7 := Lib.hid k8.lt
                  have D8 := Lib.hid hb0.size
                  clear k8
                  have nk7 : Blk V8 w.heap.size #[.bool false, .slice none 0 0] 34 := by rw [hV8]; exact (blk_full _ [.bool false, .slice none 0 0] k7 rfl)
                  have nhb0 : Below w.heap.size w V8 := by rw [hV8]; exact (blw_setL hb0 (by omega) 0 [.bool false, .slice none 0 0])
                  replace HB1 : Hid (Big V8 (.agg #[.bool bn, .slice ba bl_ bc]) n 50) := Lib.hid (by rw [hV8]; exact (big_setL HB1.out (Blk.cell k7 0) (fun _ h => by cases h) 0 [.bool false, .slice none 0 0]))
                  clear k7
                  clear hb0
                  clear hV8
                  have k7 := nk7
                  clear nk7
                  have hb0 := nhb0
                  clear nhb0
                  have g7_0 : V8.cell? ⟨w.heap.size, 0, none⟩ = some (.bool false) := k7.cell 0
                  have g7_1 : V8.cell? ⟨w.heap.size, 1, none⟩ = some (.slice none 0 0) := k7.cell 1
                  clear k7
                  simp [bodyPost, results, Tryd.results11, go_sem, g7_0, g7_1]
                  exact ⟨_, _, _, _, rfl, Big.zero _ _, hb0⟩
              · have c7_0 : W1_.cell? ⟨w.heap.size, 0, none⟩ = some (.bool false) := k7.cell 0
                have c7_1 : W1_.cell? ⟨w.heap.size, 1, none⟩ = some (.slice none 0 0) := k7.cell 1
                have f7_0 := k7.free 0
                have f7_1 := k7.free 1
                have l7 := k7.lt
                have xa0 : (0 : Int) ≤ i := ((HI1.out.1.ix (of_decide_eq_true hz7))).1
                have xb0 : (i : Int) < (s.size : Int) := ((HI1.out.1.ix (of_decide_eq_true hz7))).2
                have xc0 := ch_v s i r8 Hr8.out
                have e0 : 0 = R0 := by rw [← HR0.out]; (first   | (exact (HI1.out.1.fin (of_decide_eq_false hz7)).2.symm)   | (exact (dig_no (dig_empty (beqE hz5))).2.symm)   | (exact (dig_no (HI1.out.1.bad (of_decide_eq_true hz7) Hr8.out (.inl (of_decide_eq_true hz9)))).2.symm))
                have e1 : false = R1 := by rw [← HR1.out]; (first   | (exact (HI1.out.1.fin (of_decide_eq_false hz7)).1.symm)   | (exact (dig_no (dig_empty (beqE hz5))).1.symm)   | (exact (dig_no (HI1.out.1.bad (of_decide_eq_true hz7) Hr8.out (.inl (of_decide_eq_true hz9)))).1.symm))
                subst e0
                subst e1
                go_wp2
                clear c7_0 c7_1 f7_0 f7_1 l7 xa0 xb0 xc0
                first | refine post_world ?_
                intro V9 hV9
                have D9 := Lib.hid k7.lt
                have D10 := Lib.hid k8.lt
                have D11 := Lib.hid hb0.size
                clear k8
                have nk7 : Blk V9 w.heap.size #[.bool false, .slice none 0 0] 34 := by rw [hV9]; exact (blk_full _ [.bool false, .slice none 0 0] k7 rfl)
                have nhb0 : Below w.heap.size w V9 := by rw [hV9]; exact (blw_setL hb0 (by omega) 0 [.bool false, .slice none 0 0])
                replace HB1 : Hid (Big V9 (.agg #[.bool bn, .slice ba bl_ bc]) n 50) := Lib.hid (by rw [hV9]; exact (big_setL HB1.out (Blk.cell k7 0) (fun _ h => by cases h) 0 [.bool false, .slice none 0 0]))
                clear k7
                clear hb0
                clear hV9
                have k7 := nk7
                clear nk7
                have hb0 := nhb0
                clear nhb0
                have g7_0 : V9.cell? ⟨w.heap.size, 0, none⟩ = some (.bool false) := k7.cell 0
                have g7_1 : V9.cell? ⟨w.heap.size, 1, none⟩ = some (.slice none 0 0) := k7.cell 1
                clear k7
                simp [bodyPost, results, Tryd.results11, go_sem, g7_0, g7_1]
                exact ⟨_, _, _, _, rfl, Big.zero _ _, hb0⟩
        · obtain rfl : r3 = 48 := by simpa using hz6
          clear hz6
          obtain ⟨z14, hz14⟩ : ∃ o_o : Bool, decide (1 < (s.size : Int)) = o_o := ⟨_, rfl⟩
          cases z14
          · have xa0 : (0 : Int) ≤ 0 := ((⟨by omega, of_decide_eq_true hz1⟩ : (0 : Int) ≤ 0 ∧ (0 : Int) < (s.size : Int))).1
            have xb0 : (0 : Int) < (s.size : Int) := ((⟨by omega, of_decide_eq_true hz1⟩ : (0 : Int) ≤ 0 ∧ (0 : Int) < (s.size : Int))).2
            have xc0 := ch_v s 0 48 Hr3.out
            have xd0 : 0 < s.size := by omega
            have xe0 : ∀ hi : 0 < s.size, ((s[0]'hi).toNat : Int) = 48 := xc0
            have xa1 : (0 : Int) ≤ 0 := ((⟨by omega, of_decide_eq_true hz1⟩ : (0 : Int) ≤ 0 ∧ (0 : Int) < (s.size : Int))).1
            have xb1 : (0 : Int) < (s.size : Int) := ((⟨by omega, of_decide_eq_true hz1⟩ : (0 : Int) ≤ 0 ∧ (0 : Int) < (s.size : Int))).2
            have xc1 := ch_v s 0 48 Hr3.out
            have xd1 : 0 < s.size := by omega
            have xe1 : ∀ hi : 0 < s.size, ((s[0]'hi).toNat : Int) = 48 := xc1
            go_enter Tryd.func11, Tryd.ntmps11
            go_wp2_with fail
            clear xa0 xb0 xc0 xd0 xe0 xa1 xb1 xc1 xd1 xe1
            first | refine name_world ?_
            intro V10 hV10
            have hn : Below w.heap.size w V10 := by rw [hV10]; exact below_a2 _ _ _
            have nhb0 := hn
            have k10 : Blk V10 w.heap.size #[.bool false, .slice none 0 0] 34 := by rw [hV10]; exact ((Blk.new _ _ _).alloc _)
            have k11 : Blk V10 (w.heap.size + 1) #[.bool false, .slice none 0 0] 34 := by rw [hV10]; exact (Blk.new1 _ _ _ _)
            clear hV10
            have hb0 := nhb0
            clear nhb0
            go_loopg [6] (s.size) (fun gk_ s2_0 wr => ∃ (n : Int) (i : Int) (bn : Bool) (ba : Option Addr) (bl_ bc : Nat), s2_0 = .int .i64 i ∧ Hid (DgI s 0 n i ∧ s.size - i ≤ (gk_ : Int)) ∧ Blk wr w.heap.size #[.bool false, .slice none 0 0] 34 ∧ Blk wr (w.heap.size + 1) #[.bool bn, .slice ba bl_ bc] 34 ∧ Big wr (.agg #[.bool bn, .slice ba bl_ bc]) n 50 ∧ Below w.heap.size w wr)
            case atStart =>
              have HIn : DgI s 0 0 0 ∧ s.size - 0 ≤ ((s.size) : Int) := by
                first
                  | (exact ⟨DgI.begin (DgH.mk0 Hr3.out (of_decide_eq_true hz1) (beqN hz4) (.inl (beqN hz6))), by omega⟩)
                  | (exact ⟨DgI.begin (DgH.mk0 Hr3.out (of_decide_eq_true hz1) (beqN hz4) (.inr (of_decide_eq_false hz14))), by omega⟩)
              exact ⟨0, 0, false, none, 0, 0, rfl, Lib.hid HIn, k10, k11, (Big.zero _ _), hb0⟩
            case round =>
              rename World => W2_
              rename Nat => gk2
              clear k10 k11
              clear hb0
              obtain ⟨n, i, bn, ba, bl_, bc, rfl, HI2, k10, k11, HB6_, hb0⟩ := hrel
              have HB6 := Lib.hid HB6_
              clear HB6_
              obtain ⟨z15, hz15⟩ : ∃ o_o : Bool, decide (i < (s.size : Int)) = o_o := ⟨_, rfl⟩
              cases z15
              · have c10_0 : W2_.cell? ⟨w.heap.size, 0, none⟩ = some (.bool false) := k10.cell 0
                have c10_1 : W2_.cell? ⟨w.heap.size, 1, none⟩ = some (.slice none 0 0) := k10.cell 1
                have f10_0 := k10.free 0
                have f10_1 := k10.free 1
                have l10 := k10.lt
                have c11_0 : W2_.cell? ⟨(w.heap.size + 1), 0, none⟩ = some (.bool bn) := k11.cell 0
                have c11_1 : W2_.cell? ⟨(w.heap.size + 1), 1, none⟩ = some (.slice ba bl_ bc) := k11.cell 1
                have l11 := k11.lt
                have p11_10 : (w.heap.size + 1) ≠ w.heap.size := (by omega)
                have e0 : n = R0 := by rw [← HR0.out]; (first   | (exact (HI2.out.1.fin (of_decide_eq_false hz15)).2.symm)   | (exact (dig_no (dig_z0 Hr3.out (of_decide_eq_true hz14))).2.symm)   | (exact (dig_no (dig_empty (beqE hz5))).2.symm))
                have e1 : true = R1 := by rw [← HR1.out]; (first   | (exact (HI2.out.1.fin (of_decide_eq_false hz15)).1.symm)   | (exact (dig_no (dig_z0 Hr3.out (of_decide_eq_true hz14))).1.symm)   | (exact (dig_no (dig_empty (beqE hz5))).1.symm))
                subst e0
                subst e1
                go_wp2
                clear c10_0 c10_1 f10_0 f10_1 l10 c11_0 c11_1 l11 p11_10
                first | refine post_world ?_
                intro V11 hV11
                clear k11
                have D12 := Lib.hid k10.lt
                have D13 := Lib.hid hb0.size
                have nk10 : Blk V11 w.heap.size #[.bool bn, .slice ba bl_ bc] 34 := by rw [hV11]; exact (blk_full _ [.bool bn, .slice ba bl_ bc] k10 rfl)
                have nhb0 : Below w.heap.size w V11 := by rw [hV11]; exact (blw_setL hb0 (by omega) 0 [.bool bn, .slice ba bl_ bc])
                replace HB6 : Hid (Big V11 (.agg #[.bool bn, .slice ba bl_ bc]) n 50) := Lib.hid (by rw [hV11]; exact (big_setL HB6.out (Blk.cell k10 0) (fun _ h => by cases h) 0 [.bool bn, .slice ba bl_ bc]))
                clear k10
                clear hb0
                clear hV11
                have k10 := nk10
                clear nk10
                have hb0 := nhb0
                clear nhb0
                have g10_0 : V11.cell? ⟨w.heap.size, 0, none⟩ = some (.bool bn) := k10.cell 0
                have g10_1 : V11.cell? ⟨w.heap.size, 1, none⟩ = some (.slice ba bl_ bc) := k10.cell 1
                clear k10
                simp [bodyPost, results, Tryd.results11, go_sem, g10_0, g10_1]
                exact ⟨_, _, _, _, rfl, (HB6.out.mono (by decide)), hb0⟩
              · obtain ⟨r16, hr16⟩ : ∃ o_o : Int, chI s i = o_o := ⟨_, rfl⟩
                have Hr16 := Lib.hid hr16
                clear hr16
                obtain ⟨z17, hz17⟩ : ∃ o_o : Bool, decide (r16 < 48) = o_o := ⟨_, rfl⟩
                cases z17
                · obtain ⟨z18, hz18⟩ : ∃ o_o : Bool, decide (57 < r16) = o_o := ⟨_, rfl⟩
                  cases z18
                  · have xa0 : (0 : Int) ≤ i := ((HI2.out.1.ix (of_decide_eq_true hz15))).1
                    have xb0 : (i : Int) < (s.size : Int) := ((HI2.out.1.ix (of_decide_eq_true hz15))).2
                    have xc0 := ch_v s i r16 Hr16.out
                    have xa1 : (0 : Int) ≤ i := ((HI2.out.1.ix (of_decide_eq_true hz15))).1
                    have xb1 : (i : Int) < (s.size : Int) := ((HI2.out.1.ix (of_decide_eq_true hz15))).2
                    have xc1 := ch_v s i r16 Hr16.out
                    go_wp2_with fail
                    clear xa0 xb0 xc0 xa1 xb1 xc1
                    obtain ⟨r19, hr19⟩ : ∃ o_o : Int, n * 10 = o_o := ⟨_, rfl⟩
                    have Hr19 := Lib.hid hr19
                    clear hr19
                    obtain ⟨r20, hr20⟩ : ∃ o_o : Int, (r16 - 48) % 256 = o_o := ⟨_, rfl⟩
                    have Hr20 := Lib.hid hr20
                    clear hr20
                    have c11_0 : W2_.cell? ⟨(w.heap.size + 1), 0, none⟩ = some (.bool bn) := k11.cell 0
                    have c11_1 : W2_.cell? ⟨(w.heap.size + 1), 1, none⟩ = some (.slice ba bl_ bc) := k11.cell 1
                    have l11 := k11.lt
                    have xa0 : (0 : Int) ≤ i := ((HI2.out.1.ix (of_decide_eq_true hz15))).1
                    have xb0 : (i : Int) < (s.size : Int) := ((HI2.out.1.ix (of_decide_eq_true hz15))).2
                    have xc0 := ch_v s i r16 Hr16.out
                    have xu0 := Hr20.out
                    have Kk10 := Lib.hid k10
                    clear k10
                    have Kk11 := Lib.hid k11
                    clear k11
                    refine wp_region_up W2_.heap.size 8 [(true, 0), (true, 3), (true, 4), (true, 5), (true, 6), (true, 7), (false, 1), (false, 2)] (by kernel_rfl) (by kernel_rfl) (fun _ _ d _ _ h => by cases d <;> exact h) ?_
                    have hb : Below W2_.heap.size W2_ W2_.drew := (Below.refl _ _).drew
                    iterate 6
                      refine wpS_takeL rfl rfl ?_
                      go_big_quiet_step (rfl)
                      refine wpQuiet_nil ?_
                    refine wpS_doL rfl ?_
                    intro K hK
                    go_wp2_with ((go_at_call 24; (with_reducible refine (bigOf_v 10 10 rfl (by unfold In64; omega) _).mono ?_); rintro e w2 ⟨v_, rfl, hbm, hn⟩; have HB7 := Lib.hid hbm; have hvm := hbm.shape; clear hbm; obtain ⟨bn7, ba7, bl7, bc7, rfl⟩ := hvm))
                    replace hb := hb.trans (hn.mono hb.size)
                    refine hK.out _ _ (up_iff.2 hb) ?_
                    clear hK K
                    clear hn
                    refine wpS_doL rfl ?_
                    intro K hK
                    go_wp2_with ((go_at_call 25; (with_reducible refine (bigMul_v (.agg #[.bool bn, .slice ba bl_ bc]) (.agg #[.bool bn7, .slice ba7 bl7 bc7]) n 10 r19 50 5 Hr19.out _ (HB6.out.of hb) HB7.out (by decide)).mono ?_); rintro e w2 ⟨v_, rfl, hbm, hn⟩; replace HB7 := Lib.hid (HB7.out.of hn); have HB8 := Lib.hid hbm; have hvm := hbm.shape; clear hbm; obtain ⟨bn8, ba8, bl8, bc8, rfl⟩ := hvm))
                    replace hb := hb.trans (hn.mono hb.size)
                    refine hK.out _ _ (up_iff.2 hb) ?_
                    clear hK K
                    clear hn
                    refine wpS_nil ?_
                    simp only [List.drop_succ_cons, List.drop_zero]
                    first | refine calls_w ?_ | refine name_world ?_ | refine list_world ?_ | refine post_world ?_
                    intro U12 hU12
                    first | (subst hU12; have u_ := U12; clear u_) | (rw [← hU12] at hb; clear hU12)
                    clear c11_0 c11_1 l11 xa0 xb0 xc0 xu0
                    have k10 := Kk10.out.of hb
                    clear Kk10
                    have k11 := Kk11.out.of hb
                    clear Kk11
                    replace HB6 := Lib.hid (HB6.out.of hb)
                    replace hb0 := hb0.trans (hb.mono hb0.size)
                    clear hb
                    go_wp2_with fail
                    refine (bigOf_v r20 r20 rfl (Hr20.out ▸ u8_64 _) _).mono ?_
                    rintro e U13 ⟨v_, rfl, hbm, hn⟩
                    replace k10 := k10.of hn
                    replace k11 := k11.of hn
                    replace HB6 := Lib.hid (HB6.out.of hn)
                    replace HB7 := Lib.hid (HB7.out.of hn)
                    replace HB8 := Lib.hid (HB8.out.of hn)
                    replace hb0 := hb0.trans (hn.mono hb0.size)
                    clear hn
                    have HB9 := Lib.hid hbm
                    have hvm := hbm.shape
                    clear hbm
                    obtain ⟨bn9, ba9, bl9, bc9, rfl⟩ := hvm
                    go_wp2_with fail
                    obtain ⟨r21, hr21⟩ : ∃ o_o : Int, r19 + r20 = o_o := ⟨_, rfl⟩
                    have Hr21 := Lib.hid hr21
                    clear hr21
                    refine (bigAdd_v (.agg #[.bool bn8, .slice ba8 bl8 bc8]) (.agg #[.bool bn9, .slice ba9 bl9 bc9]) r19 r20 r21 55 Hr21.out _ HB8.out (HB9.out.mono (by decide)) (by decide)).mono ?_
                    rintro e U14 ⟨v_, rfl, hbm, hn⟩
                    replace k10 := k10.of hn
                    replace k11 := k11.of hn
                    replace HB6 := Lib.hid (HB6.out.of hn)
                    replace HB7 := Lib.hid (HB7.out.of hn)
                    replace HB8 := Lib.hid (HB8.out.of hn)
                    replace HB9 := Lib.hid (HB9.out.of hn)
                    replace hb0 := hb0.trans (hn.mono hb0.size)
                    clear hn
                    have HB10 := Lib.hid hbm
                    have hvm := hbm.shape
                    clear hbm
                    obtain ⟨bn10, ba10, bl10, bc10, rfl⟩ := hvm
                    have c11_0 : U14.cell? ⟨(w.heap.size + 1), 0, none⟩ = some (.bool bn) := k11.cell 0
                    have c11_1 : U14.cell? ⟨(w.heap.size + 1), 1, none⟩ = some (.slice ba bl_ bc) := k11.cell 1
                    have f11_0 := k11.free 0
                    have f11_1 := k11.free 1
                    have l11 := k11.lt
                    go_wp2_with fail
                    clear c11_0 c11_1 f11_0 f11_1 l11
                    first | refine k_world ?_
                    intro V15 hV15
                    have D14 := Lib.hid k10.lt
                    have D15 := Lib.hid k11.lt
                    have D16 := Lib.hid hb0.size
                    have nk10 : Blk V15 w.heap.size #[.bool false, .slice none 0 0] 34 := by rw [hV15]; exact (blk_setL k10 (by omega) 0 [.bool bn10, .slice ba10 bl10 bc10])
                    have nk11 : Blk V15 (w.heap.size + 1) #[.bool bn10, .slice ba10 bl10 bc10] 34 := by rw [hV15]; exact (blk_full _ [.bool bn10, .slice ba10 bl10 bc10] k11 rfl)
                    have nhb0 : Below w.heap.size w V15 := by rw [hV15]; exact (blw_setL hb0 (by omega) 0 [.bool bn10, .slice ba10 bl10 bc10])
                    replace HB6 : Hid (Big V15 (.agg #[.bool bn, .slice ba bl_ bc]) n 50) := Lib.hid (by rw [hV15]; exact (big_setL HB6.out (Blk.cell k11 0) (fun _ h => by cases h) 0 [.bool bn10, .slice ba10 bl10 bc10]))
                    replace HB7 : Hid (Big V15 (.agg #[.bool bn7, .slice ba7 bl7 bc7]) 10 5) := Lib.hid (by rw [hV15]; exact (big_setL HB7.out (Blk.cell k11 0) (fun _ h => by cases h) 0 [.bool bn10, .slice ba10 bl10 bc10]))
                    replace HB8 : Hid (Big V15 (.agg #[.bool bn8, .slice ba8 bl8 bc8]) r19 55) := Lib.hid (by rw [hV15]; exact (big_setL HB8.out (Blk.cell k11 0) (fun _ h => by cases h) 0 [.bool bn10, .slice ba10 bl10 bc10]))
                    replace HB9 : Hid (Big V15 (.agg #[.bool bn9, .slice ba9 bl9 bc9]) r20 5) := Lib.hid (by rw [hV15]; exact (big_setL HB9.out (Blk.cell k11 0) (fun _ h => by cases h) 0 [.bool bn10, .slice ba10 bl10 bc10]))
                    replace HB10 : Hid (Big V15 (.agg #[.bool bn10, .slice ba10 bl10 bc10]) r21 56) := Lib.hid (by rw [hV15]; exact (big_setL HB10.out (Blk.cell k11 0) (fun _ h => by cases h) 0 [.bool bn10, .slice ba10 bl10 bc10]))
                    clear k10 k11
                    clear hb0
                    clear hV15
                    have k10 := nk10
                    clear nk10
                    have k11 := nk11
                    clear nk11
                    have hb0 := nhb0
                    clear nhb0
                    have HIn : DgI s 0 r21 (wrap64 (i + 1)) ∧ s.size - (wrap64 (i + 1)) ≤ (((s.size - (wrap64 (i + 1))).toNat) : Int) := by
                      rw [(HI2.out.1.w (of_decide_eq_true hz15) _sz.out)]
                      exact ⟨(HI2.out.1.next (of_decide_eq_true hz15) Hr16.out (of_decide_eq_false hz17) (of_decide_eq_false hz18) Hr20.out Hr19.out Hr21.out), by omega⟩
                    go_roundg ((s.size - (wrap64 (i + 1))).toNat)
                    case measure =>
                      rw [(HI2.out.1.w (of_decide_eq_true hz15) _sz.out)]
                      have q_ := (of_decide_eq_true hz15)
                      have q2_ := HI2.out.2
                      omega
                    case rel => exact ⟨r21, (wrap64 (i + 1)), bn10, ba10, bl10, bc10, rfl, Lib.hid HIn, k10, k11, (fit_D HB10.out HIn.1 _sz.out), hb0⟩
                  · have c10_0 : W2_.cell? ⟨w.heap.size, 0, none⟩ = some (.bool false) := k10.cell 0
                    have c10_1 : W2_.cell? ⟨w.heap.size, 1, none⟩ = some (.slice none 0 0) := k10.cell 1
                    have f10_0 := k10.free 0
                    have f10_1 := k10.free 1
                    have l10 := k10.lt
                    have xa0 : (0 : Int) ≤ i := ((HI2.out.1.ix (of_decide_eq_true hz15))).1
                    have xb0 : (i : Int) < (s.size : Int) := ((HI2.out.1.ix (of_decide_eq_true hz15))).2
                    have xc0 := ch_v s i r16 Hr16.out
                    have xa1 : (0 : Int) ≤ i := ((HI2.out.1.ix (of_decide_eq_true hz15))).1
                    have xb1 : (i : Int) < (s.size : Int) := ((HI2.out.1.ix (of_decide_eq_true hz15))).2
                    have xc1 := ch_v s i r16 Hr16.out
                    have e0 : 0 = R0 := by rw [← HR0.out]; (first   | (exact (HI2.out.1.fin (of_decide_eq_false hz15)).2.symm)   | (exact (dig_no (dig_z0 Hr3.out (of_decide_eq_true hz14))).2.symm)   | (exact (dig_no (dig_empty (beqE hz5))).2.symm)   | (exact (dig_no (HI2.out.1.bad (of_decide_eq_true hz15) Hr16.out (.inl (of_decide_eq_true hz17)))).2.symm)   | (exact (dig_no (HI2.out.1.bad (of_decide_eq_true hz15) Hr16.out (.inr (of_decide_eq_true hz18)))).2.symm))
                    have e1 : false = R1 := by rw [← HR1.out]; (first   | (exact (HI2.out.1.fin (of_decide_eq_false hz15)).1.symm)   | (exact (dig_no (dig_z0 Hr3.out (of_decide_eq_true hz14))).1.symm)   | (exact (dig_no (dig_empty (beqE hz5))).1.symm)   | (exact (dig_no (HI2.out.1.bad (of_decide_eq_true hz15) Hr16.out (.inl (of_decide_eq_true hz17)))).1.symm)   | (exact (dig_no (HI2.out.1.bad (of_decide_eq_true hz15) Hr16.out (.inr (of_decide_eq_true hz18)))).1.symm))
                    subst e0
                    subst e1
                    go_wp2
                    clear c10_0 c10_1 f10_0 f10_1 l10 xa0 xb0 xc0 xa1 xb1 xc1
                    first | refine post_world ?_
                    intro V16 hV16
                    have D17 := Lib.hid k10.lt
                    have D18 := Lib.hid k11.lt
                    have D19 := Lib.hid hb0.size
                    clear k11
                    have nk10 : Blk V16 w.heap.size #[.bool false, .slice none 0 0] 34 := by rw [hV16]; exact (blk_full _ [.bool false, .slice none 0 0] k10 rfl)
                    have nhb0 : Below w.heap.size w V16 := by rw [hV16]; exact (blw_setL hb0 (by omega) 0 [.bool false, .slice none 0 0])
                    replace HB6 : Hid (Big V16 (.agg #[.bool bn, .slice ba bl_ bc]) n 50) := Lib.hid (by rw [hV16]; exact (big_setL HB6.out (Blk.cell k10 0) (fun _ h => by cases h) 0 [.bool false, .slice none 0 0]))
                    clear k10
                    clear hb0
                    clear hV16
                    have k10 := nk10
                    clear nk10
                    have hb0 := nhb0
                    clear nhb0
                    have g10_0 : V16.cell? ⟨w.heap.size, 0, none⟩ = some (.bool false) := k10.cell 0
                    have g10_1 : V16.cell? ⟨w.heap.size, 1, none⟩ = some (.slice none 0 0) := k10.cell 1
                    clear k10
                    simp [bodyPost, results, Tryd.results11, go_sem, g10_0, g10_1]
                    exact ⟨_, _, _, _, rfl, Big.zero _ _, hb0⟩
                · have c10_0 : W2_.cell? ⟨w.heap.size, 0, none⟩ = some (.bool false) := k10.cell 0
                  have c10_1 : W2_.cell? ⟨w.heap.size, 1, none⟩ = some (.slice none 0 0) := k10.cell 1
                  have f10_0 := k10.free 0
                  have f10_1 := k10.free 1
                  have l10 := k10.lt
                  have xa0 : (0 : Int) ≤ i := ((HI2.out.1.ix (of_decide_eq_true hz15))).1
                  have xb0 : (i : Int) < (s.size : Int) := ((HI2.out.1.ix (of_decide_eq_true hz15))).2
                  have xc0 := ch_v s i r16 Hr16.out
                  have e0 : 0 = R0 := by rw [← HR0.out]; (first   | (exact (HI2.out.1.fin (of_decide_eq_false hz15)).2.symm)   | (exact (dig_no (dig_z0 Hr3.out (of_decide_eq_true hz14))).2.symm)   | (exact (dig_no (dig_empty (beqE hz5))).2.symm)   | (exact (dig_no (HI2.out.1.bad (of_decide_eq_true hz15) Hr16.out (.inl (of_decide_eq_true hz17)))).2.symm))
                  have e1 : false = R1 := by rw [← HR1.out]; (first   | (exact (HI2.out.1.fin (of_decide_eq_false hz15)).1.symm)   | (exact (dig_no (dig_z0 Hr3.out (of_decide_eq_true hz14))).1.symm)   | (exact (dig_no (dig_empty (beqE hz5))).1.symm)   | (exact (dig_no (HI2.out.1.bad (of_decide_eq_true hz15) Hr16.out (.inl (of_decide_eq_true hz17)))).1.symm))
                  subst e0
                  subst e1
                  go_wp2
                  clear c10_0 c10_1 f10_0 f10_1 l10 xa0 xb0 xc0
                  first | refine post_world ?_
                  intro V17 hV17
                  have D20 := Lib.hid k10.lt
                  have D21 := Lib.hid k11.lt
                  have D22 := Lib.hid hb0.size
                  clear k11
                  have nk10 : Blk V17 w.heap.size #[.bool false, .slice none 0 0] 34 := by rw [hV17]; exact (blk_full _ [.bool false, .slice none 0 0] k10 rfl)
                  have nhb0 : Below w.heap.size w V17 := by rw [hV17]; exact (blw_setL hb0 (by omega) 0 [.bool false, .slice none 0 0])
                  replace HB6 : Hid (Big V17 (.agg #[.bool bn, .slice ba bl_ bc]) n 50) := Lib.hid (by rw [hV17]; exact (big_setL HB6.out (Blk.cell k10 0) (fun _ h => by cases h) 0 [.bool false, .slice none 0 0]))
                  clear k10
                  clear hb0
                  clear hV17
                  have k10 := nk10
                  clear nk10
                  have hb0 := nhb0
                  clear nhb0
                  have g10_0 : V17.cell? ⟨w.heap.size, 0, none⟩ = some (.bool false) := k10.cell 0
                  have g10_1 : V17.cell? ⟨w.heap.size, 1, none⟩ = some (.slice none 0 0) := k10.cell 1
                  clear k10
                  simp [bodyPost, results, Tryd.results11, go_sem, g10_0, g10_1]
                  exact ⟨_, _, _, _, rfl, Big.zero _ _, hb0⟩
          · have xa0 : (0 : Int) ≤ 0 := ((⟨by omega, of_decide_eq_true hz1⟩ : (0 : Int) ≤ 0 ∧ (0 : Int) < (s.size : Int))).1
            have xb0 : (0 : Int) < (s.size : Int) := ((⟨by omega, of_decide_eq_true hz1⟩ : (0 : Int) ≤ 0 ∧ (0 : Int) < (s.size : Int))).2
            have xc0 := ch_v s 0 48 Hr3.out
            have xd0 : 0 < s.size := by omega
            have xe0 : ∀ hi : 0 < s.size, ((s[0]'hi).toNat : Int) = 48 := xc0
            have xa1 : (0 : Int) ≤ 0 := ((⟨by omega, of_decide_eq_true hz1⟩ : (0 : Int) ≤ 0 ∧ (0 : Int) < (s.size : Int))).1
            have xb1 : (0 : Int) < (s.size : Int) := ((⟨by omega, of_decide_eq_true hz1⟩ : (0 : Int) ≤ 0 ∧ (0 : Int) < (s.size : Int))).2
            have xc1 := ch_v s 0 48 Hr3.out
            have xd1 : 0 < s.size := by omega
            have xe1 : ∀ hi : 0 < s.size, ((s[0]'hi).toNat : Int) = 48 := xc1
            go_enter Tryd.func11, Tryd.ntmps11
            have e0 : 0 = R0 := by rw [← HR0.out]; (first   | (exact (dig_no (dig_z0 Hr3.out (of_decide_eq_true hz14))).2.symm)   | (exact (dig_no (dig_empty (beqE hz5))).2.symm))
            have e1 : false = R1 := by rw [← HR1.out]; (first   | (exact (dig_no (dig_z0 Hr3.out (of_decide_eq_true hz14))).1.symm)   | (exact (dig_no (dig_empty (beqE hz5))).1.symm))
            subst e0
            subst e1
            go_wp2
            clear xa0 xb0 xc0 xd0 xe0 xa1 xb1 xc1 xd1 xe1
            first | refine post_world ?_
            intro V18 hV18
            have hn : Below w.heap.size w V18 := by rw [hV18]; exact below_a1 _ _
            have nhb0 := hn
            have k12 : Blk V18 w.heap.size #[.bool false, .slice none 0 0] 34 := by rw [hV18]; exact (Blk.new _ _ _)
            clear hV18
            have hb0 := nhb0
            clear nhb0
            have g12_0 : V18.cell? ⟨w.heap.size, 0, none⟩ = some (.bool false) := k12.cell 0
            have g12_1 : V18.cell? ⟨w.heap.size, 1, none⟩ = some (.slice none 0 0) := k12.cell 1
            clear k12
            simp [bodyPost, results, Tryd.results11, go_sem, g12_0, g12_1]
            exact ⟨_, _, _, _, rfl, Big.zero _ _, hb0⟩
      · exact absurd (of_decide_eq_true hz1) (by have b_ := beqE hz5; omega)
    · obtain rfl : r3 = 45 := by simpa using hz4
      clear hz4
      obtain ⟨z22, hz22⟩ : ∃ o_o : Bool, ((s.size : Int) == 1) = o_o := ⟨_, rfl⟩
      cases z22
      · have nz22 : ¬ (s.size : Int) = 1 := by simpa using hz22
        obtain ⟨r23, hr23⟩ : ∃ o_o : Int, chI s 1 = o_o := ⟨_, rfl⟩
        have Hr23 := Lib.hid hr23
        clear hr23
        obtain ⟨z24, hz24⟩ : ∃ o_o : Bool, (r23 == 48) = o_o := ⟨_, rfl⟩
        cases z24
        · have nz24 : ¬ r23 = 48 := by simpa using hz24
          have xa0 : (0 : Int) ≤ 0 := ((⟨by omega, of_decide_eq_true hz1⟩ : (0 : Int) ≤ 0 ∧ (0 : Int) < (s.size : Int))).1
          have xb0 : (0 : Int) < (s.size : Int) := ((⟨by omega, of_decide_eq_true hz1⟩ : (0 : Int) ≤ 0 ∧ (0 : Int) < (s.size : Int))).2
          have xc0 := ch_v s 0 45 Hr3.out
          have xd0 : 0 < s.size := by omega
          have xe0 : ∀ hi : 0 < s.size, ((s[0]'hi).toNat : Int) = 45 := xc0
          have xa1 : (0 : Int) ≤ 1 := ((⟨by omega, by have a_ := of_decide_eq_true hz1; have b_ := beqN hz22; omega⟩ : (0 : Int) ≤ 1 ∧ (1 : Int) < (s.size : Int))).1
          have xb1 : (1 : Int) < (s.size : Int) := ((⟨by omega, by have a_ := of_decide_eq_true hz1; have b_ := beqN hz22; omega⟩ : (0 : Int) ≤ 1 ∧ (1 : Int) < (s.size : Int))).2
          have xc1 := ch_v s 1 r23 Hr23.out
          have xd1 : 1 < s.size := by omega
          have xe1 : ∀ hi : 1 < s.size, ((s[1]'hi).toNat : Int) = r23 := xc1
          go_enter Tryd.func11, Tryd.ntmps11
          go_wp2_with fail
          clear xa0 xb0 xc0 xd0 xe0 xa1 xb1 xc1 xd1 xe1
          first | refine name_world ?_
          intro V19 hV19
          have hn : Below w.heap.size w V19 := by rw [hV19]; exact below_a2 _ _ _
          have nhb0 := hn
          have k15 : Blk V19 w.heap.size #[.bool false, .slice none 0 0] 34 := by rw [hV19]; exact ((Blk.new _ _ _).alloc _)
          have k16 : Blk V19 (w.heap.size + 1) #[.bool false, .slice none 0 0] 34 := by rw [hV19]; exact (Blk.new1 _ _ _ _)
          clear hV19
          have hb0 := nhb0
          clear nhb0
          go_loopg [6] (s.size) (fun gk_ s3_0 wr => ∃ (n : Int) (i : Int) (bn : Bool) (ba : Option Addr) (bl_ bc : Nat), s3_0 = .int .i64 i ∧ Hid (DgI s 1 n i ∧ s.size - i ≤ (gk_ : Int)) ∧ Blk wr w.heap.size #[.bool false, .slice none 0 0] 34 ∧ Blk wr (w.heap.size + 1) #[.bool bn, .slice ba bl_ bc] 34 ∧ Big wr (.agg #[.bool bn, .slice ba bl_ bc]) n 50 ∧ Below w.heap.size w wr)
          case atStart =>
            have HIn : DgI s 1 0 1 ∧ s.size - 1 ≤ ((s.size) : Int) := by
              exact ⟨DgI.begin (DgH.mk1 Hr3.out (of_decide_eq_true hz1) (beqN hz22) Hr23.out (.inl (beqN hz24))), by omega⟩
            exact ⟨0, 1, false, none, 0, 0, rfl, Lib.hid HIn, k15, k16, (Big.zero _ _), hb0⟩
          case round =>
            rename World => W3_
            rename Nat => gk3
            clear k15 k16
            clear hb0
            obtain ⟨n, i, bn, ba, bl_, bc, rfl, HI3, k15, k16, HB11_, hb0⟩ := hrel
            have HB11 := Lib.hid HB11_
            clear HB11_
            obtain ⟨z25, hz25⟩ : ∃ o_o : Bool, decide (i < (s.size : Int)) = o_o := ⟨_, rfl⟩
            cases z25
            · have c16_0 : W3_.cell? ⟨(w.heap.size + 1), 0, none⟩ = some (.bool bn) := k16.cell 0
              have c16_1 : W3_.cell? ⟨(w.heap.size + 1), 1, none⟩ = some (.slice ba bl_ bc) := k16.cell 1
              have l16 := k16.lt
              go_wp2_with fail
              clear c16_0 c16_1 l16
              obtain ⟨r26, hr26⟩ : ∃ o_o : Int, -n = o_o := ⟨_, rfl⟩
              have Hr26 := Lib.hid hr26
              clear hr26
              refine (bigMinus_v (.agg #[.bool bn, .slice ba bl_ bc]) n r26 50 Hr26.out _ HB11.out).mono ?_
              rintro e U20 ⟨v_, rfl, hbm, hn⟩
              replace k15 := k15.of hn
              replace k16 := k16.of hn
              replace HB11 := Lib.hid (HB11.out.of hn)
              replace hb0 := hb0.trans (hn.mono hb0.size)
              clear hn
              have HB12 := Lib.hid hbm
              have hvm := hbm.shape
              clear hbm
              obtain ⟨bn12, ba12, bl12, bc12, rfl⟩ := hvm
              have c15_0 : U20.cell? ⟨w.heap.size, 0, none⟩ = some (.bool false) := k15.cell 0
              have c15_1 : U20.cell? ⟨w.heap.size, 1, none⟩ = some (.slice none 0 0) := k15.cell 1
              have f15_0 := k15.free 0
              have f15_1 := k15.free 1
              have l15 := k15.lt
              have c16_0 : U20.cell? ⟨(w.heap.size + 1), 0, none⟩ = some (.bool bn) := k16.cell 0
              have c16_1 : U20.cell? ⟨(w.heap.size + 1), 1, none⟩ = some (.slice ba bl_ bc) := k16.cell 1
              have f16_0 := k16.free 0
              have f16_1 := k16.free 1
              have l16 := k16.lt
              have p15_16 : w.heap.size ≠ (w.heap.size + 1) := (by omega)
              have e0 : r26 = R0 := by rw [← HR0.out]; (first   | (rw [← Hr26.out]; exact (HI3.out.1.fin (of_decide_eq_false hz25)).2.symm)   | (exact (HI3.out.1.fin (of_decide_eq_false hz25)).2.symm)   | (exact (dig_no (dig_m1 Hr3.out (beqE hz22))).2.symm))
              have e1 : true = R1 := by rw [← HR1.out]; (first   | (exact (HI3.out.1.fin (of_decide_eq_false hz25)).1.symm)   | (exact (dig_no (dig_m1 Hr3.out (beqE hz22))).1.symm))
              subst e0
              subst e1
              go_wp2
              clear c15_0 c15_1 f15_0 f15_1 l15 c16_0 c16_1 f16_0 f16_1 l16 p15_16
              first | refine post_world ?_
              intro V21 hV21
              clear HB11
              have D23 := Lib.hid k15.lt
              have D24 := Lib.hid k16.lt
              have D25 := Lib.hid hb0.size
              have nk15 : Blk V21 w.heap.size #[.bool bn12, .slice ba12 bl12 bc12] 34 := by rw [hV21]; exact (blk_full _ [.bool bn12, .slice ba12 bl12 bc12] (blk_setL k15 (by omega) 0 [.bool bn12, .slice ba12 bl12 bc12]) rfl)
              have nhb0 : Below w.heap.size w V21 := by rw [hV21]; exact (blw_setL (blw_setL hb0 (by omega) 0 [.bool bn12, .slice ba12 bl12 bc12]) (by omega) 0 [.bool bn12, .slice ba12 bl12 bc12])
              replace HB12 : Hid (Big V21 (.agg #[.bool bn12, .slice ba12 bl12 bc12]) r26 50) := Lib.hid (by rw [hV21]; exact (big_setL (big_setL HB12.out (Blk.cell k16 0) (fun _ h => by cases h) 0 [.bool bn12, .slice ba12 bl12 bc12]) (Blk.cell (blk_setL k15 (by omega) 0 [.bool bn12, .slice ba12 bl12 bc12]) 0) (fun _ h => by cases h) 0 [.bool bn12, .slice ba12 bl12 bc12]))
              clear k15
              clear k16
              clear hb0
              clear hV21
              have k15 := nk15
              clear nk15
              have hb0 := nhb0
              clear nhb0
              have g15_0 : V21.cell? ⟨w.heap.size, 0, none⟩ = some (.bool bn12) := k15.cell 0
              have g15_1 : V21.cell? ⟨w.heap.size, 1, none⟩ = some (.slice ba12 bl12 bc12) := k15.cell 1
              clear k15
              simp [bodyPost, results, Tryd.results11, go_sem, g15_0, g15_1]
              exact ⟨_, _, _, _, rfl, (HB12.out.mono (by decide)), hb0⟩
            · obtain ⟨r27, hr27⟩ : ∃ o_o : Int, chI s i = o_o := ⟨_, rfl⟩
              have Hr27 := Lib.hid hr27
              clear hr27
              obtain ⟨z28, hz28⟩ : ∃ o_o : Bool, decide (r27 < 48) = o_o := ⟨_, rfl⟩
              cases z28
              · obtain ⟨z29, hz29⟩ : ∃ o_o : Bool, decide (57 < r27) = o_o := ⟨_, rfl⟩
                cases z29
                · have xa0 : (0 : Int) ≤ i := ((HI3.out.1.ix (of_decide_eq_true hz25))).1
                  have xb0 : (i : Int) < (s.size : Int) := ((HI3.out.1.ix (of_decide_eq_true hz25))).2
                  have xc0 := ch_v s i r27 Hr27.out
                  have xa1 : (0 : Int) ≤ i := ((HI3.out.1.ix (of_decide_eq_true hz25))).1
                  have xb1 : (i : Int) < (s.size : Int) := ((HI3.out.1.ix (of_decide_eq_true hz25))).2
                  have xc1 := ch_v s i r27 Hr27.out
                  go_wp2_with fail
                  clear xa0 xb0 xc0 xa1 xb1 xc1
                  obtain ⟨r30, hr30⟩ : ∃ o_o : Int, n * 10 = o_o := ⟨_, rfl⟩
                  have Hr30 := Lib.hid hr30
                  clear hr30
                  obtain ⟨r31, hr31⟩ : ∃ o_o : Int, (r27 - 48) % 256 = o_o := ⟨_, rfl⟩
                  have Hr31 := Lib.hid hr31
                  clear hr31
                  have c16_0 : W3_.cell? ⟨(w.heap.size + 1), 0, none⟩ = some (.bool bn) := k16.cell 0
                  have c16_1 : W3_.cell? ⟨(w.heap.size + 1), 1, none⟩ = some (.slice ba bl_ bc) := k16.cell 1
                  have l16 := k16.lt
                  have xa0 : (0 : Int) ≤ i := ((HI3.out.1.ix (of_decide_eq_true hz25))).1
                  have xb0 : (i : Int) < (s.size : Int) := ((HI3.out.1.ix (of_decide_eq_true hz25))).2
                  have xc0 := ch_v s i r27 Hr27.out
                  have xu0 := Hr31.out
                  have Kk15 := Lib.hid k15
                  clear k15
                  have Kk16 := Lib.hid k16
                  clear k16
                  refine wp_region_up W3_.heap.size 8 [(true, 0), (true, 3), (true, 4), (true, 5), (true, 6), (true, 7), (false, 1), (false, 2)] (by kernel_rfl) (by kernel_rfl) (fun _ _ d _ _ h => by cases d <;> exact h) ?_
                  have hb : Below W3_.heap.size W3_ W3_.drew := (Below.refl _ _).drew
                  iterate 6
                    refine wpS_takeL rfl rfl ?_
                    go_big_quiet_step (rfl)
                    refine wpQuiet_nil ?_
                  refine wpS_doL rfl ?_
                  intro K hK
                  go_wp2_with ((go_at_call 24; (with_reducible refine (bigOf_v 10 10 rfl (by unfold In64; omega) _).mono ?_); rintro e w2 ⟨v_, rfl, hbm, hn⟩; have HB13 := Lib.hid hbm; have hvm := hbm.shape; clear hbm; obtain ⟨bn13, ba13, bl13, bc13, rfl⟩ := hvm))
                  replace hb := hb.trans (hn.mono hb.size)
                  refine hK.out _ _ (up_iff.2 hb) ?_
                  clear hK K
                  clear hn
                  refine wpS_doL rfl ?_
                  intro K hK
                  go_wp2_with ((go_at_call 25; (with_reducible refine (bigMul_v (.agg #[.bool bn, .slice ba bl_ bc]) (.agg #[.bool bn13, .slice ba13 bl13 bc13]) n 10 r30 50 5 Hr30.out _ (HB11.out.of hb) HB13.out (by decide)).mono ?_); rintro e w2 ⟨v_, rfl, hbm, hn⟩; replace HB13 := Lib.hid (HB13.out.of hn); have HB14 := Lib.hid hbm; have hvm := hbm.shape; clear hbm; obtain ⟨bn14, ba14, bl14, bc14, rfl⟩ := hvm))
                  replace hb := hb.trans (hn.mono hb.size)
                  refine hK.out _ _ (up_iff.2 hb) ?_
                  clear hK K
                  clear hn
                  refine wpS_nil ?_
                  simp only [List.drop_succ_cons, List.drop_zero]
                  first | refine calls_w ?_ | refine name_world ?_ | refine list_world ?_ | refine post_world ?_
                  intro U22 hU22
                  first | (subst hU22; have u_ := U22; clear u_) | (rw [← hU22] at hb; clear hU22)
                  clear c16_0 c16_1 l16 xa0 xb0 xc0 xu0
                  have k15 := Kk15.out.of hb
                  clear Kk15
                  have k16 := Kk16.out.of hb
                  clear Kk16
                  replace HB11 := Lib.hid (HB11.out.of hb)
                  replace hb0 := hb0.trans (hb.mono hb0.size)
                  clear hb
                  go_wp2_with fail
                  refine (bigOf_v r31 r31 rfl (Hr31.out ▸ u8_64 _) _).mono ?_
                  rintro e U23 ⟨v_, rfl, hbm, hn⟩
                  replace k15 := k15.of hn
                  replace k16 := k16.of hn
                  replace HB11 := Lib.hid (HB11.out.of hn)
                  replace HB13 := Lib.hid (HB13.out.of hn)
                  replace HB14 := Lib.hid (HB14.out.of hn)
                  replace hb0 := hb0.trans (hn.mono hb0.size)
                  clear hn
                  have HB15 := Lib.hid hbm
                  have hvm := hbm.shape
                  clear hbm
                  obtain ⟨bn15, ba15, bl15, bc15, rfl⟩ := hvm
                  go_wp2_with fail
                  obtain ⟨r32, hr32⟩ : ∃ o_o : Int, r30 + r31 = o_o := ⟨_, rfl⟩
                  have Hr32 := Lib.hid hr32
                  clear hr32
                  refine (bigAdd_v (.agg #[.bool bn14, .slice ba14 bl14 bc14]) (.agg #[.bool bn15, .slice ba15 bl15 bc15]) r30 r31 r32 55 Hr32.out _ HB14.out (HB15.out.mono (by decide)) (by decide)).mono ?_
                  rintro e U24 ⟨v_, rfl, hbm, hn⟩
                  replace k15 := k15.of hn
                  replace k16 := k16.of hn
                  replace HB11 := Lib.hid (HB11.out.of hn)
                  replace HB13 := Lib.hid (HB13.out.of hn)
                  replace HB14 := Lib.hid (HB14.out.of hn)
                  replace HB15 := Lib.hid (HB15.out.of hn)
                  replace hb0 := hb0.trans (hn.mono hb0.size)
                  clear hn
                  have HB16 := Lib.hid hbm
                  have hvm := hbm.shape
                  clear hbm
                  obtain ⟨bn16, ba16, bl16, bc16, rfl⟩ := hvm
                  have c16_0 : U24.cell? ⟨(w.heap.size + 1), 0, none⟩ = some (.bool bn) := k16.cell 0
                  have c16_1 : U24.cell? ⟨(w.heap.size + 1), 1, none⟩ = some (.slice ba bl_ bc) := k16.cell 1
                  have f16_0 := k16.free 0
                  have f16_1 := k16.free 1
                  have l16 := k16.lt
                  go_wp2_with fail
                  clear c16_0 c16_1 f16_0 f16_1 l16
                  first | refine k_world ?_
                  intro V25 hV25
                  have D26 := Lib.hid k15.lt
                  have D27 := Lib.hid k16.lt
                  have D28 := Lib.hid hb0.size
                  have nk15 : Blk V25 w.heap.size #[.bool false, .slice none 0 0] 34 := by rw [hV25]; exact (blk_setL k15 (by omega) 0 [.bool bn16, .slice ba16 bl16 bc16])
                  have nk16 : Blk V25 (w.heap.size + 1) #[.bool bn16, .slice ba16 bl16 bc16] 34 := by rw [hV25]; exact (blk_full _ [.bool bn16, .slice ba16 bl16 bc16] k16 rfl)
                  have nhb0 : Below w.heap.size w V25 := by rw [hV25]; exact (blw_setL hb0 (by omega) 0 [.bool bn16, .slice ba16 bl16 bc16])
                  replace HB11 : Hid (Big V25 (.agg #[.bool bn, .slice ba bl_ bc]) n 50) := Lib.hid (by rw [hV25]; exact (big_setL HB11.out (Blk.cell k16 0) (fun _ h => by cases h) 0 [.bool bn16, .slice ba16 bl16 bc16]))
                  replace HB13 : Hid (Big V25 (.agg #[.bool bn13, .slice ba13 bl13 bc13]) 10 5) := Lib.hid (by rw [hV25]; exact (big_setL HB13.out (Blk.cell k16 0) (fun _ h => by cases h) 0 [.bool bn16, .slice ba16 bl16 bc16]))
                  replace HB14 : Hid (Big V25 (.agg #[.bool bn14, .slice ba14 bl14 bc14]) r30 55) := Lib.hid (by rw [hV25]; exact (big_setL HB14.out (Blk.cell k16 0) (fun _ h => by cases h) 0 [.bool bn16, .slice ba16 bl16 bc16]))
                  replace HB15 : Hid (Big V25 (.agg #[.bool bn15, .slice ba15 bl15 bc15]) r31 5) := Lib.hid (by rw [hV25]; exact (big_setL HB15.out (Blk.cell k16 0) (fun _ h => by cases h) 0 [.bool bn16, .slice ba16 bl16 bc16]))
                  replace HB16 : Hid (Big V25 (.agg #[.bool bn16, .slice ba16 bl16 bc16]) r32 56) := Lib.hid (by rw [hV25]; exact (big_setL HB16.out (Blk.cell k16 0) (fun _ h => by cases h) 0 [.bool bn16, .slice ba16 bl16 bc16]))
                  clear k15 k16
                  clear hb0
                  clear hV25
                  have k15 := nk15
                  clear nk15
                  have k16 := nk16
                  clear nk16
                  have hb0 := nhb0
                  clear nhb0
                  have HIn : DgI s 1 r32 (wrap64 (i + 1)) ∧ s.size - (wrap64 (i + 1)) ≤ (((s.size - (wrap64 (i + 1))).toNat) : Int) := by
                    rw [(HI3.out.1.w (of_decide_eq_true hz25) _sz.out)]
                    exact ⟨(HI3.out.1.next (of_decide_eq_true hz25) Hr27.out (of_decide_eq_false hz28) (of_decide_eq_false hz29) Hr31.out Hr30.out Hr32.out), by omega⟩
                  go_roundg ((s.size - (wrap64 (i + 1))).toNat)
                  case measure =>
                    rw [(HI3.out.1.w (of_decide_eq_true hz25) _sz.out)]
                    have q_ := (of_decide_eq_true hz25)
                    have q2_ := HI3.out.2
                    omega
                  case rel => exact ⟨r32, (wrap64 (i + 1)), bn16, ba16, bl16, bc16, rfl, Lib.hid HIn, k15, k16, (fit_D HB16.out HIn.1 _sz.out), hb0⟩
                · have c15_0 : W3_.cell? ⟨w.heap.size, 0, none⟩ = some (.bool false) := k15.cell 0
                  have c15_1 : W3_.cell? ⟨w.heap.size, 1, none⟩ = some (.slice none 0 0) := k15.cell 1
                  have f15_0 := k15.free 0
                  have f15_1 := k15.free 1
                  have l15 := k15.lt
                  have xa0 : (0 : Int) ≤ i := ((HI3.out.1.ix (of_decide_eq_true hz25))).1
                  have xb0 : (i : Int) < (s.size : Int) := ((HI3.out.1.ix (of_decide_eq_true hz25))).2
                  have xc0 := ch_v s i r27 Hr27.out
                  have xa1 : (0 : Int) ≤ i := ((HI3.out.1.ix (of_decide_eq_true hz25))).1
                  have xb1 : (i : Int) < (s.size : Int) := ((HI3.out.1.ix (of_decide_eq_true hz25))).2
                  have xc1 := ch_v s i r27 Hr27.out
                  have e0 : 0 = R0 := by rw [← HR0.out]; (first   | (exact (HI3.out.1.fin (of_decide_eq_false hz25)).2.symm)   | (exact (dig_no (dig_m1 Hr3.out (beqE hz22))).2.symm)   | (exact (dig_no (HI3.out.1.bad (of_decide_eq_true hz25) Hr27.out (.inl (of_decide_eq_true hz28)))).2.symm)   | (exact (dig_no (HI3.out.1.bad (of_decide_eq_true hz25) Hr27.out (.inr (of_decide_eq_true hz29)))).2.symm))
                  have e1 : false = R1 := by rw [← HR1.out]; (first   | (exact (HI3.out.1.fin (of_decide_eq_false hz25)).1.symm)   | (exact (dig_no (dig_m1 Hr3.out (beqE hz22))).1.symm)   | (exact (dig_no (HI3.out.1.bad (of_decide_eq_true hz25) Hr27.out (.inl (of_decide_eq_true hz28)))).1.symm)   | (exact (dig_no (HI3.out.1.bad (of_decide_eq_true hz25) Hr27.out (.inr (of_decide_eq_true hz29)))).1.symm))
                  subst e0
                  subst e1
                  go_wp2
                  clear c15_0 c15_1 f15_0 f15_1 l15 xa0 xb0 xc0 xa1 xb1 xc1
                  first | refine post_world ?_
                  intro V26 hV26
                  have D29 := Lib.hid k15.lt
                  have D30 := Lib.hid k16.lt
                  have D31 := Lib.hid hb0.size
                  clear k16
                  have nk15 : Blk V26 w.heap.size #[.bool false, .slice none 0 0] 34 := by rw [hV26]; exact (blk_full _ [.bool false, .slice none 0 0] k15 rfl)
                  have nhb0 : Below w.heap.size w V26 := by rw [hV26]; exact (blw_setL hb0 (by omega) 0 [.bool false, .slice none 0 0])
                  replace HB11 : Hid (Big V26 (.agg #[.bool bn, .slice ba bl_ bc]) n 50) := Lib.hid (by rw [hV26]; exact (big_setL HB11.out (Blk.cell k15 0) (fun _ h => by cases h) 0 [.bool false, .slice none 0 0]))
                  clear k15
                  clear hb0
                  clear hV26
                  have k15 := nk15
                  clear nk15
                  have hb0 := nhb0
                  clear nhb0
                  have g15_0 : V26.cell? ⟨w.heap.size, 0, none⟩ = some (.bool false) := k15.cell 0
                  have g15_1 : V26.cell? ⟨w.heap.size, 1, none⟩ = some (.slice none 0 0) := k15.cell 1
                  clear k15
                  simp [bodyPost, results, Tryd.results11, go_sem, g15_0, g15_1]
                  exact ⟨_, _, _, _, rfl, Big.zero _ _, hb0⟩
              · have c15_0 : W3_.cell? ⟨w.heap.size, 0, none⟩ = some (.bool false) := k15.cell 0
                have c15_1 : W3_.cell? ⟨w.heap.size, 1, none⟩ = some (.slice none 0 0) := k15.cell 1
                have f15_0 := k15.free 0
                have f15_1 := k15.free 1
                have l15 := k15.lt
                have xa0 : (0 : Int) ≤ i := ((HI3.out.1.ix (of_decide_eq_true hz25))).1
                have xb0 : (i : Int) < (s.size : Int) := ((HI3.out.1.ix (of_decide_eq_true hz25))).2
                have xc0 := ch_v s i r27 Hr27.out
                have e0 : 0 = R0 := by rw [← HR0.out]; (first   | (exact (HI3.out.1.fin (of_decide_eq_false hz25)).2.symm)   | (exact (dig_no (dig_m1 Hr3.out (beqE hz22))).2.symm)   | (exact (dig_no (HI3.out.1.bad (of_decide_eq_true hz25) Hr27.out (.inl (of_decide_eq_true hz28)))).2.symm))
                have e1 : false = R1 := by rw [← HR1.out]; (first   | (exact (HI3.out.1.fin (of_decide_eq_false hz25)).1.symm)   | (exact (dig_no (dig_m1 Hr3.out (beqE hz22))).1.symm)   | (exact (dig_no (HI3.out.1.bad (of_decide_eq_true hz25) Hr27.out (.inl (of_decide_eq_true hz28)))).1.symm))
                subst e0
                subst e1
                go_wp2
                clear c15_0 c15_1 f15_0 f15_1 l15 xa0 xb0 xc0
                first | refine post_world ?_
                intro V27 hV27
                have D32 := Lib.hid k15.lt
                have D33 := Lib.hid k16.lt
                have D34 := Lib.hid hb0.size
                clear k16
                have nk15 : Blk V27 w.heap.size #[.bool false, .slice none 0 0] 34 := by rw [hV27]; exact (blk_full _ [.bool false, .slice none 0 0] k15 rfl)
                have nhb0 : Below w.heap.size w V27 := by rw [hV27]; exact (blw_setL hb0 (by omega) 0 [.bool false, .slice none 0 0])
                replace HB11 : Hid (Big V27 (.agg #[.bool bn, .slice ba bl_ bc]) n 50) := Lib.hid (by rw [hV27]; exact (big_setL HB11.out (Blk.cell k15 0) (fun _ h => by cases h) 0 [.bool false, .slice none 0 0]))
                clear k15
                clear hb0
                clear hV27
                have k15 := nk15
                clear nk15
                have hb0 := nhb0
                clear nhb0
                have g15_0 : V27.cell? ⟨w.heap.size, 0, none⟩ = some (.bool false) := k15.cell 0
                have g15_1 : V27.cell? ⟨w.heap.size, 1, none⟩ = some (.slice none 0 0) := k15.cell 1
                clear k15
                simp [bodyPost, results, Tryd.results11, go_sem, g15_0, g15_1]
                exact ⟨_, _, _, _, rfl, Big.zero _ _, hb0⟩
        · obtain rfl : r23 = 48 := by simpa using hz24
          clear hz24
          obtain ⟨z33, hz33⟩ : ∃ o_o : Bool, decide (1 < (s.size : Int)) = o_o := ⟨_, rfl⟩
          cases z33
          · exact absurd (by have a_ := of_decide_eq_true hz1; have b_ := beqN hz22; omega : 1 < (s.size : Int)) (of_decide_eq_false hz33)
          · have xa0 : (0 : Int) ≤ 0 := ((⟨by omega, of_decide_eq_true hz1⟩ : (0 : Int) ≤ 0 ∧ (0 : Int) < (s.size : Int))).1
            have xb0 : (0 : Int) < (s.size : Int) := ((⟨by omega, of_decide_eq_true hz1⟩ : (0 : Int) ≤ 0 ∧ (0 : Int) < (s.size : Int))).2
            have xc0 := ch_v s 0 45 Hr3.out
            have xd0 : 0 < s.size := by omega
            have xe0 : ∀ hi : 0 < s.size, ((s[0]'hi).toNat : Int) = 45 := xc0
            have xa1 : (0 : Int) ≤ 1 := ((⟨by omega, by have a_ := of_decide_eq_true hz1; have b_ := beqN hz22; omega⟩ : (0 : Int) ≤ 1 ∧ (1 : Int) < (s.size : Int))).1
            have xb1 : (1 : Int) < (s.size : Int) := ((⟨by omega, by have a_ := of_decide_eq_true hz1; have b_ := beqN hz22; omega⟩ : (0 : Int) ≤ 1 ∧ (1 : Int) < (s.size : Int))).2
            have xc1 := ch_v s 1 48 Hr23.out
            have xd1 : 1 < s.size := by omega
            have xe1 : ∀ hi : 1 < s.size, ((s[1]'hi).toNat : Int) = 48 := xc1
            go_enter Tryd.func11, Tryd.ntmps11
            have e0 : 0 = R0 := by rw [← HR0.out]; (first   | (exact (dig_no (dig_z1 Hr3.out Hr23.out (of_decide_eq_true hz33))).2.symm)   | (exact (dig_no (dig_z0 Hr3.out (of_decide_eq_true hz33))).2.symm)   | (exact (dig_no (dig_m1 Hr3.out (beqE hz22))).2.symm))
            have e1 : false = R1 := by rw [← HR1.out]; (first   | (exact (dig_no (dig_z1 Hr3.out Hr23.out (of_decide_eq_true hz33))).1.symm)   | (exact (dig_no (dig_z0 Hr3.out (of_decide_eq_true hz33))).1.symm)   | (exact (dig_no (dig_m1 Hr3.out (beqE hz22))).1.symm))
            subst e0
            subst e1
            go_wp2
            clear xa0 xb0 xc0 xd0 xe0 xa1 xb1 xc1 xd1 xe1
            first | refine post_world ?_
            intro V28 hV28
            have hn : Below w.heap.size w V28 := by rw [hV28]; exact below_a1 _ _
            have nhb0 := hn
            have k18 : Blk V28 w.heap.size #[.bool false, .slice none 0 0] 34 := by rw [hV28]; exact (Blk.new _ _ _)
            clear hV28
            have hb0 := nhb0
            clear nhb0
            have g18_0 : V28.cell? ⟨w.heap.size, 0, none⟩ = some (.bool false) := k18.cell 0
            have g18_1 : V28.cell? ⟨w.heap.size, 1, none⟩ = some (.slice none 0 0) := k18.cell 1
            clear k18
            simp [bodyPost, results, Tryd.results11, go_sem, g18_0, g18_1]
            exact ⟨_, _, _, _, rfl, Big.zero _ _, hb0⟩
      · have xa0 : (0 : Int) ≤ 0 := ((⟨by omega, of_decide_eq_true hz1⟩ : (0 : Int) ≤ 0 ∧ (0 : Int) < (s.size : Int))).1
        have xb0 : (0 : Int) < (s.size : Int) := ((⟨by omega, of_decide_eq_true hz1⟩ : (0 : Int) ≤ 0 ∧ (0 : Int) < (s.size : Int))).2
        have xc0 := ch_v s 0 45 Hr3.out
        have xd0 : 0 < s.size := by omega
        have xe0 : ∀ hi : 0 < s.size, ((s[0]'hi).toNat : Int) = 45 := xc0
        go_enter Tryd.func11, Tryd.ntmps11
        have e0 : 0 = R0 := by rw [← HR0.out]; (exact (dig_no (dig_m1 Hr3.out (beqE hz22))).2.symm)
        have e1 : false = R1 := by rw [← HR1.out]; (exact (dig_no (dig_m1 Hr3.out (beqE hz22))).1.symm)
        subst e0
        subst e1
        go_wp2
        clear xa0 xb0 xc0 xd0 xe0
        first | refine post_world ?_
        intro V29 hV29
        have hn : Below w.heap.size w V29 := by rw [hV29]; exact below_a1 _ _
        have nhb0 := hn
        have k19 : Blk V29 w.heap.size #[.bool false, .slice none 0 0] 34 := by rw [hV29]; exact (Blk.new _ _ _)
        clear hV29
        have hb0 := nhb0
        clear nhb0
        have g19_0 : V29.cell? ⟨w.heap.size, 0, none⟩ = some (.bool false) := k19.cell 0
        have g19_1 : V29.cell? ⟨w.heap.size, 1, none⟩ = some (.slice none 0 0) := k19.cell 1
        clear k19
        simp [bodyPost, results, Tryd.results11, go_sem, g19_0, g19_1]
        exact ⟨_, _, _, _, rfl, Big.zero _ _, hb0⟩
end Go.Proofs.YtcfiemeknocgjaaDoor

namespace Go.Proofs.YtcfiemeknocgjaaDoor
open Go.RowKit

theorem Parse_v (s : ByteArray) (a : Int) (k : Bool) (ha : prsV s = a) (hk : prsK s = k) (hs : (s.size : Int) ≤ 144) (w : World) (hG : Tab w) :
    Calls Tryd.prog 13 #[.string s] w fun e w' => e = .returned (.tuple #[wI a, .bool k]) ∧ Below w.heap.size w w' := Parse_g s a k ha hk (decide_eq_true hs) (Lib.hid hs) w hG
theorem Digits_v {s : ByteArray} (hs : (s.size : Int) ≤ 200) (a : Int) (k : Bool) (ha : digV s = a) (hk : digK s = k) (w : World) :
    Calls Tryd.prog 11 #[.string s] w (Digits_g_post w a k) := Digits_g s a k ha hk (Lib.hid hs) w
def isI (x n : Int) : Bool := (cmpI x n == 0)
theorem isI_v (x n : Int) (v : Value) (L : Nat) (z : Bool) (h : isI x n = z) (ix : InI x) (w : World) (hb : Big w v n L) :
    Calls Tryd.prog 14 #[wI x, v] w fun e w' => e = .returned (.bool z) ∧ Below w.heap.size w w' := is_is x n v L _ z rfl h (sg_id ix) w hb

end Go.Proofs.YtcfiemeknocgjaaDoor

namespace Go.Proofs.YtcfiemeknocgjaaDoor
open Go.RowKit

set_option maxRecDepth 100000 in
set_option maxHeartbeats 4000000 in

theorem WPa_0 (s : ByteArray)    (hP0 : decide (120 < (s.size : Int)) = true)  (w : World) (hG : Tab w) :
    Calls Tryd.prog 5 #[.string s] w fun e w' => e = .returned (.bool true) ∧ Below w.heap.size w w' := by

  go_enter Tryd.func5, Tryd.ntmps5
  go_wp2_with fail
  refine (wawake_any _ hG).mono ?_
  rintro e U1 ⟨rfl, hn⟩
  have hb0 := hn
  clear hn
  go_wp2
  first | go_ret | go_ret2
  exact ⟨by first | rfl | (simp; done) | (simp; assumption), hb0⟩

set_option maxRecDepth 100000 in
set_option maxHeartbeats 4000000 in

theorem WPa_1 (s : ByteArray) (b : Int)   (hP0 : decide (120 < (s.size : Int)) = false) (hP1 : prsV s = 0) (hP2 : prsK s = false) (hP3 : digK s = false) (hP4 : digV s = b) (_sy : Hid ((s.size : Int) ≤ 120))  (w : World) (hG : Tab w) :
    Calls Tryd.prog 5 #[.string s] w fun e w' => e = .returned (.bool true) ∧ Below w.heap.size w w' := by

  have HP1 := Lib.hid hP1
  clear hP1
  have HP2 := Lib.hid hP2
  clear hP2
  have HP3 := Lib.hid hP3
  clear hP3
  have HP4 := Lib.hid hP4
  clear hP4
  go_enter Tryd.func5, Tryd.ntmps5
  go_wp2_with fail
  refine (Parse_v s 0 false HP1.out HP2.out (Int.le_trans _sy.out (by decide)) _ hG).mono ?_
  rintro e U1 ⟨rfl, hn⟩
  have hb0 := hn
  clear hn
  go_wp2_with fail
  first | refine calls_w ?_ | refine name_world ?_ | refine list_world ?_ | refine post_world ?_
  intro V2 hV2
  have D1 := Lib.hid hb0.size
  have hn : Below U1.heap.size U1 V2 := by rw [hV2]; exact below_a1 _ _
  have nhb0 := hb0.trans (hn.mono hb0.size)
  clear hn
  have k1 : Blk V2 U1.heap.size #[.int .u64 (wd0 0), .int .u64 (wd1 0), .int .u64 (wd2 0), .int .u64 (wd3 0)] 24 := by rw [hV2]; exact (Blk.new _ _ _)
  clear hb0
  clear hV2
  have hb0 := nhb0
  clear nhb0
  refine (Digits_v (s := s) (Int.le_trans _sy.out (by decide)) b false HP4.out HP3.out _).mono ?_
  rintro e U3 ⟨bn1, ba1, bl1, bc1, rfl, hbm1, hn⟩
  replace k1 := k1.of hn
  replace hb0 := hb0.trans (hn.mono hb0.size)
  clear hn
  have HB1 := Lib.hid hbm1
  clear hbm1
  have c1_0 : U3.cell? ⟨U1.heap.size, 0, none⟩ = some (.int .u64 (wd0 0)) := k1.cell 0
  have c1_1 : U3.cell? ⟨U1.heap.size, 1, none⟩ = some (.int .u64 (wd1 0)) := k1.cell 1
  have c1_2 : U3.cell? ⟨U1.heap.size, 2, none⟩ = some (.int .u64 (wd2 0)) := k1.cell 2
  have c1_3 : U3.cell? ⟨U1.heap.size, 3, none⟩ = some (.int .u64 (wd3 0)) := k1.cell 3
  have l1 := k1.lt
  go_wp2_with fail
  clear c1_0 c1_1 c1_2 c1_3 l1
  first | refine calls_w ?_ | refine name_world ?_ | refine list_world ?_ | refine post_world ?_
  intro V4 hV4
  have D2 := Lib.hid k1.lt
  have D3 := Lib.hid hb0.size
  have hn : Below U3.heap.size U3 V4 := by rw [hV4]; exact below_a1 _ _
  have nk1 := k1.of hn
  replace HB1 := Lib.hid (HB1.out.of hn)
  have nhb0 := hb0.trans (hn.mono hb0.size)
  clear hn
  have k2 : Blk V4 U3.heap.size #[.bool bn1, .slice ba1 bl1 bc1] 34 := by rw [hV4]; exact (Blk.new _ _ _)
  clear k1
  clear hb0
  clear hV4
  have k1 := nk1
  clear nk1
  have hb0 := nhb0
  clear nhb0
  refine (wawake_any _ (hG.of hb0)).mono ?_
  rintro e U5 ⟨rfl, hn⟩
  replace k1 := k1.of hn
  replace k2 := k2.of hn
  replace HB1 := Lib.hid (HB1.out.of hn)
  replace hb0 := hb0.trans (hn.mono hb0.size)
  clear hn
  go_wp2
  first | go_ret | go_ret2
  exact ⟨by first | rfl | (simp; done) | (simp; assumption), hb0⟩

set_option maxRecDepth 100000 in
set_option maxHeartbeats 4000000 in

theorem WPa_2 (s : ByteArray) (b : Int)   (hP0 : decide (120 < (s.size : Int)) = false) (hP1 : prsV s = 0) (hP2 : prsK s = false) (hP3 : digK s = true) (hP4 : digV s = b) (hP5 : okI b = false) (_sy : Hid ((s.size : Int) ≤ 120))  (w : World) (hG : Tab w) :
    Calls Tryd.prog 5 #[.string s] w fun e w' => e = .returned (.bool true) ∧ Below w.heap.size w w' := by

  have HP1 := Lib.hid hP1
  clear hP1
  have HP2 := Lib.hid hP2
  clear hP2
  have HP3 := Lib.hid hP3
  clear hP3
  have HP4 := Lib.hid hP4
  clear hP4
  have HP5 := Lib.hid hP5
  clear hP5
  go_enter Tryd.func5, Tryd.ntmps5
  go_wp2_with fail
  refine (Parse_v s 0 false HP1.out HP2.out (Int.le_trans _sy.out (by decide)) _ hG).mono ?_
  rintro e U1 ⟨rfl, hn⟩
  have hb0 := hn
  clear hn
  go_wp2_with fail
  first | refine calls_w ?_ | refine name_world ?_ | refine list_world ?_ | refine post_world ?_
  intro V2 hV2
  have D1 := Lib.hid hb0.size
  have hn : Below U1.heap.size U1 V2 := by rw [hV2]; exact below_a1 _ _
  have nhb0 := hb0.trans (hn.mono hb0.size)
  clear hn
  have k1 : Blk V2 U1.heap.size #[.int .u64 (wd0 0), .int .u64 (wd1 0), .int .u64 (wd2 0), .int .u64 (wd3 0)] 24 := by rw [hV2]; exact (Blk.new _ _ _)
  clear hb0
  clear hV2
  have hb0 := nhb0
  clear nhb0
  refine (Digits_v (s := s) (Int.le_trans _sy.out (by decide)) b true HP4.out HP3.out _).mono ?_
  rintro e U3 ⟨bn1, ba1, bl1, bc1, rfl, hbm1, hn⟩
  replace k1 := k1.of hn
  replace hb0 := hb0.trans (hn.mono hb0.size)
  clear hn
  have HB1 := Lib.hid hbm1
  clear hbm1
  go_wp2_with fail
  first | refine calls_w ?_ | refine name_world ?_ | refine list_world ?_ | refine post_world ?_
  intro V4 hV4
  have D2 := Lib.hid k1.lt
  have D3 := Lib.hid hb0.size
  have hn : Below U3.heap.size U3 V4 := by rw [hV4]; exact below_a1 _ _
  have nk1 := k1.of hn
  replace HB1 := Lib.hid (HB1.out.of hn)
  have nhb0 := hb0.trans (hn.mono hb0.size)
  clear hn
  have k2 : Blk V4 U3.heap.size #[.bool bn1, .slice ba1 bl1 bc1] 34 := by rw [hV4]; exact (Blk.new _ _ _)
  clear k1
  clear hb0
  clear hV4
  have k1 := nk1
  clear nk1
  have hb0 := nhb0
  clear nhb0
  refine (Fits_is (.agg #[.bool bn1, .slice ba1 bl1 bc1]) b 50 false HP5.out _ HB1.out).mono ?_
  rintro e U5 ⟨rfl, hn⟩
  replace k1 := k1.of hn
  replace k2 := k2.of hn
  replace HB1 := Lib.hid (HB1.out.of hn)
  replace hb0 := hb0.trans (hn.mono hb0.size)
  clear hn
  have c1_0 : U5.cell? ⟨U1.heap.size, 0, none⟩ = some (.int .u64 (wd0 0)) := k1.cell 0
  have c1_1 : U5.cell? ⟨U1.heap.size, 1, none⟩ = some (.int .u64 (wd1 0)) := k1.cell 1
  have c1_2 : U5.cell? ⟨U1.heap.size, 2, none⟩ = some (.int .u64 (wd2 0)) := k1.cell 2
  have c1_3 : U5.cell? ⟨U1.heap.size, 3, none⟩ = some (.int .u64 (wd3 0)) := k1.cell 3
  have l1 := k1.lt
  go_wp2_with fail
  clear c1_0 c1_1 c1_2 c1_3 l1
  refine (wawake_any _ (hG.of hb0)).mono ?_
  rintro e U6 ⟨rfl, hn⟩
  replace k1 := k1.of hn
  replace k2 := k2.of hn
  replace HB1 := Lib.hid (HB1.out.of hn)
  replace hb0 := hb0.trans (hn.mono hb0.size)
  clear hn
  go_wp2
  first | go_ret | go_ret2
  exact ⟨by first | rfl | (simp; done) | (simp; assumption), hb0⟩

set_option maxRecDepth 100000 in
set_option maxHeartbeats 4000000 in

theorem WPa_3 (s : ByteArray) (b : Int)   (hP0 : decide (120 < (s.size : Int)) = false) (hP1 : prsV s = b) (hP2 : prsK s = true) (hP3 : digK s = true) (hP4 : digV s = b) (hP5 : okI b = true) (hP6 : (s.toList == (ByteArray.mk #[45, 48]).toList) = false) (hP7 : isI b b = true) (_sy : Hid ((s.size : Int) ≤ 120)) (_ib : InI b) (_nm : (s.toList == [45, 48]) = false) (_nm2 : ¬ s.toList = [45, 48])  (w : World) (hG : Tab w) :
    Calls Tryd.prog 5 #[.string s] w fun e w' => e = .returned (.bool true) ∧ Below w.heap.size w w' := by

  have HP1 := Lib.hid hP1
  clear hP1
  have HP2 := Lib.hid hP2
  clear hP2
  have HP3 := Lib.hid hP3
  clear hP3
  have HP4 := Lib.hid hP4
  clear hP4
  have HP5 := Lib.hid hP5
  clear hP5
  have nP6 : ¬ s.toList = (ByteArray.mk #[45, 48]).toList := by simpa using hP6
  have HP7 := Lib.hid hP7
  clear hP7
  go_enter Tryd.func5, Tryd.ntmps5
  go_wp2_with fail
  refine (Parse_v s b true HP1.out HP2.out (Int.le_trans _sy.out (by decide)) _ hG).mono ?_
  rintro e U1 ⟨rfl, hn⟩
  have hb0 := hn
  clear hn
  go_wp2_with fail
  first | refine calls_w ?_ | refine name_world ?_ | refine list_world ?_ | refine post_world ?_
  intro V2 hV2
  have D1 := Lib.hid hb0.size
  have hn : Below U1.heap.size U1 V2 := by rw [hV2]; exact below_a1 _ _
  have nhb0 := hb0.trans (hn.mono hb0.size)
  clear hn
  have k1 : Blk V2 U1.heap.size #[.int .u64 (wd0 b), .int .u64 (wd1 b), .int .u64 (wd2 b), .int .u64 (wd3 b)] 24 := by rw [hV2]; exact (Blk.new _ _ _)
  clear hb0
  clear hV2
  have hb0 := nhb0
  clear nhb0
  refine (Digits_v (s := s) (Int.le_trans _sy.out (by decide)) b true HP4.out HP3.out _).mono ?_
  rintro e U3 ⟨bn1, ba1, bl1, bc1, rfl, hbm1, hn⟩
  replace k1 := k1.of hn
  replace hb0 := hb0.trans (hn.mono hb0.size)
  clear hn
  have HB1 := Lib.hid hbm1
  clear hbm1
  go_wp2_with fail
  first | refine calls_w ?_ | refine name_world ?_ | refine list_world ?_ | refine post_world ?_
  intro V4 hV4
  have D2 := Lib.hid k1.lt
  have D3 := Lib.hid hb0.size
  have hn : Below U3.heap.size U3 V4 := by rw [hV4]; exact below_a1 _ _
  have nk1 := k1.of hn
  replace HB1 := Lib.hid (HB1.out.of hn)
  have nhb0 := hb0.trans (hn.mono hb0.size)
  clear hn
  have k2 : Blk V4 U3.heap.size #[.bool bn1, .slice ba1 bl1 bc1] 34 := by rw [hV4]; exact (Blk.new _ _ _)
  clear k1
  clear hb0
  clear hV4
  have k1 := nk1
  clear nk1
  have hb0 := nhb0
  clear nhb0
  refine (Fits_is (.agg #[.bool bn1, .slice ba1 bl1 bc1]) b 50 true HP5.out _ HB1.out).mono ?_
  rintro e U5 ⟨rfl, hn⟩
  replace k1 := k1.of hn
  replace k2 := k2.of hn
  replace HB1 := Lib.hid (HB1.out.of hn)
  replace hb0 := hb0.trans (hn.mono hb0.size)
  clear hn
  have c1_0 : U5.cell? ⟨U1.heap.size, 0, none⟩ = some (.int .u64 (wd0 b)) := k1.cell 0
  have c1_1 : U5.cell? ⟨U1.heap.size, 1, none⟩ = some (.int .u64 (wd1 b)) := k1.cell 1
  have c1_2 : U5.cell? ⟨U1.heap.size, 2, none⟩ = some (.int .u64 (wd2 b)) := k1.cell 2
  have c1_3 : U5.cell? ⟨U1.heap.size, 3, none⟩ = some (.int .u64 (wd3 b)) := k1.cell 3
  have l1 := k1.lt
  have c2_0 : U5.cell? ⟨U3.heap.size, 0, none⟩ = some (.bool bn1) := k2.cell 0
  have c2_1 : U5.cell? ⟨U3.heap.size, 1, none⟩ = some (.slice ba1 bl1 bc1) := k2.cell 1
  have l2 := k2.lt
  go_wp2_with fail
  clear c1_0 c1_1 c1_2 c1_3 l1 c2_0 c2_1 l2
  refine (isI_v b b (.agg #[.bool bn1, .slice ba1 bl1 bc1]) 50 true HP7.out _ib _ HB1.out).mono ?_
  rintro e U6 ⟨rfl, hn⟩
  clear HB1
  clear k1 k2
  replace hb0 := hb0.trans (hn.mono hb0.size)
  clear hn
  go_wp2_with fail
  refine (wawake_any _ (hG.of hb0)).mono ?_
  rintro e U7 ⟨rfl, hn⟩
  replace hb0 := hb0.trans (hn.mono hb0.size)
  clear hn
  go_wp2
  first | go_ret | go_ret2
  exact ⟨by first | rfl | (simp; done) | (simp; assumption), hb0⟩
end Go.Proofs.YtcfiemeknocgjaaDoor

namespace Go.Proofs.YtcfiemeknocgjaaDoor
open Go.RowKit

theorem isI_self (x : Int) : isI x x = true := by unfold isI; rw [cmpI_eq]; rfl
theorem dig_of {s : ByteArray} {v : Int} (h : Lib.itoa v = bl s) : digK s = true ∧ digV s = v := by
  have e : digK s = true := by unfold digK; rw [pvB_is h, h]; simp
  exact ⟨e, by unfold digV; rw [e]; exact pvB_is h⟩
theorem prs_of {s : ByteArray} {v : Int} (h : Lib.itoa v = bl s) (iv : InI v) : prsK s = true ∧ prsV s = v := by
  have e := prsK_of h iv
  exact ⟨e, by unfold prsV; rw [e]; exact pvB_is h⟩
theorem WPa_any (s : ByteArray) (w : World) (hG : Tab w) :
    Calls Tryd.prog 5 #[.string s] w fun e w' => e = .returned (.bool true) ∧ Below w.heap.size w w' := by
  by_cases h : 120 < (s.size : Int)
  · exact WPa_0 s (decide_eq_true h) w hG
  · have h0 := decide_eq_false h
    have sy : Hid ((s.size : Int) ≤ 120) := Lib.hid (by omega)
    cases hd : digK s
    · have hp : prsK s = false := nof fun hk => by
        have := (dig_of (prsK_is hk).2).1
        rw [hd] at this; cases this
      exact WPa_1 s _ h0 (prs_zero hp) hp hd rfl sy w hG
    · have e : Lib.itoa (pvB s) = bl s := by unfold digK at hd; simpa using hd
      have hv : digV s = pvB s := (dig_of e).2
      cases ho : okI (pvB s)
      · have hp : prsK s = false := nof fun hk => by
          have := (prsK_is hk).1
          unfold okI at ho
          exact of_decide_eq_false ho this
        exact WPa_2 s (pvB s) h0 (prs_zero hp) hp hd hv ho sy w hG
      · have iv : InI (pvB s) := by unfold okI at ho; exact of_decide_eq_true ho
        have nm2 : ¬ s.toList = [45, 48] := fun g => by
          rw [ByteArray.toList_eq] at g
          have hD := (digK_iff s).1 hd
          have eb : bl s = [45, 48] := g
          rw [eb] at hD
          have := hD.2.1 rfl
          cases this
        have nm : (s.toList == [45, 48]) = false := by simpa using nm2
        have nm0 : (s.toList == (ByteArray.mk #[45, 48]).toList) = false := by
          have : (ByteArray.mk #[45, 48]).toList = [45, 48] := by rw [ByteArray.toList_eq]
          rw [this]; exact nm
        exact WPa_3 s (pvB s) h0 (prs_of e iv).2 (prs_of e iv).1 hd hv ho nm0 (isI_self _) sy iv nm nm2 w hG
end Go.Proofs.YtcfiemeknocgjaaDoor

namespace Go.Proofs.YtcfiemeknocgjaaDoor
open Go.ChangeShapes Go.WideShapes Go.ChangeAt Go.RowKit Go.Joins

/-- the listed variables -/
def laids : List (String × DataW Unit) := [("math/bits.deBruijn32tab", Rows.laid_math_bits_deBruijn32tab), ("math/bits.deBruijn64tab", Rows.laid_math_bits_deBruijn64tab), ("internal/strconv.uint64pow10", Rows.laid_internal_strconv_uint64pow10)]
/-- the powers of ten -/
def pows : List Int := [1, 10, 100, 1000, 10000, 100000, 1000000, 10000000, 100000000, 1000000000, 10000000000, 100000000000, 1000000000000, 10000000000000, 100000000000000, 1000000000000000, 10000000000000000, 100000000000000000, 1000000000000000000, 10000000000000000000]
theorem pows_at : ∀ i, i < 20 → pows[i]? = some (10 ^ i) := by decide +kernel
theorem gPow : Tryd.prog.globalNamed "internal/strconv.uint64pow10" = some 0 := by kernel_rfl
theorem tPow : (Tryd.prog.globals[0]?).map (·.type) = some 85 := by kernel_rfl
theorem door_met (os : Os) (args : Array Value) : laidMetH Tryd.prog laids ((World.doorLaid Tryd.prog 24 os).forCall (fun _ _ => 0) ⟨#[], args, []⟩).memory :=
  laidMetH_of_parts3 (fuel := 8) (laidMet_of_run' 8 (by kernel_rfl) (by kernel_rfl)) (by kernel_rfl) (by kernel_rfl)
theorem tab_of_laid {W : World} (h : laidMetH Tryd.prog laids W) : Tab W := by
  rw [MakeChecks.laidMetH_plain _ _ _ (by kernel_rfl)] at h
  obtain ⟨ps, ⟨g0, t0, cs0, f0, p0, q0, hg0, ht0, hv0, hd0, ⟨g1, t1, cs1, f1, p1, q1, hg1, ht1, hv1, hd1, ⟨g2, t2, cs2, f2, p2, q2, hg2, ht2, hv2, hd2, _, _⟩, _⟩, _⟩, _, _⟩ := h
  obtain rfl := Option.some.inj (gPow.symm.trans hg2)
  obtain rfl := Option.some.inj (tPow.symm.trans ht2)
  have hc : cs2.toList = pows.map fun z => Value.int .u64 z :=
    Lib.cells_of_tab (P := Tryd.prog) Tryd.underlying85 Tryd.underlying22 (by kernel_rfl) (by kernel_rfl) (show DataW.trod _ Tryd.prog W 0 _ false f2 85 cs2.toList = some (Lib.tabData .u64 pows, p2) from hd2)
  have hall : ∀ i, i < 20 → W.cell? ⟨0, i, none⟩ = some (.int .u64 (10 ^ i)) := fun i hi => by
    have := World.var?_cell hg2 hv2 i
    rw [this, ← Array.getElem?_toList, hc, List.getElem?_map, pows_at i hi]; rfl
  refine ⟨?_, hall⟩
  have h0 := hall 0 (by decide)
  unfold World.cell? at h0
  rcases Nat.eq_zero_or_pos W.heap.size with hz | hz
  · rw [Array.getElem?_eq_none (by simp [hz])] at h0; cases h0
  · exact hz

theorem own : ownKnob Tryd.prog.godebug = none := by kernel_rfl
section
variable {H : Type} {enc : TypeId × Value → H} {w : World} {base : Nat} {spare : Nat → Bool} {held : Bool}

end
end Go.Proofs.YtcfiemeknocgjaaDoor

namespace Go.Proofs.YtcfiemeknocgjaaDoor
open Go.ChangeShapes Go.WideShapes Go.ChangeAt Go.RowKit

set_option maxRecDepth 100000 in
set_option maxHeartbeats 1000000 in
theorem wideParses_lifted (os : Os) (started : os.Started) (H : Type) (enc : TypeId × Value → H) :
    ReturnsInHanded {} Tryd.checked os 5 .any (fun w args => (Rows.wideParsesSpec.pre enc Tryd.prog Tryd.f5 [] false w args ∧ laidMetH Tryd.prog laids w) ∧ sizedMet enc Tryd.prog Tryd.f5 (OpenSpec.ofChange Rows.wideParsesSpec) false w args) (Rows.wideParsesSpec.post enc Tryd.prog Tryd.f5 false true false false) := by
  refine returnsInHanded_of_change_and (C := Tryd.checked) (X := fun w _ => laidMetH Tryd.prog laids w) (fun _ _ _ hh h => h.of_heap hh) own started (by kernel_rfl) Tryd.func5
    (ChangeSpec.witness_shaped (enc := enc) (C := Tryd.checked) (os := os) (X := fun w _ => laidMetH Tryd.prog laids w) false (World.doorLaid Tryd.prog 24 os) #[.string ⟨#[]⟩] 8 rfl (World.shaped_of_RefB (by kernel_rfl) (by kernel_rfl)) (by kernel_rfl) (by kernel_rfl) (by kernel_rfl) (door_met os _)) ?_
  intro W base args ds gs before hval0 hW _ _ hL _
  have hval : ∀ (j : Nat) t v, Tryd.f5.params[j]? = some t → args[j]? = some v → Value.okWide Tryd.prog W .any base t v := hval0
  have hW' := hW
  obtain ⟨p, q, hA0, hV, rfl, hfz, hnd⟩ := hW
  have hA : DataW.TrodAll enc Tryd.prog W 0 (fun _ => true) true Tryd.f5.params.toList args.toList ds p := hA0
  rw [Tryd.params5] at hA hval
  obtain ⟨v0, vs0, d0, ds0, p0, q0, hargs, rfl, rfl, h0, r0⟩ := trodAll_cons hA
  obtain ⟨rfl, rfl, rfl⟩ := trodAll_nil r0
  obtain rfl : args = #[v0] := by cases args; simp_all
  obtain ⟨rfl, rfl⟩ := trodVars_none hV
  obtain ⟨x0, rfl, rfl, rfl, wx0⟩ := Go.ChangeMaps.open_string Tryd.underlying9 (hval 0 9 v0 rfl rfl) h0
  clear hA0 hval0
  refine (WPa_any x0 W (tab_of_laid hL) ).mono fun e W' ⟨he, bel⟩ => ?_
  subst he
  exact ⟨_, rfl, _, _, _, [], _, [], hW', trodAll_mk1 (shut_bool Tryd.underlying4 _), (trodAll_cons_mk (Go.ChangeMaps.shut_string Tryd.underlying9 wx0) trodAll_mk0), rfl, bel.frame _, fun h => by cases h⟩

theorem wideParses_holds : Rows.WideParsesSaid :=
  OpenClaim.holds_of_wide 5 Tryd.f5 rfl rfl rfl rfl rfl rfl rfl ⟨rfl, rfl, rfl, rfl, rfl⟩ rfl rfl rfl rfl rfl (by kernel_rfl) Tryd.func5 (by kernel_rfl)
    (of_decide_eq_true (by kernel_rfl)) (by unfold Func.isWrapper; rw [if_neg (by decide +kernel)]; exact ⟨rfl, rfl⟩)
    (fun os started H enc _ => wideParses_lifted os started H enc)
theorem wideParses_card : Rows.WideParsesCardSaid :=
  Claim7.holds_tied_plain_at .later [] [.data, .data, .data] true (true, "4ed2527afac2d7ec0dcbcf78eea59b09af1b3151fa01c10099263eb9a408d09b") false
    wideParses_holds (fun _ h => by cases h) (by kernel_rfl) (fun _ h => by cases h) wideParses_row_tie rfl ⟨rfl, rfl⟩ (by kernel_rfl) rfl
    (fun f fn hf hfn => by
      obtain rfl : f = 5 := Option.some.inj ((show Tryd.prog.funcNamed "groma/gromalaw01.WideParses" = some 5 by kernel_rfl).symm.trans hf) |>.symm
      obtain rfl : fn = Tryd.f5 := (Option.some.inj (Tryd.func5.symm.trans hfn)).symm
      exact ⟨by kernel_rfl, fun j t ht => by
        rw [Tryd.params5] at ht
        have hm : t ∈ [9] := by simpa using Array.mem_of_getElem? ht
        have hall : ([9].all fun u => !Tryd.prog.wantsStandIn u) = true := by kernel_rfl
        exact (show Tryd.prog.wantsStandIn t = false by simpa using List.all_eq_true.1 hall t hm)⟩)
    (by kernel_rfl)
#print axioms wideParses_card
end Go.Proofs.YtcfiemeknocgjaaDoor

