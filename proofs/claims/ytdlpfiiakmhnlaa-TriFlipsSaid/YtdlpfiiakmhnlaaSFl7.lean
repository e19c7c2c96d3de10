/- The statement TriFlipsSaid: for every input the law returns true, and its arguments read as before. Conditions: none. -/
import Derived.Test.YtdlpfiiakmhnlaaSFl6
import Derived.KernelRfl
import Derived.StillTail
import Derived.OrdersHeld
import Derived.Deep.Quiet
import Derived.Below
import Derived.WalkKit
import Derived.Test.YtdlpfiiakmhnlaaProg
import Derived.WalkSpells
import Derived.StillTactics
import Derived.Laws.Pointers
import Derived.Deep.RegionHeld3
import Derived.RowKit3
import Derived.Deep.QuietTactic
import Derived.BigQuiet
import Derived.BigRegion
import Derived.Lib.Hide
import Derived.WalkSmall
import Derived.Laws.BitsAllLaws
import Derived.IntWalk
import Derived.Deep.OwnRows
import Derived.Deep.LoopGhost
import Derived.Shelf.Bits.Mul64
import Derived.Test.YtdlpfiiakmhnlaaRows
import Derived.ProofKit
import Derived.OpenShut
import Derived.ShutString
import Derived.ChangeOld
import Derived.Lib.SmallJoins
import Derived.Laws.IdiomArrays
import Derived.Laws.CopyOwn
import Derived.Laws.AppendOwn
import Derived.Deep.DeepAppendRoom
import Derived.Lib.AppendZerosOnto
import Derived.Lib.Overlaps
import Derived.Deep.RegionLaw
import Derived.Shelf.RegionOpenPlain
import Derived.Deep.RegionWith
import Derived.Sort.LoopGhostIn
import Derived.RangeFuncNested
import Derived.RangeFuncBound
import Derived.RangeFuncCalls
import Derived.RangeFuncLeaves
import Derived.OwnWalk
import Derived.OwnWalkIn
import Derived.TacticsInMore
import Derived.LoopNIn
import Derived.LoopIn
import Derived.Deep.DeepFit
import Derived.Deep.DeepCutAuto
import Derived.Shelf.Abstract
import Derived.Shelf.RegionOpen
import Derived.Maps.OwnIn
import Derived.WalkMore
import Derived.Deep.SlicePairs
namespace Go.Proofs.Ytdlpfiiakmhnlaa
open Go.RowKit Go.Shelf

/-- what a store is at each turn: a triangulation, or empty -/
structure FS (N n : Nat) (X Y : Nat → Int) (O : Nat → List (Nat × Nat)) : Prop where
  ws : WS N O n
  ge : (∃ H r, GO N X Y O H ∧ RC N X Y H ∧ H.length = r + 2 ∧ ∃ i, 2 ≤ i ∧ i < N ∧ wy X Y 0 1 i ≠ 0) ∨ ∀ a b : Nat, lookH (O a) b = none
def FI (B : Nat) (w : World) (t N n : Nat) (X Y : Nat → Int) : Prop := ∃ (D : SD) (O : Nat → List (Nat × Nat)), SM w t D N X Y O (n : Nat) ∧ FS N n X Y O ∧ ∀ g, D.has t N g → B ≤ g
theorem Tri.few2 {N q : Nat} {X Y : Nat → Int} {T : List Tri3} {O : Nat → List (Nat × Nat)} (h : Tri N X Y q T O) : T.length ≤ 2 * N := by
  rcases Nat.lt_or_ge q N with hq | hq
  · obtain ⟨hh, z, eT, eh, HH, HB, _⟩ := h.some hq
    have := HB.cnt
    omega
  · rw [h.none (by have := h.ln.2.1; omega)]; exact Nat.zero_le _
theorem Tri.fs {N q : Nat} {X Y : Nat → Int} {T : List Tri3} {O : Nat → List (Nat × Nat)} (h : Tri N X Y q T O) (hg : allC N X Y = true) (hr : risC N X Y) : FS N T.length X Y O := by
  refine ⟨h.ws, ?_⟩
  rcases Nat.lt_or_ge q N with hq | hq
  · obtain ⟨H, r, G, hC, hH⟩ := h.go hg hr hq
    exact .inl ⟨H, r, G, hC, hH, q, by have := h.ln.1; omega, hq, h.ln.2.2.2 hq⟩
  · refine .inr fun a b => ?_
    rw [h.all, h.none (by have := h.ln.2.1; omega)]
    rfl
theorem FS.flip {N n : Nat} {X Y : Nat → Int} {O : Nat → List (Nat × Nat)} {a b c d : Nat} (h : FS N n X Y O) (hc : lookH (O a) b = some c) (hd : lookH (O b) a = some d) (hf : gT X Y d c a * gT X Y d c b < 0) : FL O a b c d ∧ FS N n X Y (flO O a b c d) ∧ ∃ H r, GO N X Y (flO O a b c d) H ∧ RC N X Y H ∧ H.length = r + 2 ∧ ∃ i, 2 ≤ i ∧ i < N ∧ wy X Y 0 1 i ≠ 0 := by
  rcases h.ge with ⟨H, r, G, h1, h2, h3⟩ | h0
  · have F := G.fl hc hd hf
    exact ⟨F, ⟨F.ws h.ws, .inl ⟨H, r, G.flip h.ws hc hd hf, h1, h2, h3⟩⟩, H, r, G.flip h.ws hc hd hf, h1, h2, h3⟩
  · rw [h0] at hc; cases hc
/-- a store stays as another one is written -/
theorem SM.beside {V V' : World} {t cb N : Nat} {D D2 D' : SD} {X Y : Nat → Int} {O O' : Nat → List (Nat × Nat)} {n n' : Int} (hs : SM V cb D' N X Y O' n') (ap : ∀ g, D.has t N g → ¬ D'.has cb N g) (hp : SM V t D N X Y O n) (hfr : Fr V V' (D.has t N)) (hh : ∀ g, D2.has t N g → D.has t N g ∨ V.heap.size ≤ g) : SM V' cb D' N X Y O' n' ∧ ∀ g, D2.has t N g → ¬ D'.has cb N g := by
  refine ⟨hs.fr hfr (fun b hb h => ap b h hb) (fun a ha h0 => ?_), fun g hg h' => ?_⟩
  · obtain ⟨a', cur, e, hc⟩ := hs.pty h0
    rw [ha] at e; injection e with e; subst e
    exact hp.notHas hc (by decide) (by decide) (by decide)
  · rcases hh g hg with h | h
    · exact ap g h h'
    · have := hs.lt h'; omega
theorem SM.st {w : World} {t N : Nat} {D : SD} {X Y : Nat → Int} {O : Nat → List (Nat × Nat)} {n : Int} (h : SM w t D N X Y O n) : ST 0 w t N X Y O n := .inl ⟨D, h, fun _ _ => Nat.zero_le _⟩
theorem Facing_v (X Y : Nat → Int) (a b c d : Nat) (ax ay bx b_y cx cy dx dy : Int) (r : Bool) (e : X a = ax ∧ Y a = ay ∧ X b = bx ∧ Y b = b_y ∧ X c = cx ∧ Y c = cy ∧ X d = dx ∧ Y d = dy) (hr : r = true ↔ wy X Y a b c * wy X Y a b d < 0 ∧ wy X Y c d a * wy X Y c d b < 0) (w : World) :
    Calls Try.prog 37 #[pI ax ay, pI bx b_y, pI cx cy, pI dx dy] w fun e w' => e = .returned (.bool r) ∧ Below w.heap.size w w' := by
  obtain ⟨rfl, rfl, rfl, rfl, rfl, rfl, rfl, rfl⟩ := e
  refine (Facing_is (X a) (Y a) (X b) (Y b) (X c) (Y c) (X d) (Y d) (wy X Y a b c) (wy X Y a b d) (wy X Y c d a) (wy X Y c d b) rfl rfl rfl rfl w).mono ?_
  rintro e w' ⟨b', rfl, hb, hw⟩
  have : b' = r := by
    cases b' with
    | true => exact (hr.2 (hb.1 rfl)).symm
    | false => cases r with
      | false => rfl
      | true => exact absurd (hb.2 (hr.1 rfl)) (by decide)
  subst this
  exact ⟨rfl, hw⟩
theorem sgn_swap {N : Nat} {X Y : Nat → Int} (hg : allC N X Y = true) {a b c d : Nat} (la : a < N) (lb : b < N) (lc : c < N) (ld : d < N) (p : 0 < gT X Y a b c) (p' : 0 < gT X Y b a d) (r : Bool) (hr : r = true ↔ gT X Y d c a * gT X Y d c b < 0) : (wy X Y d c a * wy X Y d c b < 0 ↔ gT X Y d c a * gT X Y d c b < 0) ∧ (r = true ↔ wy X Y a b c * wy X Y a b d < 0 ∧ wy X Y c d a * wy X Y c d b < 0) := by
  rw [wy_sgn hg la lb lc, wy_sgn hg la lb ld, wy_sgn hg ld lc la, wy_sgn hg ld lc lb, wy_sgn hg lc ld la, wy_sgn hg lc ld lb, sgn_mul_neg, sgn_mul_neg, sgn_mul_neg, gT_neg d c a, gT_neg d c b, Int.neg_mul_neg, hr]
  have e := gT_neg (X := X) (Y := Y) a b d
  have m := Int.mul_neg_of_pos_of_neg p (show gT X Y a b d < 0 by omega)
  exact ⟨Iff.rfl, fun h => ⟨m, h⟩, fun h => h.2⟩
set_option maxRecDepth 100000 in
set_option maxHeartbeats 8000000 in
theorem TriFlips_any (ao : Option Addr) (N cap : Nat) (X Y : Nat → Int) (ao2 : Option Addr) (m cap2 : Nat) (A B : Nat → Int) (w : World) (h : Pts w ao N cap X Y) (h2 : Pts w ao2 m cap2 A B) :
    Calls Try.prog 9 #[.slice ao N cap, .slice ao2 m cap2] w fun e w' => e = .returned (.bool true) ∧ Below w.heap.size w w' := by
 have HP := Lib.hid h
 have HO := Lib.hid h2
 have hcl := h.capl
 have hcb := h.capb
 have hcl2 := h2.capl
 have hcb2 := h2.capb
 clear h h2
 go_enter Try.func9, Try.ntmps9
 by_cases h12 : 16 < N
 ·have h12' : (16 : Int) < (N : Int) := by omega
  go_wp2_with fail
  refine (awake_is _).mono ?_
  rintro e V ⟨rfl, hb⟩
  go_wp2
  go_ret
  exact ⟨rfl, hb⟩
 ·have h12' : ¬ (16 : Int) < (N : Int) := by omega
  by_cases h30 : 20 < m
  ·have h30' : (20 : Int) < (m : Int) := by omega
   go_wp2_with fail
   refine (awake_is _).mono ?_
   rintro e V ⟨rfl, hb⟩
   go_wp2
   go_ret
   exact ⟨rfl, hb⟩
  ·have h30' : ¬ (20 : Int) < (m : Int) := by omega
   go_wp2_with fail
   refine (rising_is ao N cap X Y w HP.out (by omega)).mono ?_
   rintro e V ⟨b, rfl, hr, hb⟩
   rw [rsP_ris] at hr
   have HR := Lib.hid hr
   have B0 := Lib.hid hb
   clear hr hb
   cases b with
   | false =>
    go_wp2_with fail
    refine (awake_is _).mono ?_
    rintro e V2 ⟨rfl, hb⟩
    have hb2 := B0.out.trans (hb.mono B0.out.size)
    clear hb B0
    go_wp2
    go_ret
    exact ⟨rfl, hb2⟩
   | true =>
    obtain ⟨hg, hri⟩ := HR.out.1 rfl
    have HG := Lib.hid hg
    have HRI := Lib.hid hri
    clear hg hri
    go_wp2_with fail
    refine (Build_tri ao N cap X Y V (HP.out.of B0.out) (by omega) HG.out HRI.out).mono ?_
    rintro e V1 ⟨t, D, q, T, O, rfl, hT, hS, hDl, hb⟩
    have hfew := hT.few2
    have HFI1 : Hid (FI w.heap.size V1 t N T.length X Y) := Lib.hid ⟨D, O, hS, hT.fs HG.out HRI.out, fun g hg => Nat.le_trans B0.out.size (hDl g hg)⟩
    have B1 := Lib.hid (B0.out.trans (hb.mono B0.out.size))
    obtain ⟨n, hn⟩ : ∃ n, T.length = n := ⟨_, rfl⟩
    rw [hn] at HFI1 hfew
    clear hT hS hDl hb B0 hn
    go_wp2_with fail
    go_loopg [43] m (fun gk s43 wr => ∃ i : Nat, s43 = .int .i64 (i : Nat) ∧ i ≤ m ∧ m - i ≤ gk ∧ Hid (FI w.heap.size wr t N n X Y) ∧ Hid (Below w.heap.size w wr))
    case atStart => exact ⟨0, rfl, by omega, by omega, HFI1, B1⟩
    case round =>
     clear HFI1 B1
     obtain ⟨i, rfl, hi, hgi, HFI, HB⟩ := hrel
     by_cases hlt : i < m
     ·obtain ⟨oa, rfl, p0, p1⟩ := HO.out.at HB.out hlt
      obtain ⟨f0, hf0⟩ : ∃ x, A i = x := ⟨_, rfl⟩
      obtain ⟨f1, hf1⟩ : ∃ x, B i = x := ⟨_, rfl⟩
      rw [hf0] at p0
      rw [hf1] at p1
      clear hf0 hf1
      obtain ⟨D, O, hs, hfs, hd⟩ := HFI.out
      have HS := Lib.hid hs
      have HFS := Lib.hid hfs
      have HD := Lib.hid hd
      have hpl : (preO O N).length < 100000000 := by rw [hfs.ws.cnt]; omega
      have HPL := Lib.hid hpl
      clear hs hfs hd HFI hpl
      obtain ⟨R1, h1⟩ : ∃ R, leftO N O f0 f1 = R := ⟨_, rfl⟩
      obtain ⟨R2, h2⟩ : ∃ R, leftO N O f1 f0 = R := ⟨_, rfl⟩
      cases R1 with
      | none =>
       have HR1 := Lib.hid h1
       have HR2 := Lib.hid h2
       clear h1 h2
       go_wp2_with fail
       refine calls_w ?_
       intro W0 hW
       have hbW : Below wr.heap.size wr W0 := by rw [hW]; exact below_a1 _ _
       have kO : Blk W0 wr.heap.size #[.int .i64 f0, .int .i64 f1] 76 := by rw [hW]; exact Blk.new _ _ _
       obtain ⟨ob, eob⟩ : ∃ b, wr.heap.size = b := ⟨_, rfl⟩
       rw [eob] at kO ⊢
       have HK0 := Lib.hid kO
       have HS0 := Lib.hid (HS.out.of hbW)
       have B0 := Lib.hid (HB.out.trans (hbW.mono HB.out.size))
       clear hW hbW kO p0 p1 eob HS HB
       refine (Left_is t D N X Y O _ f0 f1 W0 HS0.out _ HR1.out).mono ?_
       rintro e W1 ⟨rfl, hb⟩
       have HK1 := Lib.hid (HK0.out.of hb)
       have HS1 := Lib.hid (HS0.out.of hb)
       have B1 := Lib.hid (B0.out.trans (hb.mono B0.out.size))
       clear hb HK0 HS0 B0
       have k0 := HK1.out.cell 0
       have k1 := HK1.out.cell 1
       have lk := HK1.out.lt
       go_wp2_with fail
       refine (Left_is t D N X Y O _ f1 f0 W1 HS1.out _ HR2.out).mono ?_
       rintro e W2 ⟨rfl, hb⟩
       have HK2 := Lib.hid (HK1.out.of hb)
       have HS2 := Lib.hid (HS1.out.of hb)
       have B2 := Lib.hid (B1.out.trans (hb.mono B1.out.size))
       clear hb k0 k1 lk HK1 HS1 B1
       go_wp2_with fail
       refine (Copy_is t D N X Y O _ W2 HS2.out).mono ?_
       rintro e W3 ⟨cb, po, pc, vo, VS, rfl, hcp, hb⟩
       have HK3 := Lib.hid (HK2.out.of hb)
       have HS3 := Lib.hid (HS2.out.of hb)
       have B3 := Lib.hid (B2.out.trans (hb.mono B2.out.size))
       have HC3 := Lib.hid (hcp.st HS2.out)
       clear hb hcp HK2 HS2 B2
       have k0 := HK3.out.cell 0
       have k1 := HK3.out.cell 1
       have lk := HK3.out.lt
       go_wp2_with fail
       refine (Flip_no t D N X Y O _ f0 f1 W3 HS3.out (.inl HR1.out)).mono ?_
       rintro e W4 ⟨rfl, hb⟩
       have HK4 := Lib.hid (HK3.out.of hb)
       have HS4 := Lib.hid (HS3.out.of hb)
       have HC4 := Lib.hid (HC3.out.of hb)
       have B4 := Lib.hid (B3.out.trans (hb.mono B3.out.size))
       clear hb k0 k1 lk HK3 HS3 HC3 B3
       go_wp2_with fail
       have hrefs := HP.out.of B4.out
       refine (refs_is ao N cap X Y W4 hrefs (by omega)).mono ?_
       rintro e W5 ⟨v, rfl, hrow, hb⟩
       have HS5 := Lib.hid (HS4.out.of hb)
       have HC5 := Lib.hid (HC4.out.of hb)
       have B5 := Lib.hid (B4.out.trans (hb.mono B4.out.size))
       clear hrefs hb hrow HK4 HS4 HC4 B4
       go_wp2_with fail
       refine (same_eq _ _ t cb N X Y O _ _ rfl HPL.out W5 HS5.out.st HC5.out).mono ?_
       rintro e W6 ⟨rfl, hb⟩
       have HS6 := Lib.hid (HS5.out.of hb)
       have B6 := Lib.hid (B5.out.trans (hb.mono B5.out.size))
       clear hb HS5 HC5 B5
       go_wp2_with fail
       go_roundg (m - (i + 1))
       case measure => omega
       case rel => exact ⟨i + 1, by norm_cast, by omega, Nat.le_refl _, Lib.hid ⟨D, O, HS6.out, HFS.out, HD.out⟩, B6⟩
      | some c =>
       cases R2 with
       | none =>
        have HR1 := Lib.hid h1
        have HR2 := Lib.hid h2
        clear h1 h2
        go_wp2_with fail
        refine calls_w ?_
        intro W0 hW
        have hbW : Below wr.heap.size wr W0 := by rw [hW]; exact below_a1 _ _
        have kO : Blk W0 wr.heap.size #[.int .i64 f0, .int .i64 f1] 76 := by rw [hW]; exact Blk.new _ _ _
        obtain ⟨ob, eob⟩ : ∃ b, wr.heap.size = b := ⟨_, rfl⟩
        rw [eob] at kO ⊢
        have HK0 := Lib.hid kO
        have HS0 := Lib.hid (HS.out.of hbW)
        have B0 := Lib.hid (HB.out.trans (hbW.mono HB.out.size))
        clear hW hbW kO p0 p1 eob HS HB
        refine (Left_is t D N X Y O _ f0 f1 W0 HS0.out _ HR1.out).mono ?_
        rintro e W1 ⟨rfl, hb⟩
        have HK1 := Lib.hid (HK0.out.of hb)
        have HS1 := Lib.hid (HS0.out.of hb)
        have B1 := Lib.hid (B0.out.trans (hb.mono B0.out.size))
        clear hb HK0 HS0 B0
        have k0 := HK1.out.cell 0
        have k1 := HK1.out.cell 1
        have lk := HK1.out.lt
        go_wp2_with fail
        refine (Left_is t D N X Y O _ f1 f0 W1 HS1.out _ HR2.out).mono ?_
        rintro e W2 ⟨rfl, hb⟩
        have HK2 := Lib.hid (HK1.out.of hb)
        have HS2 := Lib.hid (HS1.out.of hb)
        have B2 := Lib.hid (B1.out.trans (hb.mono B1.out.size))
        clear hb k0 k1 lk HK1 HS1 B1
        go_wp2_with fail
        refine (Copy_is t D N X Y O _ W2 HS2.out).mono ?_
        rintro e W3 ⟨cb, po, pc, vo, VS, rfl, hcp, hb⟩
        have HK3 := Lib.hid (HK2.out.of hb)
        have HS3 := Lib.hid (HS2.out.of hb)
        have B3 := Lib.hid (B2.out.trans (hb.mono B2.out.size))
        have HC3 := Lib.hid (hcp.st HS2.out)
        clear hb hcp HK2 HS2 B2
        have k0 := HK3.out.cell 0
        have k1 := HK3.out.cell 1
        have lk := HK3.out.lt
        go_wp2_with fail
        refine (Flip_no t D N X Y O _ f0 f1 W3 HS3.out (.inr HR2.out)).mono ?_
        rintro e W4 ⟨rfl, hb⟩
        have HK4 := Lib.hid (HK3.out.of hb)
        have HS4 := Lib.hid (HS3.out.of hb)
        have HC4 := Lib.hid (HC3.out.of hb)
        have B4 := Lib.hid (B3.out.trans (hb.mono B3.out.size))
        clear hb k0 k1 lk HK3 HS3 HC3 B3
        go_wp2_with fail
        have hrefs := HP.out.of B4.out
        refine (refs_is ao N cap X Y W4 hrefs (by omega)).mono ?_
        rintro e W5 ⟨v, rfl, hrow, hb⟩
        have HS5 := Lib.hid (HS4.out.of hb)
        have HC5 := Lib.hid (HC4.out.of hb)
        have B5 := Lib.hid (B4.out.trans (hb.mono B4.out.size))
        clear hrefs hb hrow HK4 HS4 HC4 B4
        go_wp2_with fail
        refine (same_eq _ _ t cb N X Y O _ _ rfl HPL.out W5 HS5.out.st HC5.out).mono ?_
        rintro e W6 ⟨rfl, hb⟩
        have HS6 := Lib.hid (HS5.out.of hb)
        have B6 := Lib.hid (B5.out.trans (hb.mono B5.out.size))
        clear hb HS5 HC5 B5
        go_wp2_with fail
        go_roundg (m - (i + 1))
        case measure => omega
        case rel => exact ⟨i + 1, by norm_cast, by omega, Nat.le_refl _, Lib.hid ⟨D, O, HS6.out, HFS.out, HD.out⟩, B6⟩
       | some d =>
        obtain ⟨a, b, rfl, rfl, la, hc⟩ := leftO_nat h1
        have lb := (HFS.out.ws.dom _ _ _ hc).2.1
        have lc := (HFS.out.ws.dom _ _ _ hc).2.2
        have hd : lookH (O b) (a : Nat) = some d := (leftO_of lb).symm.trans h2
        have ld := (HFS.out.ws.dom _ _ _ hd).2.2
        have HR1 := Lib.hid h1
        have HR2 := Lib.hid h2
        have HCD := Lib.hid (And.intro hc hd)
        have hpos : 0 < gT X Y a b c ∧ 0 < gT X Y b a d := by
         rcases HFS.out.ge with ⟨H, r, G, _⟩ | h0
         ·exact ⟨G.pos _ _ _ hc, G.pos _ _ _ hd⟩
         ·rw [h0] at hc; cases hc
        have HPOS := Lib.hid hpos
        clear h1 h2 hc hd hpos
        obtain ⟨r, hr⟩ : ∃ r : Bool, (r = true ↔ gT X Y d c a * gT X Y d c b < 0) := ⟨decide (gT X Y d c a * gT X Y d c b < 0), by simp⟩
        have HSG := Lib.hid (sgn_swap HG.out la lb lc ld HPOS.out.1 HPOS.out.2 r hr)
        have HR := Lib.hid hr
        clear hr
        cases r with
        | false =>
         have HRF := Lib.hid (show 0 ≤ gT X Y d c a * gT X Y d c b from Int.not_lt.1 fun h => Bool.false_ne_true (HR.out.2 h))
         clear HR
         go_wp2_with fail
         refine calls_w ?_
         intro W0 hW
         have hbW : Below wr.heap.size wr W0 := by rw [hW]; exact below_a1 _ _
         have kO : Blk W0 wr.heap.size #[.int .i64 a, .int .i64 b] 76 := by rw [hW]; exact Blk.new _ _ _
         obtain ⟨ob, eob⟩ : ∃ b, wr.heap.size = b := ⟨_, rfl⟩
         rw [eob] at kO ⊢
         have HK0 := Lib.hid kO
         have HS0 := Lib.hid (HS.out.of hbW)
         have B0 := Lib.hid (HB.out.trans (hbW.mono HB.out.size))
         clear hW hbW kO p0 p1 eob HS HB
         refine (Left_is t D N X Y O _ a b W0 HS0.out _ HR1.out).mono ?_
         rintro e W1 ⟨rfl, hb⟩
         have HK1 := Lib.hid (HK0.out.of hb)
         have HS1 := Lib.hid (HS0.out.of hb)
         have B1 := Lib.hid (B0.out.trans (hb.mono B0.out.size))
         clear hb HK0 HS0 B0
         have k0 := HK1.out.cell 0
         have k1 := HK1.out.cell 1
         have lk := HK1.out.lt
         go_wp2_with fail
         refine (Left_is t D N X Y O _ b a W1 HS1.out _ HR2.out).mono ?_
         rintro e W2 ⟨rfl, hb⟩
         have HK2 := Lib.hid (HK1.out.of hb)
         have HS2 := Lib.hid (HS1.out.of hb)
         have B2 := Lib.hid (B1.out.trans (hb.mono B1.out.size))
         clear hb k0 k1 lk HK1 HS1 B1
         go_wp2_with fail
         refine (Copy_is t D N X Y O _ W2 HS2.out).mono ?_
         rintro e W3 ⟨cb, po, pc, vo, VS, rfl, hcp, hb⟩
         have HK3 := Lib.hid (HK2.out.of hb)
         have HS3 := Lib.hid (HS2.out.of hb)
         have B3 := Lib.hid (B2.out.trans (hb.mono B2.out.size))
         have HC3 := Lib.hid (hcp.st HS2.out)
         clear hb hcp HK2 HS2 B2
         have k0 := HK3.out.cell 0
         have k1 := HK3.out.cell 1
         have lk := HK3.out.lt
         go_wp2_with fail
         refine (Flip_bad t D N X Y O _ a b c d W3 HS3.out HCD.out.1 HCD.out.2 la lb lc ld (fun h => Int.not_lt.2 HRF.out (HSG.out.1.1 h))).mono ?_
         rintro e W4 ⟨rfl, hb⟩
         have HK4 := Lib.hid (HK3.out.of hb)
         have HS4 := Lib.hid (HS3.out.of hb)
         have HC4 := Lib.hid (HC3.out.of hb)
         have B4 := Lib.hid (B3.out.trans (hb.mono B3.out.size))
         clear hb k0 k1 lk HK3 HS3 HC3 B3
         go_wp2_with fail
         have hrefs := HP.out.of B4.out
         refine (refs_is ao N cap X Y W4 hrefs (by omega)).mono ?_
         rintro e W5 ⟨v, rfl, hrow, hb⟩
         have HK5 := Lib.hid (HK4.out.of hb)
         have HS5 := Lib.hid (HS4.out.of hb)
         have HC5 := Lib.hid (HC4.out.of hb)
         have B5 := Lib.hid (B4.out.trans (hb.mono B4.out.size))
         obtain ⟨po, pc, rfl, hpp⟩ := Pts.ofRow hrow
         have HPP := Lib.hid hpp
         have hpcl := hpp.capl
         have hpcb := hpp.capb
         obtain ⟨pa, rfl, hpt⟩ := hpp.atP (by omega)
         obtain ⟨xa, hxa⟩ : ∃ x, X a = x := ⟨_, rfl⟩
         obtain ⟨ya, hya⟩ : ∃ x, Y a = x := ⟨_, rfl⟩
         have qa := hpt a la
         rw [hxa, hya] at qa
         have qa0 := fun u => (qa u).1
         have qa1 := fun u => (qa u).2
         clear qa
         obtain ⟨xb, hxb⟩ : ∃ x, X b = x := ⟨_, rfl⟩
         obtain ⟨yb, hyb⟩ : ∃ x, Y b = x := ⟨_, rfl⟩
         have qb := hpt b lb
         rw [hxb, hyb] at qb
         have qb0 := fun u => (qb u).1
         have qb1 := fun u => (qb u).2
         clear qb
         obtain ⟨xc, hxc⟩ : ∃ x, X c = x := ⟨_, rfl⟩
         obtain ⟨yc, hyc⟩ : ∃ x, Y c = x := ⟨_, rfl⟩
         have qc := hpt c lc
         rw [hxc, hyc] at qc
         have qc0 := fun u => (qc u).1
         have qc1 := fun u => (qc u).2
         clear qc
         obtain ⟨xd, hxd⟩ : ∃ x, X d = x := ⟨_, rfl⟩
         obtain ⟨yd, hyd⟩ : ∃ x, Y d = x := ⟨_, rfl⟩
         have qd := hpt d ld
         rw [hxd, hyd] at qd
         have qd0 := fun u => (qd u).1
         have qd1 := fun u => (qd u).2
         clear qd
         have HXY := Lib.hid (show X a = xa ∧ Y a = ya ∧ X b = xb ∧ Y b = yb ∧ X c = xc ∧ Y c = yc ∧ X d = xd ∧ Y d = yd from ⟨hxa, hya, hxb, hyb, hxc, hyc, hxd, hyd⟩)
         clear hxa hya hxb hyb hxc hyc hxd hyd
         clear hrefs hb hrow hpp hpt HK4 HS4 HC4 B4
         have k0 := HK5.out.cell 0
         have k1 := HK5.out.cell 1
         have lk := HK5.out.lt
         go_wp2_with fail
         refine wp_region_up W5.heap.size 18 [(true, 0), (true, 1), (true, 2), (true, 3), (true, 4), (true, 5), (true, 6), (true, 7), (true, 8), (true, 9), (true, 10), (true, 11), (true, 12), (true, 13), (true, 14), (true, 15), (true, 16), (true, 17)] (by kernel_rfl) (by kernel_rfl) (fun _ _ d _ _ h => by cases d <;> exact h) ?_
         have hb : Below W5.heap.size W5 W5.drew := (Below.refl _ _).drew
         iterate 18
          refine wpS_takeL rfl rfl ?_
          go_big_quiet_step (rfl)
          refine wpQuiet_nil ?_
         refine wpS_nil ?_
         simp only [List.drop_succ_cons, List.drop_zero]
         have hb1 := hb
         clear hb
         go_wp2_with fail
         refine (Facing_v X Y a b c d xa ya xb yb xc yc xd yd _ HXY.out HSG.out.2 _).mono ?_
         rintro e W6 ⟨rfl, hb2⟩
         have hb : Below W5.heap.size W5 W6 := hb1.trans (hb2.mono hb1.size)
         clear hb1 hb2
         have HS6 := Lib.hid (HS5.out.of hb)
         have HC6 := Lib.hid (HC5.out.of hb)
         have B6 := Lib.hid (B5.out.trans (hb.mono B5.out.size))
         clear hb k0 k1 lk qa0 qa1 qb0 qb1 qc0 qc1 qd0 qd1 HK5 HS5 HC5 B5
         go_wp2_with fail
         refine (same_eq _ _ t cb N X Y O _ _ rfl HPL.out _ HS6.out.st HC6.out).mono ?_
         rintro e W7 ⟨rfl, hb⟩
         have HS7 := Lib.hid (HS6.out.of hb)
         have B7 := Lib.hid (B6.out.trans (hb.mono B6.out.size))
         clear hb HS6 HC6 B6
         go_wp2_with fail
         go_roundg (m - (i + 1))
         case measure => omega
         case rel => exact ⟨i + 1, by norm_cast, by omega, Nat.le_refl _, Lib.hid ⟨D, O, HS7.out, HFS.out, HD.out⟩, B7⟩
        | true =>
         have HRT := Lib.hid (HR.out.1 rfl)
         have HSGF := Lib.hid (HSG.out.2.1 rfl)
         clear HR
         go_wp2_with fail
         refine calls_w ?_
         intro W0 hW
         have hbW : Below wr.heap.size wr W0 := by rw [hW]; exact below_a1 _ _
         have kO : Blk W0 wr.heap.size #[.int .i64 a, .int .i64 b] 76 := by rw [hW]; exact Blk.new _ _ _
         obtain ⟨ob, eob⟩ : ∃ b, wr.heap.size = b := ⟨_, rfl⟩
         rw [eob] at kO ⊢
         have HK0 := Lib.hid kO
         have HS0 := Lib.hid (HS.out.of hbW)
         have B0 := Lib.hid (HB.out.trans (hbW.mono HB.out.size))
         clear hW hbW kO p0 p1 eob HS HB
         refine (Left_is t D N X Y O _ a b W0 HS0.out _ HR1.out).mono ?_
         rintro e W1 ⟨rfl, hb⟩
         have HK1 := Lib.hid (HK0.out.of hb)
         have HS1 := Lib.hid (HS0.out.of hb)
         have B1 := Lib.hid (B0.out.trans (hb.mono B0.out.size))
         clear hb HK0 HS0 B0
         have k0 := HK1.out.cell 0
         have k1 := HK1.out.cell 1
         have lk := HK1.out.lt
         go_wp2_with fail
         refine (Left_is t D N X Y O _ b a W1 HS1.out _ HR2.out).mono ?_
         rintro e W2 ⟨rfl, hb⟩
         have HK2 := Lib.hid (HK1.out.of hb)
         have HS2 := Lib.hid (HS1.out.of hb)
         have B2 := Lib.hid (B1.out.trans (hb.mono B1.out.size))
         clear hb k0 k1 lk HK1 HS1 B1
         go_wp2_with fail
         refine (Copy_is t D N X Y O _ W2 HS2.out).mono ?_
         rintro e W3 ⟨cb, po, pc, vo, VS, rfl, hcp, hb⟩
         have HK3 := Lib.hid (HK2.out.of hb)
         have HS3 := Lib.hid (HS2.out.of hb)
         have B3 := Lib.hid (B2.out.trans (hb.mono B2.out.size))
         obtain ⟨D', hc3, hcB⟩ := hcp.sm (by omega) HS2.out
         have HC3 := Lib.hid hc3
         have HAP3 := Lib.hid (show ∀ g, D.has t N g → ¬ D'.has cb N g from fun g h1 h2 => by have := hcB g h2; have := HS2.out.lt h1; omega)
         have HDB3 := Lib.hid (show ∀ g, D'.has cb N g → w.heap.size ≤ g from fun g h => Nat.le_trans B2.out.size (hcB g h))
         clear hb hcp hc3 hcB HK2 HS2 B2
         have HFF := Lib.hid (HFS.out.flip HCD.out.1 HCD.out.2 HRT.out)
         have k0 := HK3.out.cell 0
         have k1 := HK3.out.cell 1
         have lk := HK3.out.lt
         go_wp2_with fail
         refine (Flip_yes t D N X Y O n a b c d W3 HS3.out HFF.out.1 HFS.out.ws (by omega) (HSG.out.1.2 HRT.out)).mono ?_
         rintro e W4 ⟨rfl, D2, hs, hfr, hh, _⟩
         obtain ⟨hc4, hap4⟩ := SM.beside HC3.out HAP3.out HS3.out hfr hh
         have HK4 := Lib.hid (hfr.blk HK3.out (HS3.out.notHas HK3.out (by decide) (by decide) (by decide)))
         have HS4 := Lib.hid hs
         have HC4 := Lib.hid hc4
         have HAP4 := Lib.hid hap4
         have HD4 := Lib.hid (show ∀ g, D2.has t N g → w.heap.size ≤ g from fun g hg => (hh g hg).elim (HD.out g) (fun h => Nat.le_trans B3.out.size h))
         have B4 := Lib.hid (B3.out.trans (hfr.below B3.out.size HD.out))
         clear hs hfr hh hc4 hap4 k0 k1 lk HK3 HS3 HC3 B3 HAP3
         go_wp2_with fail
         have hrefs := HP.out.of B4.out
         refine (refs_is ao N cap X Y W4 hrefs (by omega)).mono ?_
         rintro e W5 ⟨v, rfl, hrow, hb⟩
         have HK5 := Lib.hid (HK4.out.of hb)
         have HS5 := Lib.hid (HS4.out.of hb)
         have HC5 := Lib.hid (HC4.out.of hb)
         have B5 := Lib.hid (B4.out.trans (hb.mono B4.out.size))
         obtain ⟨po, pc, rfl, hpp⟩ := Pts.ofRow hrow
         have HPP := Lib.hid hpp
         have hpcl := hpp.capl
         have hpcb := hpp.capb
         obtain ⟨pa, rfl, hpt⟩ := hpp.atP (by omega)
         obtain ⟨xa, hxa⟩ : ∃ x, X a = x := ⟨_, rfl⟩
         obtain ⟨ya, hya⟩ : ∃ x, Y a = x := ⟨_, rfl⟩
         have qa := hpt a la
         rw [hxa, hya] at qa
         have qa0 := fun u => (qa u).1
         have qa1 := fun u => (qa u).2
         clear qa
         obtain ⟨xb, hxb⟩ : ∃ x, X b = x := ⟨_, rfl⟩
         obtain ⟨yb, hyb⟩ : ∃ x, Y b = x := ⟨_, rfl⟩
         have qb := hpt b lb
         rw [hxb, hyb] at qb
         have qb0 := fun u => (qb u).1
         have qb1 := fun u => (qb u).2
         clear qb
         obtain ⟨xc, hxc⟩ : ∃ x, X c = x := ⟨_, rfl⟩
         obtain ⟨yc, hyc⟩ : ∃ x, Y c = x := ⟨_, rfl⟩
         have qc := hpt c lc
         rw [hxc, hyc] at qc
         have qc0 := fun u => (qc u).1
         have qc1 := fun u => (qc u).2
         clear qc
         obtain ⟨xd, hxd⟩ : ∃ x, X d = x := ⟨_, rfl⟩
         obtain ⟨yd, hyd⟩ : ∃ x, Y d = x := ⟨_, rfl⟩
         have qd := hpt d ld
         rw [hxd, hyd] at qd
         have qd0 := fun u => (qd u).1
         have qd1 := fun u => (qd u).2
         clear qd
         have HXY := Lib.hid (show X a = xa ∧ Y a = ya ∧ X b = xb ∧ Y b = yb ∧ X c = xc ∧ Y c = yc ∧ X d = xd ∧ Y d = yd from ⟨hxa, hya, hxb, hyb, hxc, hyc, hxd, hyd⟩)
         clear hxa hya hxb hyb hxc hyc hxd hyd
         clear hrefs hb hrow hpp hpt HK4 HS4 HC4 B4
         have k0 := HK5.out.cell 0
         have k1 := HK5.out.cell 1
         have lk := HK5.out.lt
         go_wp2_with fail
         refine wp_region_up W5.heap.size 18 [(true, 0), (true, 1), (true, 2), (true, 3), (true, 4), (true, 5), (true, 6), (true, 7), (true, 8), (true, 9), (true, 10), (true, 11), (true, 12), (true, 13), (true, 14), (true, 15), (true, 16), (true, 17)] (by kernel_rfl) (by kernel_rfl) (fun _ _ d _ _ h => by cases d <;> exact h) ?_
         have hb : Below W5.heap.size W5 W5.drew := (Below.refl _ _).drew
         iterate 18
          refine wpS_takeL rfl rfl ?_
          go_big_quiet_step (rfl)
          refine wpQuiet_nil ?_
         refine wpS_nil ?_
         simp only [List.drop_succ_cons, List.drop_zero]
         have hb1 := hb
         clear hb
         go_wp2_with fail
         refine (Facing_v X Y a b c d xa ya xb yb xc yc xd yd true HXY.out ⟨fun _ => HSGF.out, fun _ => rfl⟩ _).mono ?_
         rintro e W6 ⟨rfl, hb2⟩
         have hb : Below W5.heap.size W5 W6 := hb1.trans (hb2.mono hb1.size)
         clear hb1 hb2
         have HK6 := Lib.hid (HK5.out.of hb)
         have HS6 := Lib.hid (HS5.out.of hb)
         have HC6 := Lib.hid (HC5.out.of hb)
         have HPP6 := Lib.hid (HPP.out.of hb)
         have B6 := Lib.hid (B5.out.trans (hb.mono B5.out.size))
         clear hb k0 k1 lk qa0 qa1 qb0 qb1 qc0 qc1 qd0 qd1 HK5 HS5 HC5 B5 HPP
         obtain ⟨O2, hO2⟩ : ∃ x, flO O a b c d = x := ⟨_, rfl⟩
         have HO2 := Lib.hid hO2
         have HW2 := Lib.hid HFF.out.2.1.ws
         have hpl2 : (preO (flO O a b c d) N).length < 100000000 := by rw [HW2.out.cnt]; omega
         have HPL2 := Lib.hid hpl2
         have HNE := Lib.hid (HFF.out.1.other HFS.out.ws.cyc HFS.out.ws.dom (N := N))
         clear hpl2 hO2 HO2
         go_wp2_with fail
         refine (same_ne _ _ t cb N X Y (flO O a b c d) O _ _ _ _ n rfl rfl HW2.out.cnt HFS.out.ws.cnt (by omega) HNE.out _ HS6.out.st HC6.out.st).mono ?_
         rintro e W7 ⟨rfl, hb⟩
         have HK7 := Lib.hid (HK6.out.of hb)
         have HS7 := Lib.hid (HS6.out.of hb)
         have HC7 := Lib.hid (HC6.out.of hb)
         have HPP7 := Lib.hid (HPP6.out.of hb)
         have B7 := Lib.hid (B6.out.trans (hb.mono B6.out.size))
         clear hb HK6 HS6 HC6 HPP6 B6
         go_wp2_with fail
         refine (all_is t D2 N X Y (flO O a b c d) _ _ rfl HPL2.out W7 HS7.out).mono ?_
         rintro e W8 ⟨v, rfl, hTL, hb⟩
         obtain ⟨ao8, cap8, rfl, hTr⟩ := Trs.ofRow hTL
         have HTr := Lib.hid hTr
         have hcl8 := hTr.capl
         have hcb8 := hTr.capb
         have HK8 := Lib.hid (HK7.out.of hb)
         have HS8 := Lib.hid (HS7.out.of hb)
         have HC8 := Lib.hid (HC7.out.of hb)
         have HPP8 := Lib.hid (HPP7.out.of hb)
         have B8 := Lib.hid (B7.out.trans (hb.mono B7.out.size))
         rw [HW2.out.cnt] at hcl8 ⊢
         clear hTL hb hTr HK7 HS7 HC7 HPP7 B7
         go_wp2_with fail
         obtain ⟨H, r0, hGO, hRC, hHl, hW0⟩ := HFF.out.2.2
         refine (Right_is (some pa) N pc X Y ao8 cap8 _ n H r0 W8 HPP8.out (by omega) HG.out HTr.out HW2.out.cnt (by omega) (hGO.rt HG.out HW2.out) hRC hHl hW0).mono ?_
         rintro e W9 ⟨rfl, hb⟩
         have HK9 := Lib.hid (HK8.out.of hb)
         have HS9 := Lib.hid (HS8.out.of hb)
         have HC9 := Lib.hid (HC8.out.of hb)
         have B9 := Lib.hid (B8.out.trans (hb.mono B8.out.size))
         clear hb hGO hRC hHl hW0 HK8 HS8 HC8 HPP8 B8 HTr
         go_wp2_with fail
         refine (whole_is t D2 N X Y (flO O a b c d) n (by omega) HW2.out W9 HS9.out).mono ?_
         rintro e W10 ⟨rfl, hb⟩
         have HK10 := Lib.hid (HK9.out.of hb)
         have HS10 := Lib.hid (HS9.out.of hb)
         have HC10 := Lib.hid (HC9.out.of hb)
         have B10 := Lib.hid (B9.out.trans (hb.mono B9.out.size))
         clear hb HK9 HS9 HC9 B9
         have k0 := HK10.out.cell 0
         have k1 := HK10.out.cell 1
         have lk := HK10.out.lt
         have HAPr := Lib.hid (show ∀ g, D'.has cb N g → ¬ D2.has t N g from fun g h1 h2 => HAP4.out g h2 h1)
         go_wp2_with fail
         refine (Flip_yes cb D' N X Y O n a b c d W10 HC10.out HFF.out.1 HFS.out.ws (by omega) (HSG.out.1.2 HRT.out)).mono ?_
         rintro e W11 ⟨rfl, E1, hs, hfr, hh, _⟩
         obtain ⟨hc4, hap4⟩ := SM.beside HS10.out HAPr.out HC10.out hfr hh
         have HK11 := Lib.hid (hfr.blk HK10.out (HC10.out.notHas HK10.out (by decide) (by decide) (by decide)))
         have HC11 := Lib.hid hs
         have HS11 := Lib.hid hc4
         have HAP11 := Lib.hid hap4
         have HD11 := Lib.hid (show ∀ g, E1.has cb N g → w.heap.size ≤ g from fun g hg => (hh g hg).elim (HDB3.out g) (fun h => Nat.le_trans B10.out.size h))
         have B11 := Lib.hid (B10.out.trans (hfr.below B10.out.size HDB3.out))
         clear hs hfr hh hc4 hap4 k0 k1 lk HK10 HS10 HC10 B10 HAPr
         have HX2 := Lib.hid (HFF.out.1.next HFS.out.ws.cyc)
         have hsg2 : wy X Y a b c * wy X Y a b d < 0 := HSGF.out.1
         have HSG2 := Lib.hid hsg2
         clear hsg2
         go_wp2_with fail
         refine (Flip_yes cb E1 N X Y (flO O a b c d) n c d b a W11 HC11.out HX2.out HW2.out (by omega) HSG2.out).mono ?_
         rintro e W12 ⟨rfl, E2, hs, hfr, hh, _⟩
         rw [HFF.out.1.twice HFS.out.ws.cyc] at hs
         obtain ⟨hc4, hap4⟩ := SM.beside HS11.out HAP11.out HC11.out hfr hh
         have HK12 := Lib.hid (hfr.blk HK11.out (HC11.out.notHas HK11.out (by decide) (by decide) (by decide)))
         have HC12 := Lib.hid hs
         have HS12 := Lib.hid hc4
         have HAP12 := Lib.hid hap4
         have HD12 := Lib.hid (show ∀ g, E2.has cb N g → w.heap.size ≤ g from fun g hg => (hh g hg).elim (HD11.out g) (fun h => Nat.le_trans B11.out.size h))
         have B12 := Lib.hid (B11.out.trans (hfr.below B11.out.size HD11.out))
         clear hs hfr hh hc4 hap4 HK11 HS11 HC11 B11 HAP11 HD11
         have k0 := HK12.out.cell 0
         have k1 := HK12.out.cell 1
         have lk := HK12.out.lt
         have hsg3 : wy X Y c d b * wy X Y c d a < 0 := by rw [Int.mul_comm]; exact HSGF.out.2
         have HSG3 := Lib.hid hsg3
         clear hsg3
         go_wp2_with fail
         refine (Flip_yes cb E2 N X Y O n b a d c W12 HC12.out HFF.out.1.rev HFS.out.ws (by omega) HSG3.out).mono ?_
         rintro e W13 ⟨rfl, E3, hs, hfr, hh, _⟩
         rw [HFF.out.1.same HFS.out.ws.cyc] at hs
         obtain ⟨hc4, hap4⟩ := SM.beside HS12.out HAP12.out HC12.out hfr hh
         have HC13 := Lib.hid hs
         have HS13 := Lib.hid hc4
         have B13 := Lib.hid (B12.out.trans (hfr.below B12.out.size HD12.out))
         clear hs hfr hh hc4 hap4 k0 k1 lk HK12 HS12 HC12 B12 HAP12 HD12
         go_wp2_with fail
         refine (same_eq _ _ t cb N X Y (flO O a b c d) _ _ rfl HPL2.out W13 HS13.out.st HC13.out.st).mono ?_
         rintro e W14 ⟨rfl, hb⟩
         have HS14 := Lib.hid (HS13.out.of hb)
         have B14 := Lib.hid (B13.out.trans (hb.mono B13.out.size))
         clear hb HS13 HC13 B13
         go_wp2_with fail
         go_roundg (m - (i + 1))
         case measure => omega
         case rel => exact ⟨i + 1, by norm_cast, by omega, Nat.le_refl _, Lib.hid ⟨D2, _, HS14.out, HFF.out.2.1, HD4.out⟩, B14⟩
     ·go_wp2_with fail
      refine (awake_is _).mono ?_
      rintro e V2 ⟨rfl, hb⟩
      have hb2 := HB.out.trans (hb.mono HB.out.size)
      clear hb HB
      go_wp2
      go_ret
      exact ⟨rfl, hb2⟩
end Go.Proofs.Ytdlpfiiakmhnlaa

namespace Go.Proofs.Ytdlpfiiakmhnlaa
open Go.ChangeShapes Go.WideShapes Go.ChangeAt Go.RowKit

theorem blk_add (a : Addr) (n : Nat) : (a.add n).block = a.block := by unfold Addr.add; split <;> rfl
section
variable {H : Type} {enc : TypeId × Value → H} {w : World} {base : Nat} {held : Bool}
set_option maxRecDepth 100000 in
theorem open_pts {r : Reach} {b0 : Nat} {v : Value} {d : DataW H} {p : List MemPlace} (hv : Value.okWide Try.prog w r b0 22 v) (h : DataW.Trod enc Try.prog w base (fun _ => true) held 22 v d p) :
    ∃ ao n cap X Y, v = .slice ao n cap ∧ Pts w ao n cap X Y := by
  obtain ⟨ao, n, cap, rfl⟩ := okWide_slice Try.underlying22 hv
  obtain ⟨fuel, hf⟩ := h
  have hC : Try.prog.cellsOf 41 = 2 := by kernel_rfl
  have hC1 : Try.prog.cellsOf 3 = 1 := by kernel_rfl
  rcases Go.Deep.open_slice_pairs Try.underlying22 Try.underlying41 hC rfl rfl hC1 hC1 hf with ⟨hc, hx⟩ | ⟨a, len, c2, m, k, V0, V1, D0, D1, P0, P1, hc, _, hl, hm, hmm, hx, hall⟩
  · obtain ⟨rfl, rfl, rfl⟩ : ao = none ∧ n = 0 ∧ cap = 0 := by simpa [Value.cells] using hc
    exact ⟨none, 0, 0, fun _ => 0, fun _ => 0, rfl, fun h => absurd h (by omega), Nat.le_refl _, by omega⟩
  · obtain ⟨rfl, rfl, rfl⟩ : ao = some a ∧ n = len ∧ cap = c2 := by simpa [Value.cells] using hc
    have hmc : m = cap := by rw [hmm]; rfl
    have key : ∀ i, i < n → ∃ y : Int × Int, V0 i = .int .i64 y.1 ∧ V1 i = .int .i64 y.2 := by
      intro i hi
      obtain ⟨_, _, t0, t1⟩ := hall i (by omega)
      obtain ⟨a0, e0, _, g0⟩ := DataW.trod_int Try.underlying3 t0
      obtain ⟨a1, e1, _, g1⟩ := DataW.trod_int Try.underlying3 t1
      exact ⟨(a0, a1), by simpa using e0, by simpa using e1⟩
    refine ⟨some a, n, cap, fun i => if h : i < n then (key i h).choose.1 else 0, fun i => if h : i < n then (key i h).choose.2 else 0, rfl, fun h0 => ⟨a, rfl, ?_, fun i hi => ?_⟩, hl, hm⟩
    · have := (hall 0 (by omega)).1
      have := World.block_lt_of_cell? _ _ this
      rwa [blk_add] at this
    · have e0 := (hall i (by omega)).1
      have e1 := (hall i (by omega)).2.1
      rw [(key i hi).choose_spec.1] at e0
      rw [(key i hi).choose_spec.2] at e1
      simp only [dif_pos hi]
      exact ⟨e0, by rw [Go.Deep.add_add]; exact e1⟩
end
end Go.Proofs.Ytdlpfiiakmhnlaa

namespace Go.Proofs.Ytdlpfiiakmhnlaa
open Go.ChangeShapes Go.WideShapes Go.ChangeAt Go.RowKit

section
variable {H : Type} {enc : TypeId × Value → H} {w : World} {base : Nat} {held : Bool}
set_option maxRecDepth 100000 in
theorem open_flips {r : Reach} {b0 : Nat} {v : Value} {d : DataW H} {p : List MemPlace} (hv : Value.okWide Try.prog w r b0 75 v) (h : DataW.Trod enc Try.prog w base (fun _ => true) held 75 v d p) :
    ∃ ao n cap X Y, v = .slice ao n cap ∧ Pts w ao n cap X Y := by
  obtain ⟨ao, n, cap, rfl⟩ := okWide_slice Try.underlying75 hv
  obtain ⟨fuel, hf⟩ := h
  have hC : Try.prog.cellsOf 76 = 2 := by kernel_rfl
  have hC1 : Try.prog.cellsOf 3 = 1 := by kernel_rfl
  have ht : Try.prog.underlying 76 = some (.array 2 3) := by kernel_rfl
  rcases Go.Deep.open_slice Try.underlying75 hf with ⟨hc, hx⟩ | ⟨a, len, c2, m, k, D, Pl, hc, hb, hl, hm, hmm, hxx, hall⟩
  · obtain ⟨rfl, rfl, rfl⟩ : ao = none ∧ n = 0 ∧ cap = 0 := by simpa [Value.cells] using hc
    exact ⟨none, 0, 0, fun _ => 0, fun _ => 0, rfl, fun h => absurd h (by omega), Nat.le_refl _, by omega⟩
  · obtain ⟨rfl, rfl, rfl⟩ : ao = some a ∧ n = len ∧ cap = c2 := by simpa [Value.cells] using hc
    have hmc : m = cap := by rw [hmm]; rfl
    have key : ∀ i, i < n → ∃ y : Int × Int, w.cell? (a.add (i * 2)) = some (.int .i64 y.1) ∧ w.cell? ((a.add (i * 2)).add 1) = some (.int .i64 y.2) := by
      intro i hi
      obtain ⟨cs', h1, h2⟩ := hall i (by omega)
      rw [hC] at h1
      obtain ⟨_, hlen, hcell⟩ := World.cells?_some h1
      obtain ⟨zs, k2, _, hx2, _, hlen2, hg⟩ := DataW.trod_array ht h2
      match zs, hlen2, cs', hlen with
      | [z0, z1], _, [v0, v1], _ =>
        have m0 := hg 0 (by omega)
        have m1 := hg 1 (by omega)
        simp [hC1] at m0 m1
        have e0 := hcell 0 (by omega)
        have e1 := hcell 1 (by omega)
        simp at e0 e1
        obtain ⟨a1, q1, _, _⟩ := DataW.trod_int Try.underlying3 m0
        obtain ⟨a2, q2, _, _⟩ := DataW.trod_int Try.underlying3 m1
        simp at q1 q2
        subst q1 q2
        have ez : ∀ x : Addr, x.add 0 = x := fun x => by unfold Addr.add; simp
        exact ⟨(a1, a2), by simpa [hC, ez] using e0, by simpa [hC] using e1⟩
    refine ⟨some a, n, cap, fun i => if h : i < n then (key i h).choose.1 else 0, fun i => if h : i < n then (key i h).choose.2 else 0, rfl, fun h0 => ⟨a, rfl, ?_, fun i hi => ?_⟩, by omega, by unfold maxLen at hm; omega⟩
    · have := (key 0 h0).choose_spec.1
      have := World.block_lt_of_cell? _ _ this
      rwa [blk_add] at this
    · simp only [dif_pos hi]
      exact (key i hi).choose_spec
end
end Go.Proofs.Ytdlpfiiakmhnlaa

namespace Go.Proofs.Ytdlpfiiakmhnlaa
open Go.ChangeShapes Go.WideShapes Go.ChangeAt Go.RowKit

set_option maxRecDepth 100000 in
set_option maxHeartbeats 1000000 in
theorem triFlips_lifted (os : Os) (started : os.Started) (H : Type) (enc : TypeId × Value → H) :
    ReturnsInHanded {} Try.checked os 9 .any (Rows.triFlipsSpec.pre6 enc Try.prog Try.f9 Rows.triFlipsRow.domain false) (Rows.triFlipsSpec.post enc Try.prog Try.f9 false true false false) := by
  refine returnsInHanded_of_change (C := Try.checked) own started (by kernel_rfl) Try.func9
    (ChangeSpec.witness6 (enc := enc) (C := Try.checked) false ⟨#[], #[.slice none 0 0, .slice none 0 0], []⟩ 8 (by kernel_rfl) (by kernel_rfl) (by kernel_rfl) (by kernel_rfl)) ?_
  intro W base args ds gs before hval0 hW hcnd _
  have hval : ∀ (j : Nat) t v, Try.f9.params[j]? = some t → args[j]? = some v → Value.okWide Try.prog W .any base t v := hval0
  have hW' := hW
  obtain ⟨p, q, hA0, hV, rfl, hfz, hnd⟩ := hW
  have hA : DataW.TrodAll enc Try.prog W 0 (fun _ => true) true Try.f9.params.toList args.toList ds p := hA0
  rw [Try.params9] at hA hval
  obtain ⟨v0, vs0, d0, ds0, p0, q0, hargs, rfl, rfl, h0, r0⟩ := trodAll_cons hA
  obtain ⟨v1, vs1, d1, ds1, p1, q1, rfl, rfl, rfl, h1, r1⟩ := trodAll_cons r0
  obtain ⟨rfl, rfl, rfl⟩ := trodAll_nil r1
  obtain rfl : args = #[v0, v1] := by cases args; simp_all
  obtain ⟨rfl, rfl⟩ := trodVars_none hV
  have k0 := h0
  have lt0 : ∀ x ∈ p0, x.block < W.heap.size := by obtain ⟨m, hm⟩ := k0; exact DataW.trod_lt m _ _ _ hm
  obtain ⟨ao0, n0, cap0, X0, Y0, rfl, io0⟩ := open_pts (hval 0 22 v0 rfl rfl) h0
  have k1 := h1
  have lt1 : ∀ x ∈ p1, x.block < W.heap.size := by obtain ⟨m, hm⟩ := k1; exact DataW.trod_lt m _ _ _ hm
  obtain ⟨ao1, n1, cap1, X1, Y1, rfl, io1⟩ := open_flips (hval 1 75 v1 rfl rfl) h1
  clear hA0 hval0
  refine (TriFlips_any ao0 n0 cap0 X0 Y0 ao1 n1 cap1 X1 Y1 W io0 io1).mono fun e W' ⟨he, bel⟩ => ?_
  subst he
  exact ⟨_, rfl, _, _, _, [], _, [], hW', trodAll_mk1 (shut_bool Try.underlying4 _), (trodAll_cons_mk (Below.trod laidOut (by kernel_rfl) (of_decide_eq_true (by kernel_rfl)) k0 bel lt0) (trodAll_cons_mk (Below.trod laidOut (by kernel_rfl) (of_decide_eq_true (by kernel_rfl)) k1 bel lt1) trodAll_mk0)), rfl, bel.frame _, fun h => by cases h⟩

theorem triFlips_holds : Rows.TriFlipsSaid :=
  OpenClaim.holds_of_wide 9 Try.f9 rfl rfl rfl rfl rfl rfl rfl ⟨rfl, rfl, rfl, rfl, rfl⟩ rfl rfl rfl rfl rfl (by kernel_rfl) Try.func9 (by kernel_rfl)
    (of_decide_eq_true (by kernel_rfl)) (by unfold Func.isWrapper; rw [if_neg (by decide +kernel)]; exact ⟨rfl, rfl⟩)
    (fun os started H enc _ => triFlips_lifted os started H enc)
#print axioms triFlips_holds
end Go.Proofs.Ytdlpfiiakmhnlaa

