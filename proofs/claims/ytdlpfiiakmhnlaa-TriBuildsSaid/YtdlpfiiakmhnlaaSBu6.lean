/- My texts TrBc, TrBd, TrBf, AvRB, TrBg, TrBj, TrBu, TrBz, TrCg, TrCe, TrCf, TrDf, joined: what the last one needs of them. Conditions: as each lemma says. -/
import Derived.Test.YtdlpfiiakmhnlaaSBu5
import Derived.KernelRfl
import Derived.StillTail
import Derived.OrdersHeld
import Derived.Deep.Quiet
import Derived.Below
import Derived.WalkKit
import Derived.Test.YtdlpfiiakmhnlaaProg
import Derived.WalkSpells
import Derived.StillTactics
import Derived.Laws.Pointers
import Derived.Deep.RegionHeld3
import Derived.RowKit3
import Derived.Deep.QuietTactic
import Derived.BigQuiet
import Derived.BigRegion
import Derived.Lib.Hide
import Derived.WalkSmall
import Derived.Laws.BitsAllLaws
import Derived.IntWalk
import Derived.Deep.OwnRows
import Derived.Deep.LoopGhost
import Derived.Shelf.Bits.Mul64
import Derived.ProofKit
import Derived.OpenShut
import Derived.ShutString
import Derived.ChangeOld
import Derived.Lib.SmallJoins
import Derived.Laws.IdiomArrays
import Derived.Laws.CopyOwn
import Derived.Laws.AppendOwn
import Derived.Deep.DeepAppendRoom
import Derived.Lib.AppendZerosOnto
import Derived.Lib.Overlaps
import Derived.Deep.RegionLaw
import Derived.Shelf.RegionOpenPlain
import Derived.Deep.RegionWith
import Derived.Sort.LoopGhostIn
import Derived.RangeFuncNested
import Derived.RangeFuncBound
import Derived.RangeFuncCalls
import Derived.RangeFuncLeaves
import Derived.OwnWalk
import Derived.OwnWalkIn
import Derived.TacticsInMore
import Derived.LoopNIn
import Derived.LoopIn
import Derived.Deep.DeepFit
import Derived.Deep.DeepCutAuto
import Derived.Shelf.Abstract
import Derived.Shelf.RegionOpen
import Derived.Maps.OwnIn
import Derived.WalkMore
import Derived.Deep.SlicePairs
namespace Go.Proofs.Ytdlpfiiakmhnlaa
open Go.RowKit
attribute [local go_sem] undef

theorem Merge_n (ga oa gb ob ac bc p q : Nat) (la lb : List Nat) (w : World) (ha : Nb w.heap.size w ga oa ac la) (hb_ : Nb w.heap.size w gb ob bc lb) (hp : la.length = p) (hq : lb.length = q) (hla : p ≤ 40000) (hlb : q ≤ 40000) :
    Calls Try.prog 99 #[.slice (some ⟨ga, oa, none⟩) p ac, .slice (some ⟨gb, ob, none⟩) q bc, cmpF] w fun e w' => ∃ v, e = .returned v ∧ NL w' w.heap.size v (mrg la lb) ∧ Below w.heap.size w w' := by
  subst hp
  subst hq
  exact Merge_is ga oa gb ob ac bc la lb w ha hb_ hla hlb
theorem srcNL {w : World} {base g r k : Nat} {M : List Nat} (h : NL w base (.slice (some ⟨g, 0, none⟩) r k) M) (j : Nat) (u : Value) (hj : (nI M)[j]? = some u) : w.cell? ((⟨g, 0, none⟩ : Addr).add j) = some u := by
  have hjl : j < M.length := by rw [← nI_len]; exact (List.getElem?_eq_some_iff.1 hj).1
  obtain ⟨ao, cap, e, _, _, h3⟩ := h.val
  injection e with e1 _ _
  obtain ⟨g', e4, _, _, hcell⟩ := h3 (by omega)
  rw [← e1] at e4
  injection e4 with e4
  injection e4 with e4 _ _
  subst e4
  have e2 : (⟨g, 0, none⟩ : Addr).add j = ⟨g, j, none⟩ := by unfold Addr.add; split <;> simp_all
  rw [e2]
  unfold nI at hj
  rw [List.getElem?_map, Option.map_eq_some_iff] at hj
  obtain ⟨x, hx, rfl⟩ := hj
  exact hcell j x hx
theorem Merge_v (ga oa gb ob ac bc p q r : Nat) (la lb : List Nat) (w w0 : World) (ha : Nb w0.heap.size w0 ga oa ac la) (hb_ : Nb w0.heap.size w0 gb ob bc lb) (hw : Below w0.heap.size w0 w) (hs : w.heap.size = w0.heap.size) (hp : la.length = p) (hq : lb.length = q) (hr : p + q = r) (h0 : 0 < r) (hla : p ≤ 40000) (hlb : q ≤ 40000) :
    Calls Try.prog 99 #[.slice (some ⟨ga, oa, none⟩) p ac, .slice (some ⟨gb, ob, none⟩) q bc, cmpF] w fun e w' => ∃ g3 k3, e = .returned (.slice (some ⟨g3, 0, none⟩) r k3) ∧ NL w' w0.heap.size (.slice (some ⟨g3, 0, none⟩) r k3) (mrg la lb) ∧ Below w.heap.size w w' := by
  refine (Merge_n ga oa gb ob ac bc p q la lb w (by rw [hs]; exact ha.of hw) (by rw [hs]; exact hb_.of hw) hp hq hla hlb).mono ?_
  rintro e w' ⟨v, rfl, h1, h2⟩
  have hl : (mrg la lb).length = r := by rw [mrg_len _ _ _ (Nat.le_refl _), hp, hq, hr]
  obtain ⟨ao, cap, e, _, _, h3⟩ := h1.val
  rw [hl] at h3 e
  obtain ⟨g3, hg, _⟩ := h3 h0
  subst hg
  subst e
  rw [hs] at h1
  exact ⟨g3, cap, rfl, h1, h2⟩
theorem CloneI_n (ao : Option Addr) (cap n : Nat) (L : List Nat) (w : World) (h : Ns w ao cap L) (hn : L.length = n) (hn2 : n ≤ 1000000) :
    Calls Try.prog 98 #[.slice ao n cap] w fun e w' => ∃ v, e = .returned v ∧ NL w' w.heap.size v L ∧ Below w.heap.size w w' := by
  subst hn
  exact CloneI_is ao cap L w h hn2
theorem cut_nb {B : Nat} {w : World} {base g cc n : Nat} {R : List Nat} (h : NL w base (.slice (some ⟨g, 0, none⟩) n cc) R) (hB : g < B) {a b o : Nat} (hab : a ≤ b) (hb : b ≤ R.length) (ho : o = a ∨ a = b) : Nb B w g o (cc - a) (cut R a b) := by
  obtain ⟨ao, cap, e, h1, h2, h3⟩ := h.val
  injection e with e1 e2 e3
  subst e3
  have hlt : g < w.heap.size := (h.own rfl).2
  refine ⟨hlt, hB, fun j x hx => ?_, by rw [cut_len hb]; omega, by omega⟩
  have hc := cut_at hx
  have hlen : (cut R a b).length = b - a := cut_len hb
  have hj : j < (cut R a b).length := (List.getElem?_eq_some_iff.1 hx).1
  obtain ⟨g', e4, _, _, hcell⟩ := h3 (by omega)
  rw [← e1] at e4
  injection e4 with e4
  injection e4 with e4 _ _
  subst e4
  rcases ho with rfl | rfl
  · exact hcell _ x hc
  · omega
set_option maxRecDepth 100000 in
set_option maxHeartbeats 8000000 in
theorem Sort_is (ao : Option Addr) (cap : Nat) (L : List Nat) (w : World) (h : Ns w ao cap L) (hn : L.length ≤ 40000) :
    Calls Try.prog 88 #[.slice ao L.length cap, cmpF] w fun e w' => ∃ v R, e = .returned v ∧ NL w' w.heap.size v R ∧ Asc R ∧ (∀ z, z ∈ R ↔ z ∈ L) ∧ R.length = L.length ∧ Below w.heap.size w w' := by
  have HP := Lib.hid h
  obtain ⟨i0, hi, hz0, hz1, hz2⟩ := info_parts info_int
  obtain ⟨n, hnn⟩ : ∃ n, L.length = n := ⟨_, rfl⟩
  have HN := Lib.hid hnn
  rw [hnn] at hn ⊢
  clear h hnn
  go_enter Try.func88, Try.ntmps88
  go_wp2_with fail
  refine (CloneI_n ao cap n L w HP.out HN.out (by omega)).mono ?_
  rintro e V ⟨v, rfl, nl, hb⟩
  obtain ⟨co, cc, e, _⟩ := nl.val
  rw [HN.out] at e
  subst e
  have NV := Lib.hid nl
  have BV := Lib.hid hb
  clear nl hb
  go_wp2_with fail
  go_loopg [5, 6] n (fun gk s5 s6 wr => ∃ (s : Nat) (co : Option Addr) (cc : Nat) (R : List Nat), s5 = .slice co n cc ∧ s6 = .int .i64 (s : Nat) ∧ 1 ≤ s ∧ s ≤ 80000 ∧ n - s ≤ gk ∧ Hid (R.length = n ∧ Pcs s R ∧ ∀ z, z ∈ R ↔ z ∈ L) ∧ Hid (NL wr w.heap.size (.slice co n cc) R) ∧ Hid (Below w.heap.size w wr))
  case atStart => exact ⟨1, co, cc, L, rfl, rfl, by omega, by omega, by omega, Lib.hid ⟨HN.out, pcs_one L, fun z => Iff.rfl⟩, NV, BV⟩
  case round =>
    clear NV BV
    obtain ⟨s, co, cc, R, rfl, rfl, hs1, hs2, hgk, HR, NR, HW⟩ := hrel
    by_cases hlt : s < n
    · obtain ⟨co', cc', e, hcc, hcb, hptr⟩ := NR.out.val
      obtain ⟨g, hg, hgB, hgl, _⟩ := hptr (by rw [HR.out.1]; omega)
      injection e with e1 e2 e3
      subst e1
      subst e3
      subst hg
      rw [HR.out.1] at hcc
      clear hptr e2
      go_wp2_with fail
      obtain ⟨W1, hW1⟩ : ∃ W, W = wr := ⟨_, rfl⟩
      rw [← hW1] at NR HW hgl ⊢
      have hsz1 := HW.out.size
      go_loopg [7, 8] n (fun gk s7 s8 wr => ∃ (j a c : Nat) (po : Option Addr) (pc : Nat) (X : List Nat), s7 = .slice po c pc ∧ s8 = .int .i64 (a : Nat) ∧ a < n + 2 * s ∧ c = min a n ∧ n - a ≤ gk ∧ Hid (a = j * (2 * s)) ∧ Hid (X.length = c ∧ Pcs (2 * s) X ∧ ∀ z, z ∈ X ↔ z ∈ R.take c) ∧ Hid (NL wr W1.heap.size (.slice po c pc) X) ∧ Hid (Below W1.heap.size W1 wr))
      case atStart => exact ⟨0, 0, 0, none, 0, [], rfl, rfl, by omega, by omega, by omega, Lib.hid (by omega), Lib.hid ⟨rfl, fun k => by simp [Asc], fun z => by simp⟩, Lib.hid NL.none, by exact Lib.hid (by first | exact Below.refl _ _ | (rw [← hW1]; exact Below.refl _ _))⟩
      case round =>
        clear hW1
        obtain ⟨j, a, c, po, pc, X, rfl, rfl, ha2, hc, hgk2, HJ, HX, NX, HWr⟩ := hrel
        by_cases hat : a < n
        · have hca : c = a := by omega
          subst hca
          have NRw := Lib.hid (NR.out.of HWr.out)
          have hca2 : ¬ cc = c := by omega
          clear hc
          rcases Nat.lt_or_ge n (c + s) with g1 | g1
          · rcases Nat.lt_or_ge n cc with g3 | g3
            · have k1 : ¬ ((c : Int) + (s : Int) ≤ (n : Int)) := by omega
              have k2 : ¬ ((c : Int) + 2 * (s : Int) ≤ (n : Int)) := by omega
              have k3 : ¬ cc = n := by omega
              go_wp2_with fail
              have hgw : g < wr.heap.size := (NRw.out.own rfl).2
              have hRl := HR.out.1
              have NA := Lib.hid (cut_nb NRw.out hgw (a := c) (b := n) (o := c) (by omega) (by rw [hRl]; omega) (.inl rfl))
              have NB : Hid (Nb wr.heap.size wr g n (cc - n) (cut R n n)) := by
                have := cut_nb NRw.out hgw (a := n) (b := n) (o := n) (by omega) (by rw [hRl]; omega) (.inl rfl)
                first | exact Lib.hid this | (rw [Nat.sub_self] at this; exact Lib.hid this)
              have hla : (cut R c n).length = n - c := cut_len (by rw [hRl]; omega)
              have hlb : (cut R n n).length = 0 := (cut_len (by rw [hRl]; omega)).trans (by omega)
              have hr : (n - c) + 0 = n - c := by omega
              have HLA := Lib.hid (And.intro hla (And.intro hlb hr))
              clear hla hlb hr hRl
              
              refine wp_region_up wr.heap.size 11 [(true, 0), (true, 1), (true, 2), (true, 3), (true, 4), (true, 5), (true, 6), (true, 7), (true, 8), (true, 9), (false, 10)] (by kernel_rfl) (by kernel_rfl) (fun _ _ d _ _ h => by cases d <;> exact h) ?_
              have hb : Below wr.heap.size wr wr.drew := (Below.refl _ _).drew
              iterate 10
                refine wpS_takeL rfl rfl ?_
                go_big_quiet_step (rfl)
                refine wpQuiet_nil ?_
              refine wpS_doL rfl ?_
              intro K hK
              go_wp2_with ((go_at_call 99; go_loud (refine (Merge_v g c g n (cc - c) (cc - n) (n - c) 0 (n - c) _ _ _ wr NA.out NB.out hb rfl HLA.out.1 HLA.out.2.1 HLA.out.2.2 (by omega) (by omega) (by omega)).mono ?_); rintro e w2 ⟨g3, k3_, rfl, nlM, hn⟩))
              replace hb := hb.trans (hn.mono hb.size)
              refine hK.out _ _ (up_iff.2 hb) ?_
              clear hK K
              clear hn
              refine wpS_nil ?_
              simp only [List.drop_succ_cons, List.drop_zero]
              have NX2 := Lib.hid (NX.out.of hb)
              have NM := Lib.hid nlM
              have HW2 := Lib.hid (HWr.out.trans (hb.mono HWr.out.size))
              have hs2 := HW2.out.size
              have hPP := pass_one hs1 HR.out.1 HR.out.2.1 HJ.out hat (mid := n) (en := n) (by omega) (by omega) HX.out.1 HX.out.2.1 HX.out.2.2
              have PP := Lib.hid hPP
              have hlM : (nI (mrg (cut R c n) (cut R n n))).length = (n - c) * 1 := by have h1 := nI_len (mrg (cut R c n) (cut R n n)); have h2 := PP.out.1; omega
              have hX1 := HX.out.1
              have hb1 : X.length + (n - c) ≤ maxLen := by unfold maxLen; omega
              have hb2 : (X.length + (n - c)) * 8 ≤ 140737488355328 := by omega
              clear hPP nlM hb NA NB HLA NX HWr hgw
              go_wp2_with (at_builtin; go_loud (refine wpList_append_lies _ rfl _ _ 29 rfl W1.heap.size 3 i0 (.int .i64 0) 1 8 Try.underlying29 hi hz0 hz1 hz2 rfl (by decide) (.slice po c pc) X.length (nI X) rfl NX2.out ⟨g3, 0, none⟩ (n - c) k3_ (nI (mrg (cut R c n) (cut R n n))) rfl hlM (srcNL NM.out) (nI_one _) hb1 hb2 hs2 ?_))
              intro v3 w3 own3 gr3 _
              have NX3 : NL w3 W1.heap.size v3 (X ++ mrg (cut R c n) (cut R n n)) := by
                unfold NL
                rw [List.length_append, List.map_append, PP.out.1, HX.out.1]; exact own3
              obtain ⟨po3, pc3, e3, _⟩ := NX3.val
              have hl3 : (X ++ mrg (cut R c n) (cut R n n)).length = n := by rw [List.length_append, PP.out.1, HX.out.1]; exact Nat.add_sub_of_le (by omega)
              rw [hl3] at e3
              subst e3
              have NX4 := Lib.hid NX3
              have hW3 : Below W1.heap.size w2 w3 := ⟨gr3.os, gr3.tape, gr3.output, gr3.size, fun g hg => gr3.block g (by omega) (fun e => by have := (NX2.out.own e.symm).1; omega)⟩
              have HW3 := Lib.hid (HW2.out.trans hW3)
              have HX3 := Lib.hid (And.intro hl3 PP.out.2)
              have HJ3 : Hid (c + 2 * s = (j + 1) * (2 * s)) := by rw [Nat.add_mul, Nat.one_mul, ← HJ.out]; exact Lib.hid rfl
              clear own3 gr3 NX3 hl3 hW3 NX2 HW2 PP NM hX1 hb1 hb2 hlM NRw
              go_wp2_with fail
              go_roundg (n - (c + 2 * s))
              case measure => omega
              case rel => exact ⟨j + 1, c + 2 * s, n, po3, pc3, _, rfl, by first | rfl | (rw [← hea]; rfl) | (norm_cast; done) | (congr 1; omega), by omega, by omega, Nat.le_refl _, HJ3, HX3, NX4, HW3⟩
            · have g4 : n = cc := by omega
              subst g4
              have k1 : ¬ ((c : Int) + (s : Int) ≤ (n : Int)) := by omega
              have k2 : ¬ ((c : Int) + 2 * (s : Int) ≤ (n : Int)) := by omega
              go_wp2_with fail
              have hgw : g < wr.heap.size := (NRw.out.own rfl).2
              have hRl := HR.out.1
              have NA := Lib.hid (cut_nb NRw.out hgw (a := c) (b := n) (o := c) (by omega) (by rw [hRl]; omega) (.inl rfl))
              have NB : Hid (Nb wr.heap.size wr g 0 0 (cut R n n)) := by
                have := cut_nb NRw.out hgw (a := n) (b := n) (o := 0) (by omega) (by rw [hRl]; omega) (.inr rfl)
                first | exact Lib.hid this | (rw [Nat.sub_self] at this; exact Lib.hid this)
              have hla : (cut R c n).length = n - c := cut_len (by rw [hRl]; omega)
              have hlb : (cut R n n).length = 0 := (cut_len (by rw [hRl]; omega)).trans (by omega)
              have hr : (n - c) + 0 = n - c := by omega
              have HLA := Lib.hid (And.intro hla (And.intro hlb hr))
              clear hla hlb hr hRl
              
              refine wp_region_up wr.heap.size 11 [(true, 0), (true, 1), (true, 2), (true, 3), (true, 4), (true, 5), (true, 6), (true, 7), (true, 8), (true, 9), (false, 10)] (by kernel_rfl) (by kernel_rfl) (fun _ _ d _ _ h => by cases d <;> exact h) ?_
              have hb : Below wr.heap.size wr wr.drew := (Below.refl _ _).drew
              iterate 10
                refine wpS_takeL rfl rfl ?_
                go_big_quiet_step (rfl)
                refine wpQuiet_nil ?_
              refine wpS_doL rfl ?_
              intro K hK
              go_wp2_with ((go_at_call 99; go_loud (refine (Merge_v g c g 0 (n - c) 0 (n - c) 0 (n - c) _ _ _ wr NA.out NB.out hb rfl HLA.out.1 HLA.out.2.1 HLA.out.2.2 (by omega) (by omega) (by omega)).mono ?_); rintro e w2 ⟨g3, k3_, rfl, nlM, hn⟩))
              replace hb := hb.trans (hn.mono hb.size)
              refine hK.out _ _ (up_iff.2 hb) ?_
              clear hK K
              clear hn
              refine wpS_nil ?_
              simp only [List.drop_succ_cons, List.drop_zero]
              have NX2 := Lib.hid (NX.out.of hb)
              have NM := Lib.hid nlM
              have HW2 := Lib.hid (HWr.out.trans (hb.mono HWr.out.size))
              have hs2 := HW2.out.size
              have hPP := pass_one hs1 HR.out.1 HR.out.2.1 HJ.out hat (mid := n) (en := n) (by omega) (by omega) HX.out.1 HX.out.2.1 HX.out.2.2
              have PP := Lib.hid hPP
              have hlM : (nI (mrg (cut R c n) (cut R n n))).length = (n - c) * 1 := by have h1 := nI_len (mrg (cut R c n) (cut R n n)); have h2 := PP.out.1; omega
              have hX1 := HX.out.1
              have hb1 : X.length + (n - c) ≤ maxLen := by unfold maxLen; omega
              have hb2 : (X.length + (n - c)) * 8 ≤ 140737488355328 := by omega
              clear hPP nlM hb NA NB HLA NX HWr hgw
              go_wp2_with (at_builtin; go_loud (refine wpList_append_lies _ rfl _ _ 29 rfl W1.heap.size 3 i0 (.int .i64 0) 1 8 Try.underlying29 hi hz0 hz1 hz2 rfl (by decide) (.slice po c pc) X.length (nI X) rfl NX2.out ⟨g3, 0, none⟩ (n - c) k3_ (nI (mrg (cut R c n) (cut R n n))) rfl hlM (srcNL NM.out) (nI_one _) hb1 hb2 hs2 ?_))
              intro v3 w3 own3 gr3 _
              have NX3 : NL w3 W1.heap.size v3 (X ++ mrg (cut R c n) (cut R n n)) := by
                unfold NL
                rw [List.length_append, List.map_append, PP.out.1, HX.out.1]; exact own3
              obtain ⟨po3, pc3, e3, _⟩ := NX3.val
              have hl3 : (X ++ mrg (cut R c n) (cut R n n)).length = n := by rw [List.length_append, PP.out.1, HX.out.1]; exact Nat.add_sub_of_le (by omega)
              rw [hl3] at e3
              subst e3
              have NX4 := Lib.hid NX3
              have hW3 : Below W1.heap.size w2 w3 := ⟨gr3.os, gr3.tape, gr3.output, gr3.size, fun g hg => gr3.block g (by omega) (fun e => by have := (NX2.out.own e.symm).1; omega)⟩
              have HW3 := Lib.hid (HW2.out.trans hW3)
              have HX3 := Lib.hid (And.intro hl3 PP.out.2)
              have HJ3 : Hid (c + 2 * s = (j + 1) * (2 * s)) := by rw [Nat.add_mul, Nat.one_mul, ← HJ.out]; exact Lib.hid rfl
              clear own3 gr3 NX3 hl3 hW3 NX2 HW2 PP NM hX1 hb1 hb2 hlM NRw
              go_wp2_with fail
              go_roundg (n - (c + 2 * s))
              case measure => omega
              case rel => exact ⟨j + 1, c + 2 * s, n, po3, pc3, _, rfl, by first | rfl | (rw [← hea]; rfl) | (norm_cast; done) | (congr 1; omega), by omega, by omega, Nat.le_refl _, HJ3, HX3, NX4, HW3⟩
          · rcases Nat.lt_or_ge n (c + 2 * s) with g2 | g2
            · rcases (show (n < cc ∨ c + s < n) ∨ (n = cc ∧ c + s = n) by omega) with g3 | g3
              · obtain ⟨mid, hmid⟩ : ∃ m, c + s = m := ⟨_, rfl⟩
                have hma : (c : Int) + (s : Int) = (mid : Int) := by omega
                have k0 : (mid : Int) ≤ (n : Int) := by omega
                have k1 : (c : Int) + (s : Int) ≤ (n : Int) := by omega
                have k2 : ¬ ((c : Int) + 2 * (s : Int) ≤ (n : Int)) := by omega
                have k3 : ¬ cc = mid := by omega
                go_wp2_with fail
                have hgw : g < wr.heap.size := (NRw.out.own rfl).2
                have hRl := HR.out.1
                have NA := Lib.hid (cut_nb NRw.out hgw (a := c) (b := mid) (o := c) (by omega) (by rw [hRl]; omega) (.inl rfl))
                have NB : Hid (Nb wr.heap.size wr g mid (cc - mid) (cut R mid n)) := by
                  have := cut_nb NRw.out hgw (a := mid) (b := n) (o := mid) (by omega) (by rw [hRl]; omega) (.inl rfl)
                  first | exact Lib.hid this | (rw [Nat.sub_self] at this; exact Lib.hid this)
                have hla : (cut R c mid).length = mid - c := cut_len (by rw [hRl]; omega)
                have hlb : (cut R mid n).length = (n - mid) := (cut_len (by rw [hRl]; omega)).trans (by omega)
                have hr : (mid - c) + (n - mid) = n - c := by omega
                have HLA := Lib.hid (And.intro hla (And.intro hlb hr))
                clear hla hlb hr hRl
                
                refine wp_region_up wr.heap.size 11 [(true, 0), (true, 1), (true, 2), (true, 3), (true, 4), (true, 5), (true, 6), (true, 7), (true, 8), (true, 9), (false, 10)] (by kernel_rfl) (by kernel_rfl) (fun _ _ d _ _ h => by cases d <;> exact h) ?_
                have hb : Below wr.heap.size wr wr.drew := (Below.refl _ _).drew
                iterate 10
                  refine wpS_takeL rfl rfl ?_
                  go_big_quiet_step (rfl)
                  refine wpQuiet_nil ?_
                refine wpS_doL rfl ?_
                intro K hK
                go_wp2_with ((go_at_call 99; go_loud (refine (Merge_v g c g mid (cc - c) (cc - mid) (mid - c) (n - mid) (n - c) _ _ _ wr NA.out NB.out hb rfl HLA.out.1 HLA.out.2.1 HLA.out.2.2 (by omega) (by omega) (by omega)).mono ?_); rintro e w2 ⟨g3, k3_, rfl, nlM, hn⟩))
                replace hb := hb.trans (hn.mono hb.size)
                refine hK.out _ _ (up_iff.2 hb) ?_
                clear hK K
                clear hn
                refine wpS_nil ?_
                simp only [List.drop_succ_cons, List.drop_zero]
                have NX2 := Lib.hid (NX.out.of hb)
                have NM := Lib.hid nlM
                have HW2 := Lib.hid (HWr.out.trans (hb.mono HWr.out.size))
                have hs2 := HW2.out.size
                have hPP := pass_one hs1 HR.out.1 HR.out.2.1 HJ.out hat (mid := mid) (en := n) (by omega) (by omega) HX.out.1 HX.out.2.1 HX.out.2.2
                have PP := Lib.hid hPP
                have hlM : (nI (mrg (cut R c mid) (cut R mid n))).length = (n - c) * 1 := by have h1 := nI_len (mrg (cut R c mid) (cut R mid n)); have h2 := PP.out.1; omega
                have hX1 := HX.out.1
                have hb1 : X.length + (n - c) ≤ maxLen := by unfold maxLen; omega
                have hb2 : (X.length + (n - c)) * 8 ≤ 140737488355328 := by omega
                clear hPP nlM hb NA NB HLA NX HWr hgw
                go_wp2_with (at_builtin; go_loud (refine wpList_append_lies _ rfl _ _ 29 rfl W1.heap.size 3 i0 (.int .i64 0) 1 8 Try.underlying29 hi hz0 hz1 hz2 rfl (by decide) (.slice po c pc) X.length (nI X) rfl NX2.out ⟨g3, 0, none⟩ (n - c) k3_ (nI (mrg (cut R c mid) (cut R mid n))) rfl hlM (srcNL NM.out) (nI_one _) hb1 hb2 hs2 ?_))
                intro v3 w3 own3 gr3 _
                have NX3 : NL w3 W1.heap.size v3 (X ++ mrg (cut R c mid) (cut R mid n)) := by
                  unfold NL
                  rw [List.length_append, List.map_append, PP.out.1, HX.out.1]; exact own3
                obtain ⟨po3, pc3, e3, _⟩ := NX3.val
                have hl3 : (X ++ mrg (cut R c mid) (cut R mid n)).length = n := by rw [List.length_append, PP.out.1, HX.out.1]; exact Nat.add_sub_of_le (by omega)
                rw [hl3] at e3
                subst e3
                have NX4 := Lib.hid NX3
                have hW3 : Below W1.heap.size w2 w3 := ⟨gr3.os, gr3.tape, gr3.output, gr3.size, fun g hg => gr3.block g (by omega) (fun e => by have := (NX2.out.own e.symm).1; omega)⟩
                have HW3 := Lib.hid (HW2.out.trans hW3)
                have HX3 := Lib.hid (And.intro hl3 PP.out.2)
                have HJ3 : Hid (c + 2 * s = (j + 1) * (2 * s)) := by rw [Nat.add_mul, Nat.one_mul, ← HJ.out]; exact Lib.hid rfl
                clear own3 gr3 NX3 hl3 hW3 NX2 HW2 PP NM hX1 hb1 hb2 hlM NRw
                go_wp2_with fail
                go_roundg (n - (c + 2 * s))
                case measure => omega
                case rel => exact ⟨j + 1, c + 2 * s, n, po3, pc3, _, rfl, by first | rfl | (rw [← hea]; rfl) | (norm_cast; done) | (congr 1; omega), by omega, by omega, Nat.le_refl _, HJ3, HX3, NX4, HW3⟩
              · obtain ⟨g4, g5⟩ := g3
                subst g4
                have hma : (c : Int) + (s : Int) = (n : Int) := by omega
                have k1 : (c : Int) + (s : Int) ≤ (n : Int) := by omega
                have k2 : ¬ ((c : Int) + 2 * (s : Int) ≤ (n : Int)) := by omega
                go_wp2_with fail
                have hgw : g < wr.heap.size := (NRw.out.own rfl).2
                have hRl := HR.out.1
                have NA := Lib.hid (cut_nb NRw.out hgw (a := c) (b := n) (o := c) (by omega) (by rw [hRl]; omega) (.inl rfl))
                have NB : Hid (Nb wr.heap.size wr g 0 0 (cut R n n)) := by
                  have := cut_nb NRw.out hgw (a := n) (b := n) (o := 0) (by omega) (by rw [hRl]; omega) (.inr rfl)
                  first | exact Lib.hid this | (rw [Nat.sub_self] at this; exact Lib.hid this)
                have hla : (cut R c n).length = n - c := cut_len (by rw [hRl]; omega)
                have hlb : (cut R n n).length = 0 := (cut_len (by rw [hRl]; omega)).trans (by omega)
                have hr : (n - c) + 0 = n - c := by omega
                have HLA := Lib.hid (And.intro hla (And.intro hlb hr))
                clear hla hlb hr hRl
                
                refine wp_region_up wr.heap.size 11 [(true, 0), (true, 1), (true, 2), (true, 3), (true, 4), (true, 5), (true, 6), (true, 7), (true, 8), (true, 9), (false, 10)] (by kernel_rfl) (by kernel_rfl) (fun _ _ d _ _ h => by cases d <;> exact h) ?_
                have hb : Below wr.heap.size wr wr.drew := (Below.refl _ _).drew
                iterate 10
                  refine wpS_takeL rfl rfl ?_
                  go_big_quiet_step (rfl)
                  refine wpQuiet_nil ?_
                refine wpS_doL rfl ?_
                intro K hK
                go_wp2_with ((go_at_call 99; go_loud (refine (Merge_v g c g 0 (n - c) 0 (n - c) 0 (n - c) _ _ _ wr NA.out NB.out hb rfl HLA.out.1 HLA.out.2.1 HLA.out.2.2 (by omega) (by omega) (by omega)).mono ?_); rintro e w2 ⟨g3, k3_, rfl, nlM, hn⟩))
                replace hb := hb.trans (hn.mono hb.size)
                refine hK.out _ _ (up_iff.2 hb) ?_
                clear hK K
                clear hn
                refine wpS_nil ?_
                simp only [List.drop_succ_cons, List.drop_zero]
                have NX2 := Lib.hid (NX.out.of hb)
                have NM := Lib.hid nlM
                have HW2 := Lib.hid (HWr.out.trans (hb.mono HWr.out.size))
                have hs2 := HW2.out.size
                have hPP := pass_one hs1 HR.out.1 HR.out.2.1 HJ.out hat (mid := n) (en := n) (by omega) (by omega) HX.out.1 HX.out.2.1 HX.out.2.2
                have PP := Lib.hid hPP
                have hlM : (nI (mrg (cut R c n) (cut R n n))).length = (n - c) * 1 := by have h1 := nI_len (mrg (cut R c n) (cut R n n)); have h2 := PP.out.1; omega
                have hX1 := HX.out.1
                have hb1 : X.length + (n - c) ≤ maxLen := by unfold maxLen; omega
                have hb2 : (X.length + (n - c)) * 8 ≤ 140737488355328 := by omega
                clear hPP nlM hb NA NB HLA NX HWr hgw
                go_wp2_with (at_builtin; go_loud (refine wpList_append_lies _ rfl _ _ 29 rfl W1.heap.size 3 i0 (.int .i64 0) 1 8 Try.underlying29 hi hz0 hz1 hz2 rfl (by decide) (.slice po c pc) X.length (nI X) rfl NX2.out ⟨g3, 0, none⟩ (n - c) k3_ (nI (mrg (cut R c n) (cut R n n))) rfl hlM (srcNL NM.out) (nI_one _) hb1 hb2 hs2 ?_))
                intro v3 w3 own3 gr3 _
                have NX3 : NL w3 W1.heap.size v3 (X ++ mrg (cut R c n) (cut R n n)) := by
                  unfold NL
                  rw [List.length_append, List.map_append, PP.out.1, HX.out.1]; exact own3
                obtain ⟨po3, pc3, e3, _⟩ := NX3.val
                have hl3 : (X ++ mrg (cut R c n) (cut R n n)).length = n := by rw [List.length_append, PP.out.1, HX.out.1]; exact Nat.add_sub_of_le (by omega)
                rw [hl3] at e3
                subst e3
                have NX4 := Lib.hid NX3
                have hW3 : Below W1.heap.size w2 w3 := ⟨gr3.os, gr3.tape, gr3.output, gr3.size, fun g hg => gr3.block g (by omega) (fun e => by have := (NX2.out.own e.symm).1; omega)⟩
                have HW3 := Lib.hid (HW2.out.trans hW3)
                have HX3 := Lib.hid (And.intro hl3 PP.out.2)
                have HJ3 : Hid (c + 2 * s = (j + 1) * (2 * s)) := by rw [Nat.add_mul, Nat.one_mul, ← HJ.out]; exact Lib.hid rfl
                clear own3 gr3 NX3 hl3 hW3 NX2 HW2 PP NM hX1 hb1 hb2 hlM NRw
                go_wp2_with fail
                go_roundg (n - (c + 2 * s))
                case measure => omega
                case rel => exact ⟨j + 1, c + 2 * s, n, po3, pc3, _, rfl, by first | rfl | (rw [← hea]; rfl) | (norm_cast; done) | (congr 1; omega), by omega, by omega, Nat.le_refl _, HJ3, HX3, NX4, HW3⟩
            · obtain ⟨mid, hmid⟩ : ∃ m, c + s = m := ⟨_, rfl⟩
              have hma : (c : Int) + (s : Int) = (mid : Int) := by omega
              have k0 : (mid : Int) ≤ (n : Int) := by omega
              obtain ⟨en, hen⟩ : ∃ m, c + 2 * s = m := ⟨_, rfl⟩
              have hea : (c : Int) + 2 * (s : Int) = (en : Int) := by omega
              have k1 : (c : Int) + (s : Int) ≤ (n : Int) := by omega
              have k2 : (c : Int) + 2 * (s : Int) ≤ (n : Int) := by omega
              have k4 : (en : Int) ≤ (n : Int) := by omega
              have k3 : ¬ cc = mid := by omega
              go_wp2_with fail
              have hgw : g < wr.heap.size := (NRw.out.own rfl).2
              have hRl := HR.out.1
              have NA := Lib.hid (cut_nb NRw.out hgw (a := c) (b := mid) (o := c) (by omega) (by rw [hRl]; omega) (.inl rfl))
              have NB : Hid (Nb wr.heap.size wr g mid (cc - mid) (cut R mid en)) := by
                have := cut_nb NRw.out hgw (a := mid) (b := en) (o := mid) (by omega) (by rw [hRl]; omega) (.inl rfl)
                first | exact Lib.hid this | (rw [Nat.sub_self] at this; exact Lib.hid this)
              have hla : (cut R c mid).length = mid - c := cut_len (by rw [hRl]; omega)
              have hlb : (cut R mid en).length = (en - mid) := (cut_len (by rw [hRl]; omega)).trans (by omega)
              have hr : (mid - c) + (en - mid) = en - c := by omega
              have HLA := Lib.hid (And.intro hla (And.intro hlb hr))
              clear hla hlb hr hRl
              
              refine wp_region_up wr.heap.size 11 [(true, 0), (true, 1), (true, 2), (true, 3), (true, 4), (true, 5), (true, 6), (true, 7), (true, 8), (true, 9), (false, 10)] (by kernel_rfl) (by kernel_rfl) (fun _ _ d _ _ h => by cases d <;> exact h) ?_
              have hb : Below wr.heap.size wr wr.drew := (Below.refl _ _).drew
              iterate 10
                refine wpS_takeL rfl rfl ?_
                go_big_quiet_step (rfl)
                refine wpQuiet_nil ?_
              refine wpS_doL rfl ?_
              intro K hK
              go_wp2_with ((go_at_call 99; go_loud (refine (Merge_v g c g mid (cc - c) (cc - mid) (mid - c) (en - mid) (en - c) _ _ _ wr NA.out NB.out hb rfl HLA.out.1 HLA.out.2.1 HLA.out.2.2 (by omega) (by omega) (by omega)).mono ?_); rintro e w2 ⟨g3, k3_, rfl, nlM, hn⟩))
              replace hb := hb.trans (hn.mono hb.size)
              refine hK.out _ _ (up_iff.2 hb) ?_
              clear hK K
              clear hn
              refine wpS_nil ?_
              simp only [List.drop_succ_cons, List.drop_zero]
              have NX2 := Lib.hid (NX.out.of hb)
              have NM := Lib.hid nlM
              have HW2 := Lib.hid (HWr.out.trans (hb.mono HWr.out.size))
              have hs2 := HW2.out.size
              have hPP := pass_one hs1 HR.out.1 HR.out.2.1 HJ.out hat (mid := mid) (en := en) (by omega) (by omega) HX.out.1 HX.out.2.1 HX.out.2.2
              have PP := Lib.hid hPP
              have hlM : (nI (mrg (cut R c mid) (cut R mid en))).length = (en - c) * 1 := by have h1 := nI_len (mrg (cut R c mid) (cut R mid en)); have h2 := PP.out.1; omega
              have hX1 := HX.out.1
              have hb1 : X.length + (en - c) ≤ maxLen := by unfold maxLen; omega
              have hb2 : (X.length + (en - c)) * 8 ≤ 140737488355328 := by omega
              clear hPP nlM hb NA NB HLA NX HWr hgw
              go_wp2_with (at_builtin; go_loud (refine wpList_append_lies _ rfl _ _ 29 rfl W1.heap.size 3 i0 (.int .i64 0) 1 8 Try.underlying29 hi hz0 hz1 hz2 rfl (by decide) (.slice po c pc) X.length (nI X) rfl NX2.out ⟨g3, 0, none⟩ (en - c) k3_ (nI (mrg (cut R c mid) (cut R mid en))) rfl hlM (srcNL NM.out) (nI_one _) hb1 hb2 hs2 ?_))
              intro v3 w3 own3 gr3 _
              have NX3 : NL w3 W1.heap.size v3 (X ++ mrg (cut R c mid) (cut R mid en)) := by
                unfold NL
                rw [List.length_append, List.map_append, PP.out.1, HX.out.1]; exact own3
              obtain ⟨po3, pc3, e3, _⟩ := NX3.val
              have hl3 : (X ++ mrg (cut R c mid) (cut R mid en)).length = en := by rw [List.length_append, PP.out.1, HX.out.1]; exact Nat.add_sub_of_le (by omega)
              rw [hl3] at e3
              subst e3
              have NX4 := Lib.hid NX3
              have hW3 : Below W1.heap.size w2 w3 := ⟨gr3.os, gr3.tape, gr3.output, gr3.size, fun g hg => gr3.block g (by omega) (fun e => by have := (NX2.out.own e.symm).1; omega)⟩
              have HW3 := Lib.hid (HW2.out.trans hW3)
              have HX3 := Lib.hid (And.intro hl3 PP.out.2)
              have HJ3 : Hid (c + 2 * s = (j + 1) * (2 * s)) := by rw [Nat.add_mul, Nat.one_mul, ← HJ.out]; exact Lib.hid rfl
              clear own3 gr3 NX3 hl3 hW3 NX2 HW2 PP NM hX1 hb1 hb2 hlM NRw
              go_wp2_with fail
              go_roundg (n - (c + 2 * s))
              case measure => omega
              case rel => exact ⟨j + 1, c + 2 * s, en, po3, pc3, _, rfl, by first | rfl | (rw [← hea]; rfl) | (norm_cast; done) | (congr 1; omega), by omega, by omega, Nat.le_refl _, HJ3, HX3, NX4, HW3⟩
        · have hcn : c = n := by omega
          clear hc
          subst hcn
          have HR2 : Hid (X.length = c ∧ Pcs (s * 2) X ∧ ∀ z, z ∈ X ↔ z ∈ L) := by
            refine Lib.hid ⟨HX.out.1, by rw [Nat.mul_comm]; exact HX.out.2.1, fun z => ?_⟩
            rw [HX.out.2.2, List.take_of_length_le (by rw [HR.out.1]; exact Nat.le_refl _)]
            exact HR.out.2.2 z
          have NX2 := Lib.hid (NX.out.low2 hsz1)
          have HW2 := Lib.hid (HW.out.trans (HWr.out.mono hsz1))
          clear HX NX HWr HW
          go_wp2_with fail
          go_roundg (c - s * 2)
          case measure => omega
          case rel => exact ⟨s * 2, po, pc, X, rfl, by first | rfl | norm_cast, by omega, by omega, Nat.le_refl _, HR2, NX2, HW2⟩
    · have hR := pcs_end HR.out.2.1 (by rw [HR.out.1]; omega)
      have HAA := Lib.hid hR
      clear hR
      go_wp2
      go_ret
      exact ⟨_, R, rfl, NR.out, HAA.out, HR.out.2.2, HR.out.1, HW.out⟩
end Go.Proofs.Ytdlpfiiakmhnlaa

namespace Go.Proofs.Ytdlpfiiakmhnlaa
open Go.RowKit Go.Shelf

/-- the iterator g (captured: lb) tells encs 0, encs 1, .. up to N, as far as it is asked; it turns nothing below B; a round keeps what lies at or above B; it asks Kp between two rounds -/
def TellsV (P : Program) (gf : Nat) (lb : Array Value) (N : Nat) (E : Nat → Value → World → Prop) (B : Nat) (Kp : World → Prop) : Prop :=
  ∀ (m lid : Nat) (I : (Nat → Prop) → Nat → World → Prop) (Ix : Nat → World → Prop), (∀ G k W, I G k W → Kp W) → (∀ G k W, I G k W → ∀ g, G g → B ≤ g ∧ g < W.heap.size) → (∀ G k W W', I G k W → BelowX B G W W' → I G k W') → (∀ k W W', Ix k W → Below B W W' → Ix k W') →
    (∀ G k v W, k < N → I G k W → E k v W → YieldAt Fence.wide m P lid #[v] W fun e W' => ((e = .returned (.bool true) ∧ ∃ G', (∀ g, G' g → G g ∨ W.heap.size ≤ g) ∧ I G' (k + 1) W') ∨ (e = .returned (.bool false) ∧ Ix (k + 1) W')) ∧ AboveX B G W W') →
    ∀ W, B ≤ W.heap.size → I (fun _ => False) 0 W → CallsIn Fence.wide (m + 1) P gf (#[.func (.yield lid) #[] #[]] ++ lb) W fun e W' => (∃ v, e = .returned v) ∧ ((∃ G, I G N W') ∨ ∃ k, k ≤ N ∧ Ix k W')
set_option maxHeartbeats 1000000 in
theorem wpIn_rangeV {P : Program} {g : Operand} {ps : Array Tmp} {assign body : Code} {Q : Exit → Act → World → Prop} {a : Act} {w : World} {m : Nat} {gf : Nat} {lb : Array Value} {N : Nat} {E : Nat → Value → World → Prop} {Kp : World → Prop}
    (hg : a.eval g = .func (.func gf) #[] lb) (eg : ∀ args w, (callFunc gf args).run P w = .ok (.enter gf args) w)
    (hT : TellsV P gf lb N E (w.heap.size + 2) Kp) (hps : ps.size = 1)
    (J : (Nat → Prop) → Nat → World → Prop) (Jx : Code → Nat → World → Prop) (hG : ∀ G k W, J G k W → ∀ g, G g → w.heap.size + 2 ≤ g ∧ g < W.heap.size) (hst : ∀ G k W W', J G k W → BelowX w.heap.size G W W' → J G k W') (hxst : ∀ c k W W', Jx c k W → Below w.heap.size W W' → Jx c k W')
    (hKp : ∀ G k W, J G k W → Kp W) (h0 : J (fun _ => False) 0 w)
    (hround : ∀ (lid D k : Nat) (v : Value) (G : Nat → Prop) (W : World), k < N → J G k W → E k v W → lid = w.heap.size + 1 → D = w.heap.size → lid < W.heap.size → D < W.heap.size →
      assign.wpIn (Fence.wide.inRound lid) m P (Exit.then (fun a₁ w₁ => (Fix2 lid D W w₁ ∧ AboveX (w.heap.size + 2) G W w₁) ∧ ∀ w₂, OutL [lid] w₁ w₂ → body.wpIn (Fence.wide.inRound lid) m P (rPostX (w.heap.size + 2) lid D w₂ J Jx G k) a₁ w₂) (fun _ _ _ => False))
        { tmps := (ps.zip #[v]).foldl (fun t (p, v) => t.setIfInBounds p v) a.tmps, defers := [] } W)
    (hdone : ∀ D G W, D = w.heap.size → J G N W → W.heap[D]? = some (.deferred (some [])) → Q .normal { a with defers := { target := .collected D, args := #[] } :: a.defers } W)
    (hstop : ∀ D c k W, D = w.heap.size → Jx c k W → W.heap[D]? = some (.deferred (some [])) → c.wpIn Fence.wide (m + 2) P Q { a with defers := { target := .collected D, args := #[] } :: a.defers } W) :
    (Code.rangeFunc g ps assign body).wpIn Fence.wide (m + 2) P Q a w := by
  refine wpIn_rangeFunc ?_
  intro fn hfn
  obtain ⟨rec, hrec⟩ : ∃ rec : LoopState → Option Code → Loop, rec = fun st pe => { state := st, pending := pe, fn, tmps := a.tmps, params := ps, assign, body, defers := w.heap.size } := ⟨_, rfl⟩
  obtain ⟨W1, hW1⟩ : ∃ W1, (w.alloc (.deferred (some []))).alloc (.loop (rec .ready none)) = W1 := ⟨_, rfl⟩
  have hL1 : W1.heap[w.heap.size + 1]? = some (.loop (rec .ready none)) := by
    rw [← hW1]; have := World.alloc_heap_new (w.alloc (.deferred (some []))) (.loop (rec .ready none)); rwa [World.size_alloc] at this
  have hK1 : W1.heap[w.heap.size]? = some (.deferred (some [])) := by
    rw [← hW1]; exact (Below.heap_alloc _ _ _ (by simp)).trans (World.alloc_heap_new w _)
  have hb1 : Below w.heap.size w W1 := by rw [← hW1]; exact below_a2 _ _ _
  have hsz : W1.heap.size = w.heap.size + 2 := by rw [← hW1]; simp
  refine ⟨w.heap.size + 1, [{ target := .collected w.heap.size, args := #[] }], W1, { target := .fn (.func gf) lb, args := #[.func (.yield (w.heap.size + 1)) #[] #[]] }, W1, gf,
    #[.func (.yield (w.heap.size + 1)) #[] #[]] ++ lb, W1, ?_, ?_, ?_, ?_, fun h => absurd h (by decide), ?_⟩
  · rw [← hW1, hrec]; exact run_enterLoop_outer _ _ _ _ _
  · simp only [resolve, hg]
    simp [go_sem]
  · intro f' hf'; trivial
  · simp [invoke, go_sem, eg]
  · refine (hT m (w.heap.size + 1)
      (fun G k W => J G k W ∧ W.heap[w.heap.size + 1]? = some (.loop (rec .ready none)) ∧ W.heap[w.heap.size]? = some (.deferred (some [])))
      (fun k W => ∃ c, Jx c k W ∧ W.heap[w.heap.size + 1]? = some (.loop (rec .done (some c))) ∧ W.heap[w.heap.size]? = some (.deferred (some [])))
      (fun G k W h => hKp G k W h.1) (fun G k W h => hG G k W h.1) (fun G k W W' h hb => ⟨hst G k W W' h.1 (hb.mono (by omega)), (hb.1.block _ (by omega)).trans h.2.1, (hb.1.block _ (by omega)).trans h.2.2⟩)
      (fun k W W' h hb => by obtain ⟨c, h1, h2, h3⟩ := h; exact ⟨c, hxst c k W W' h1 (hb.mono (by omega)), (hb.block _ (by omega)).trans h2, (hb.block _ (by omega)).trans h3⟩)
      ?_ W1 (by omega) ⟨hst _ 0 _ _ h0 ⟨hb1, fun g hg => hg.elim⟩, hL1, hK1⟩).mono ?_
    · rintro G k v W hk ⟨hi, hl, hd⟩ hE
      have hlt : w.heap.size + 1 < W.heap.size := (Array.getElem?_eq_some_iff.1 hl).1
      have hy := run_yield (P := P) (args := #[v]) hl (by rw [hrec]; exact hps.symm)
      rw [hrec] at hy
      refine ⟨fn, _, assign, body, hy, roundIn_of_wpIn trivial (wpIn_mono (hround _ _ k v G W hk hi hE rfl rfl hlt (by omega)) ?_)⟩
      rintro e a1 w1 he
      cases e with
      | normal =>
        obtain ⟨⟨hf1, hab1⟩, hbody⟩ := he
        have hl1 : w1.heap[w.heap.size + 1]? = some (.loop (rec .ready none)) := hf1.1.trans hl
        have hd1 : w1.heap[w.heap.size]? = some (.deferred (some [])) := hf1.2.trans hd
        have hlt1 : w.heap.size + 1 < w1.heap.size := (Array.getElem?_eq_some_iff.1 hl1).1
        refine ⟨_, run_beginRound hl1 (by rw [hrec]), wpIn_mono (hbody _ (putObj_out _ _ _)) ?_⟩
        have hl2 : (w1.putObj (w.heap.size + 1) (.loop { rec .ready none with state := .busy })).heap[w.heap.size + 1]? = some (.loop { rec .ready none with state := .busy }) := World.putObj_heap_same hlt1
        have hd2 : (w1.putObj (w.heap.size + 1) (.loop { rec .ready none with state := .busy })).heap[w.heap.size]? = some (.deferred (some [])) := (World.putObj_heap_other (by omega)).trans hd1
        have fin : ∀ (jump : Option Code) (W3 : World), Fix2 (w.heap.size + 1) w.heap.size (w1.putObj (w.heap.size + 1) (.loop { rec .ready none with state := .busy })) W3 →
            (Instr.endRound (w.heap.size + 1) jump).run P W3 = .ok (.bool jump.isNone) (W3.putObj (w.heap.size + 1) (.loop (rec (if jump.isNone then .ready else .done) jump))) ∧
            (W3.putObj (w.heap.size + 1) (.loop (rec (if jump.isNone then .ready else .done) jump))).heap[w.heap.size + 1]? = some (.loop (rec (if jump.isNone then .ready else .done) jump)) ∧
            (W3.putObj (w.heap.size + 1) (.loop (rec (if jump.isNone then .ready else .done) jump))).heap[w.heap.size]? = some (.deferred (some [])) := fun jump W3 hk3 => by
          have hl3 := hk3.1.trans hl2
          have := run_endRound (P := P) jump hl3
          rw [hrec] at this ⊢
          exact ⟨this, World.putObj_heap_same (Array.getElem?_eq_some_iff.1 hl3).1, (World.putObj_heap_other (by omega)).trans (hk3.2.trans hd2)⟩
        have pb : ∀ (W3 : World) (o : Obj), w.heap.size ≤ W3.heap.size → Below w.heap.size W3 (W3.putObj (w.heap.size + 1) o) := fun W3 o h => (putObj_out W3 _ o).below h (by simp)
        have sz3 : ∀ W3 : World, Fix2 (w.heap.size + 1) w.heap.size (w1.putObj (w.heap.size + 1) (.loop { rec .ready none with state := .busy })) W3 → w.heap.size ≤ W3.heap.size := fun W3 h => by
          have := (Array.getElem?_eq_some_iff.1 (h.1.trans hl2)).1; omega
        rintro e a3 W3 hp
        have abv : ∀ o : Obj, AboveX (w.heap.size + 2) G (w1.putObj (w.heap.size + 1) (.loop { rec .ready none with state := .busy })) W3 → AboveX (w.heap.size + 2) G W (W3.putObj (w.heap.size + 1) o) := fun o h => ((hab1.trans (.ofAbove (.putObj _ (by omega) _))).trans h).trans (.ofAbove (.putObj _ (by omega) _))
        cases e with
        | normal =>
          obtain ⟨⟨hf3, G', hG', hJ3⟩, hab⟩ := hp
          obtain ⟨hr, hl4, hk4⟩ := fin none W3 hf3
          have hgg := hG _ _ _ hJ3
          refine ⟨_, _, hr, .inl ⟨rfl, G', fun g hg => ?_, hst _ _ _ _ hJ3 ⟨pb _ _ (sz3 _ hf3), fun g hg _ => World.putObj_heap_other (by have := hgg g hg; omega)⟩, hl4, hk4⟩, abv _ hab⟩
          rcases hG' g hg with h | h
          · exact .inl h
          · refine .inr (Nat.le_trans hab1.size ?_)
            simpa using h
        | ret =>
          obtain ⟨hp, hab⟩ := hp
          obtain ⟨hr, hl4, hk4⟩ := fin (some .ret) W3 hp.1
          exact ⟨_, _, hr, .inr ⟨rfl, .ret, hxst _ _ _ _ hp.2 (pb _ _ (sz3 _ hp.1)), hl4, hk4⟩, abv _ hab⟩
        | exit id =>
          obtain ⟨hp, hab⟩ := hp
          obtain ⟨hr, hl4, hk4⟩ := fin (some (.exit id)) W3 hp.1
          exact ⟨_, _, hr, .inr ⟨rfl, .exit id, hxst _ _ _ _ hp.2 (pb _ _ (sz3 _ hp.1)), hl4, hk4⟩, abv _ hab⟩
        | goto t =>
          obtain ⟨hp, hab⟩ := hp
          obtain ⟨hr, hl4, hk4⟩ := fin (some (.goto t)) W3 hp.1
          exact ⟨_, _, hr, .inr ⟨rfl, .goto t, hxst _ _ _ _ hp.2 (pb _ _ (sz3 _ hp.1)), hl4, hk4⟩, abv _ hab⟩
        | panic ch => exact hp.elim
        | outgrown => exact hp.elim
      | exit id => exact he.elim
      | goto t => exact he.elim
      | ret => exact he.elim
      | panic c => exact he.elim
      | outgrown => exact he.elim
    · rintro e W2 ⟨⟨v, rfl⟩, (⟨G, hi, hl, hd⟩ | ⟨k, _, c, hi, hl, hd⟩)⟩
      · have hlt : w.heap.size + 1 < W2.heap.size := (Array.getElem?_eq_some_iff.1 hl).1
        exact ⟨none, _, by have := run_endLoop (P := P) hl (by rw [hrec]; simp); rw [hrec] at this; exact this, hdone _ _ _ rfl (hst _ _ _ _ hi ⟨(putObj_out _ _ _).below (by omega) (by simp), fun g hg _ => World.putObj_heap_other (by have := hG _ _ _ hi g hg; omega)⟩) ((World.putObj_heap_other (by omega)).trans hd)⟩
      · have hlt : w.heap.size + 1 < W2.heap.size := (Array.getElem?_eq_some_iff.1 hl).1
        exact ⟨some c, _, by have := run_endLoop (P := P) hl (by rw [hrec]; simp); rw [hrec] at this; exact this, hstop _ c k _ rfl (hxst _ _ _ _ hi ((putObj_out _ _ _).below (by omega) (by simp))) ((World.putObj_heap_other (by omega)).trans hd)⟩
end Go.Proofs.Ytdlpfiiakmhnlaa

namespace Go.Proofs.Ytdlpfiiakmhnlaa
open Go.RowKit Go.Shelf
attribute [local go_sem] Oper.semAt_some undef

theorem Same_is (ob : Nat) (x y : Int) (w : World) (hb : Blk w ob #[cmpF] 120) : Calls Try.prog 89 #[.int .i64 x, .int .i64 y, ptr ob 0] w fun e w' => e = .returned (.bool (x == y)) ∧ Below w.heap.size w w' := by
  have c0 := hb.cell 0
  simp only [List.getElem?_toArray, List.getElem?_cons_zero] at c0
  obtain ⟨r, hr⟩ : ∃ r, cmpI x y = r := ⟨_, rfl⟩
  have HR := Lib.hid hr
  have he : (r == 0) = (x == y) := by
    rw [← hr]
    unfold cmpI
    by_cases h1 : x < y
    · have : ¬ x = y := by omega
      simp [h1, this]
    · by_cases h2 : y < x
      · have : ¬ x = y := by omega
        simp [h1, h2, this]
      · have : x = y := by omega
        simp [this]
  clear hr
  go_enter Try.func89, Try.ntmps89
  go_wp2_with fail
  refine (CmpI_is x y r HR.out w).mono ?_
  rintro e w2 ⟨rfl, h⟩
  have HH := Lib.hid h
  have HE := Lib.hid he
  clear h he
  go_wp2
  go_ret
  exact ⟨by rw [← HE.out]; rfl, HH.out⟩
abbrev smF (ob : Nat) : Value := .func (.func 89) #[] #[ptr ob 0]
theorem Runs_is (ao : Option Addr) (n c ob : Nat) (w : World) : Calls Try.prog 87 #[.slice ao n c, smF ob] w fun e w' => e = .returned (.func (.func 97) #[] #[ptr w.heap.size 0, ptr (w.heap.size + 1) 0]) ∧ Blk w' w.heap.size #[.slice ao n c] 29 ∧ Blk w' (w.heap.size + 1) #[smF ob] 118 ∧ Below w.heap.size w w' := by
  go_enter Try.func87, Try.ntmps87
  go_wp2
  go_ret
  exact ⟨rfl, (Blk.new _ _ _).alloc _, Blk.new1 _ _ _ _, below_a2 _ _ _⟩
/-- what the iterator tells: fresh slices that begin with one of each run -/
def rnE (B : Nat) (L : List Nat) (k : Nat) (v : Value) (W : World) : Prop := ∃ M, NL W B v M ∧ M[0]? = (dd L)[k]? ∧ k < (dd L).length
theorem Ns.cut {w : World} {g o cc : Nat} {L : List Nat} (h : Ns w (some ⟨g, o, none⟩) cc L) {f i : Nat} (hf : f < i) (hi : i ≤ L.length) : Ns w (some ⟨g, o + f, none⟩) (cc - f) (cut L f i) := by
  have hc := h.capl
  have hcb := h.capb
  have hl := cut_len (a := f) hi
  refine ⟨fun _ => ?_, by omega, by omega⟩
  obtain ⟨g', o', e, hg, hcell⟩ := h.ptr (by omega)
  injection e with e
  injection e with e1 e2 _
  subst e1
  subst e2
  refine ⟨g, o + f, rfl, hg, fun j x hx => ?_⟩
  rw [Nat.add_assoc]
  exact hcell _ x (cut_at hx)
structure RnK (b1 b2 ob n cc : Nat) (ao : Option Addr) (L : List Nat) (W : World) : Prop where
  l : Blk W b1 #[.slice ao n cc] 29
  s : Blk W b2 #[smF ob] 118
  o : Blk W ob #[cmpF] 120
  ns : Ns W ao cc L
theorem RnK.of {b1 b2 ob n cc : Nat} {ao : Option Addr} {L : List Nat} {W W' : World} (h : RnK b1 b2 ob n cc ao L W) (hb : Below W.heap.size W W') : RnK b1 b2 ob n cc ao L W' := ⟨h.l.of hb, h.s.of hb, h.o.of hb, h.ns.of hb⟩
set_option maxRecDepth 100000 in
set_option maxHeartbeats 4000000 in
theorem Runs1_any (m lid b1 b2 ob B n cc : Nat) (ao : Option Addr) (L : List Nat) (hL : L.length = n) (hn4 : n ≤ 40000) (I : (Nat → Prop) → Nat → World → Prop) (Ix : Nat → World → Prop)
    (hm : ∀ G k W, I G k W → RnK b1 b2 ob n cc ao L W) (hst : ∀ G k W W', I G k W → BelowX B G W W' → I G k W')
    (hY : ∀ G k v W, k < (dd L).length → I G k W → rnE B L k v W → YieldAt Fence.wide m Try.prog lid #[v] W fun e W' => ((e = .returned (.bool true) ∧ ∃ G', (∀ g, G' g → G g ∨ W.heap.size ≤ g) ∧ I G' (k + 1) W') ∨ (e = .returned (.bool false) ∧ Ix (k + 1) W')) ∧ AboveX B G W W')
    (W : World) (hB : B ≤ W.heap.size) (h0 : I (fun _ => False) 0 W) :
    CallsIn Fence.wide (m + 1) Try.prog 97 #[.func (.yield lid) #[] #[], ptr b1 0, ptr b2 0] W fun e W' => (∃ v, e = .returned v) ∧ ((∃ G, I G (dd L).length W') ∨ ∃ k, k ≤ (dd L).length ∧ Ix k W') := by
  refine callsIn_of_wp Try.func97 rfl trivial ?_ rfl
  simp only [Try.ntmps97, List.size_toArray, List.length_cons, List.length_nil, Nat.reduceAdd, Nat.reduceSub, Array.replicate_succ, Array.replicate_zero, List.push_toArray, List.append_toArray, List.nil_append, List.cons_append]
  have HH := Lib.hid (And.intro hm (And.intro hst hY))
  have H0 := Lib.hid h0
  have HL := Lib.hid hL
  obtain ⟨N, hN⟩ : ∃ N, (dd L).length = N := ⟨_, rfl⟩
  have HNN := Lib.hid hN
  clear hm hst hY h0 hL hN
  gi_wp2_with fail
  gi_loopg [4, 5] (n + 1) (fun gk s4 s5 wr => ∃ f i k : Nat, s4 = .int .i64 (f : Nat) ∧ s5 = .int .i64 (i : Nat) ∧ 1 ≤ i ∧ i ≤ n + 1 ∧ n + 1 - i ≤ gk ∧ Hid ((i ≤ n → RunAt L f i k) ∧ (i = n + 1 → k = (dd L).length)) ∧ Hid (∃ G, I G k wr) ∧ B ≤ wr.heap.size)
  case atStart =>
    refine ⟨0, 1, 0, rfl, rfl, by omega, by omega, by omega, Lib.hid ⟨fun h => run_0 (by rw [HL.out]; omega), fun h => ?_⟩, Lib.hid ⟨_, H0.out⟩, hB⟩
    have : n = 0 := by omega
    rw [List.eq_nil_of_length_eq_zero (HL.out.trans this)]; rfl
  case round =>
    clear H0 hB
    obtain ⟨f, i, k, rfl, rfl, hi1, hi2, hgk, HRUN, HI, hB⟩ := hrel
    obtain ⟨G, hI⟩ := HI.out
    have HIG := Lib.hid hI
    have KK := HH.out.1 _ _ _ hI
    have HKK := Lib.hid KK
    have r1 := KK.l.cell 0
    have r2 := KK.s.cell 0
    have l1 := KK.l.lt
    have l2 := KK.s.lt
    have cc1 := KK.ns.capl
    have cc2 := KK.ns.capb
    rw [HL.out] at cc1
    simp only [List.getElem?_toArray, List.getElem?_cons_zero] at r1 r2
    clear hI KK HI
    by_cases hin : i ≤ n
    · have RUN := Lib.hid (HRUN.out.1 hin)
      obtain ⟨D_, x_, _, _, _, hxf, hfi⟩ := RUN.out
      clear hxf HRUN
      obtain ⟨g, o, hao, hg, hcell⟩ := HKK.out.ns.ptr (by rw [HL.out]; omega)
      subst hao
      by_cases hlt : i < n
      · obtain ⟨x, hx⟩ : ∃ x, L[i - 1]? = some x := ⟨_, List.getElem?_eq_getElem (show i - 1 < L.length by rw [HL.out]; omega)⟩
        obtain ⟨y, hy⟩ : ∃ y, L[i]? = some y := ⟨_, List.getElem?_eq_getElem (show i < L.length by rw [HL.out]; omega)⟩
        have q1 := hcell _ x hx
        have q2 := hcell _ y hy
        have HXY := Lib.hid (And.intro hx hy)
        obtain ⟨j, hj⟩ : ∃ j, i = j + 1 := ⟨i - 1, by omega⟩
        subst hj
        rw [show j + 1 - 1 = j by omega] at q1
        have hij : ((j + 1 : Nat) : Int) - 1 = (j : Int) := by omega
        have hgt1 : ((j + 1 : Nat) : Int) < (n : Int) := by omega
        have hgt2 : (j : Int) + 1 < (n : Int) := by omega
        clear hx hy hcell
        gi_wp2_with fail
        refine wpIn_wide.2 ?_
        refine wp_region_up wr.heap.size 15 [(true, 0), (true, 1), (false, 2), (true, 3), (true, 4), (true, 5), (true, 6), (true, 7), (true, 8), (true, 9), (true, 10), (true, 11), (true, 12), (true, 13), (true, 14)] (by kernel_rfl) (by kernel_rfl) (fun _ _ d _ _ h => by cases d <;> exact h) ?_
        have hb : Below wr.heap.size wr wr.drew := (Below.refl _ _).drew
        iterate 2
          refine wpS_takeL rfl rfl ?_
          go_big_quiet_step (rfl)
          refine wpQuiet_nil ?_
        refine wpS_doL rfl ?_
        intro K hK
        go_wp2_with ((go_at_call 89; go_loud (refine (Same_is ob (x : Nat) (y : Nat) _ (HKK.out.o.of hb)).mono ?_); rintro e w2 ⟨rfl, hn⟩))
        try replace hb := hb.trans (hn.mono hb.size)
        refine hK.out _ _ (up_iff.2 hb) ?_
        clear hK K
        try clear hn
        iterate 12
          refine wpS_takeL rfl rfl ?_
          go_big_quiet_step (rfl)
          refine wpQuiet_nil ?_
        refine wpS_nil ?_
        simp only [List.drop_succ_cons, List.drop_zero]
        go_wp2_with fail
        refine (Same_is ob (x : Nat) (y : Nat) _ (HKK.out.o.of hb)).mono ?_
        rintro e V2 ⟨rfl, hn2⟩
        have hb2 := hb.trans (hn2.mono hb.size)
        have HI2 := Lib.hid (HH.out.2.1 _ k wr V2 HIG.out (.all hb2 hB))
        have HKK2 := Lib.hid (HKK.out.of hb2)
        have hB2 : B ≤ V2.heap.size := Nat.le_trans hB hb2.size
        clear hb hn2 hb2 HIG HKK r1 r2 l1 l2 q1 q2 hg hB
        have l1 := HKK2.out.l.lt
        by_cases hxy : x = y
        · have he : ((x : Int) == (y : Int)) = true := by rw [hxy]; simp
          have HR2 : Hid ((j + 1 + 1 ≤ n → RunAt L f (j + 1 + 1) k) ∧ (j + 1 + 1 = n + 1 → k = (dd L).length)) := Lib.hid ⟨fun _ => run_same RUN.out (by omega) HXY.out.1 (by rw [hxy]; exact HXY.out.2), fun h => absurd h (by omega)⟩
          have HI3 : Hid (∃ G, I G k V2) := Lib.hid ⟨_, HI2.out⟩
          clear RUN HI2 HKK2 l1
          go_wp2_with fail
          gi_wp2_with fail
          gi_roundg (n + 1 - (j + 1 + 1))
          case measure => omega
          case rel => exact ⟨f, j + 1 + 1, k, rfl, by first | rfl | norm_cast, by omega, by omega, Nat.le_refl _, HR2, HI3, hB2⟩
        · have he : ((x : Int) == (y : Int)) = false := by simp; omega
          go_wp2_with fail
          obtain ⟨htell, hkN⟩ := run_tell RUN.out (by omega) (.inr ⟨x, y, HXY.out.1, HXY.out.2, hxy⟩)
          have NSC := (HKK2.out.ns.cut (f := f) (i := j + 1) hfi (by rw [HL.out]; omega))
          have r3 := HKK2.out.l.cell 0
          simp only [List.getElem?_toArray, List.getElem?_cons_zero] at r3
          have hccf : ¬ cc = f := by omega
          have b1f : (f : Int) ≤ ((j + 1 : Nat) : Int) := by omega
          have b2f : ((j + 1 : Nat) : Int) ≤ (cc : Int) := by omega
          have hclen : (cut L f (j + 1)).length = j + 1 - f := cut_len (by rw [HL.out]; omega)
          gi_wp2_with fail
          refine ⟨trivial, callsIn_wide.2 ?_⟩
          refine (CloneI_n _ _ (j + 1 - f) _ V2 NSC hclen (by omega)).mono ?_
          rintro e V3 ⟨v3, rfl, nl3, hb3⟩
          have hI3 := HH.out.2.1 _ k V2 V3 HI2.out (.all hb3 hB2)
          have hB3 : B ≤ V3.heap.size := Nat.le_trans hB2 hb3.size
          have hfl : (cut L f (j + 1))[0]? = (dd L)[k]? := by
            rw [htell]
            unfold cut
            rw [List.getElem?_take_of_lt (by omega), List.getElem?_drop, Nat.add_zero]
          have hE : rnE B L k v3 V3 := ⟨_, nl3.low2 hB2, hfl, hkN⟩
          obtain ⟨fn, tmps, assign, body, hy, hR⟩ := HH.out.2.2 _ k v3 _ hkN hI3 hE
          obtain ⟨va, vc, hv3, _⟩ := nl3.val
          subst hv3
          have HKN := Lib.hid hkN
          have HB3 := Lib.hid hB3
          clear htell NSC r3 nl3 hb3 hI3 hE HI2 HKK2 hfl hkN hclen hB3
          gi_wp2
          refine hR.mono ?_
          rintro e V4 ⟨(⟨rfl, G4, _, hI4⟩ | ⟨rfl, hx4⟩), hab⟩
          · have HI4 : Hid (∃ G, I G (k + 1) V4) := Lib.hid ⟨_, hI4⟩
            have hB4 : B ≤ V4.heap.size := Nat.le_trans HB3.out hab.size
            have HR4 : Hid ((j + 1 + 1 ≤ n → RunAt L (j + 1) (j + 1 + 1) (k + 1)) ∧ (j + 1 + 1 = n + 1 → k + 1 = (dd L).length)) := Lib.hid ⟨fun _ => run_new RUN.out (by omega) HXY.out.1 HXY.out.2 hxy, fun h => absurd h (by omega)⟩
            clear hI4 hab hy hR RUN HB3
            gi_wp2_with fail
            gi_roundg (n + 1 - (j + 1 + 1))
            case measure => omega
            case rel => exact ⟨j + 1, j + 1 + 1, k + 1, rfl, by first | rfl | norm_cast, by omega, by omega, Nat.le_refl _, HR4, HI4, hB4⟩
          · have HX := Lib.hid hx4
            clear hx4 hab hy hR
            gi_wp2
            refine bodyPost_ret (results_none rfl _ _ _) rfl ?_
            exact ⟨⟨_, rfl⟩, .inr ⟨k + 1, HKN.out, HX.out⟩⟩
      · have hie : i = n := by omega
        have hnl : ¬ (i : Int) < (n : Int) := by omega
        have hi4 : (i : Int) ≤ 40000 := by omega
        have HIE := Lib.hid hie
        clear hie
        clear hcell
        gi_wp2_with fail
        refine wpIn_wide.2 ?_
        refine wp_region_up wr.heap.size 15 [(true, 0), (true, 1), (false, 2), (true, 3), (true, 4), (true, 5), (true, 6), (true, 7), (true, 8), (true, 9), (true, 10), (true, 11), (true, 12), (true, 13), (true, 14)] (by kernel_rfl) (by kernel_rfl) (fun _ _ d _ _ h => by cases d <;> exact h) ?_
        have hb : Below wr.heap.size wr wr.drew := (Below.refl _ _).drew
        iterate 2
          refine wpS_takeL rfl rfl ?_
          go_big_quiet_step (rfl)
          refine wpQuiet_nil ?_
        refine wpS_doL rfl ?_
        intro K hK
        go_wp2_with (fail)
        try replace hb := hb.trans (hn.mono hb.size)
        refine hK.out _ _ (up_iff.2 hb) ?_
        clear hK K
        try clear hn
        iterate 12
          refine wpS_takeL rfl rfl ?_
          go_big_quiet_step (rfl)
          refine wpQuiet_nil ?_
        refine wpS_nil ?_
        simp only [List.drop_succ_cons, List.drop_zero]

        go_wp2_with fail
        refine nameIn ?_
        intro V2 hV2
        have hb2 : Below wr.heap.size wr V2 := by rw [hV2]; exact hb
        have HI2 := Lib.hid (HH.out.2.1 _ k wr V2 HIG.out (.all hb2 hB))
        have HKK2 := Lib.hid (HKK.out.of hb2)
        have hB2 : B ≤ V2.heap.size := Nat.le_trans hB hb2.size
        clear hb hV2 hb2 HIG HKK r1 r2 l1 l2 hg hB
        have l1 := HKK2.out.l.lt
        obtain ⟨htell, hkN⟩ := run_tell RUN.out (by omega) (.inl (by rw [HL.out]; exact HIE.out))
        have NSC := (HKK2.out.ns.cut (f := f) (i := i) hfi (by rw [HL.out]; omega))
        have r3 := HKK2.out.l.cell 0
        simp only [List.getElem?_toArray, List.getElem?_cons_zero] at r3
        have hccf : ¬ cc = f := by omega
        have b1f : (f : Int) ≤ ((i : Nat) : Int) := by omega
        have b2f : ((i : Nat) : Int) ≤ (cc : Int) := by omega
        have hclen : (cut L f (i)).length = i - f := cut_len (by rw [HL.out]; omega)
        gi_wp2_with fail
        refine ⟨trivial, callsIn_wide.2 ?_⟩
        refine (CloneI_n _ _ (i - f) _ V2 NSC hclen (by omega)).mono ?_
        rintro e V3 ⟨v3, rfl, nl3, hb3⟩
        have hI3 := HH.out.2.1 _ k V2 V3 HI2.out (.all hb3 hB2)
        have hB3 : B ≤ V3.heap.size := Nat.le_trans hB2 hb3.size
        have hfl : (cut L f (i))[0]? = (dd L)[k]? := by
          rw [htell]
          unfold cut
          rw [List.getElem?_take_of_lt (by omega), List.getElem?_drop, Nat.add_zero]
        have hE : rnE B L k v3 V3 := ⟨_, nl3.low2 hB2, hfl, hkN⟩
        obtain ⟨fn, tmps, assign, body, hy, hR⟩ := HH.out.2.2 _ k v3 _ hkN hI3 hE
        obtain ⟨va, vc, hv3, _⟩ := nl3.val
        subst hv3
        have HKN := Lib.hid hkN
        have HB3 := Lib.hid hB3
        clear htell NSC r3 nl3 hb3 hI3 hE HI2 HKK2 hfl hkN hclen hB3
        gi_wp2
        refine hR.mono ?_
        rintro e V4 ⟨(⟨rfl, G4, _, hI4⟩ | ⟨rfl, hx4⟩), hab⟩
        · have HI4 : Hid (∃ G, I G (k + 1) V4) := Lib.hid ⟨_, hI4⟩
          have hB4 : B ≤ V4.heap.size := Nat.le_trans HB3.out hab.size
          have HR4 : Hid ((i + 1 ≤ n → RunAt L (i) (i + 1) (k + 1)) ∧ (i + 1 = n + 1 → k + 1 = (dd L).length)) := Lib.hid ⟨fun h => absurd h (by omega), fun _ => run_end (by rw [HL.out, ← HIE.out]; exact RUN.out)⟩
          clear hI4 hab hy hR RUN HB3
          gi_wp2_with fail
          gi_roundg (n + 1 - (i + 1))
          case measure => omega
          case rel => exact ⟨i, i + 1, k + 1, rfl, by first | rfl | norm_cast, by omega, by omega, Nat.le_refl _, HR4, HI4, hB4⟩
        · have HX := Lib.hid hx4
          clear hx4 hab hy hR
          gi_wp2
          refine bodyPost_ret (results_none rfl _ _ _) rfl ?_
          exact ⟨⟨_, rfl⟩, .inr ⟨k + 1, HKN.out, HX.out⟩⟩
    · have hie : i = n + 1 := by omega
      have HF := Lib.hid (show ∃ G, I G (dd L).length wr by rw [← HRUN.out.2 hie]; exact ⟨G, HIG.out⟩)
      clear HIG
      gi_wp2
      go_end0
      exact ⟨⟨_, rfl⟩, .inl HF.out⟩
theorem Runs1_tells (b1 b2 ob n cc : Nat) (ao : Option Addr) (L : List Nat) (hL : L.length = n) (hn : n ≤ 40000) (B : Nat) :
    TellsV Try.prog 97 #[ptr b1 0, ptr b2 0] (dd L).length (rnE B L) B (RnK b1 b2 ob n cc ao L) :=
  fun m lid I Ix hK _ hst _ hY W hB h0 => Runs1_any m lid b1 b2 ob B n cc ao L hL hn I Ix hK hst hY W hB h0
end Go.Proofs.Ytdlpfiiakmhnlaa

namespace Go.Proofs.Ytdlpfiiakmhnlaa
open Go.RowKit Go.Shelf
section
variable {P : Program} {ops : Array Oper} {Q : Exit → Act → World → Prop} {md : Region.Mode} {m : Nat} {lid : Nat}

theorem upon_in {o : Oper} {a : Act} {next : Act → World → Prop} {r : Result Next} (h : o.upon P a next Q r) : o.uponIn (Fence.wide.inRound lid) m P a next Q r := by
  cases r with
  | ok n w' =>
    cases n <;> first
      | exact h
      | exact ⟨fun h => absurd (show false = true from h) (by decide), CallsIn.inRound lid (callsIn_wide.2 (show Calls P _ _ _ _ from h))⟩
      | exact ⟨fun h => absurd (show false = true from h) (by decide), fun c cs _ => let ⟨v, w'', r, s⟩ := (show Rows P _ _ _ _ from h) c cs; ⟨v, w'', r, stepsIn_wide.2 s⟩⟩
      | exact h.elim
  | halt x w' => cases x <;> exact h
def noDefer (ops : Array Oper) : Bool := ops.all fun o => match o.op with | .defer _ => false | _ => true
theorem noDefer_at {i : Nat} {o : Oper} (h : noDefer ops = true) (ho : ops[i]? = some o) : ∀ c, o.op ≠ .defer c := by
  intro c hc
  unfold noDefer at h
  rw [Array.all_eq_true] at h
  obtain ⟨hi, e⟩ := Array.getElem?_eq_some_iff.1 ho
  have := h i hi
  rw [e, hc] at this
  cases this
theorem wpOp_in {i : Nat} {K : Act → World → Prop} {a : Act} {w : World} (hd : noDefer ops = true) (hq : ∀ a w, ¬ Q .outgrown a w) (h : wpOp P ops Q i K a w) : wpOpIn (Fence.wide.inRound lid) m P ops Q i K a w := by
  unfold wpOp at h
  unfold wpOpIn
  cases ho : ops[i]? with
  | none => rw [ho] at h; exact h
  | some o =>
    rw [ho] at h
    simp only at h ⊢
    split
    · rename_i hw
      rw [if_pos hw] at h
      rcases h with h | ⟨_, a0, w0, hq0⟩
      · refine ⟨fun _ _ => trivial, ?_⟩
        rw [show (Fence.wide.inRound lid).round = some lid from rfl, Oper.semAt_some lid _ o (noDefer_at hd ho)]
        exact upon_in h
      · exact absurd hq0 (hq a0 w0)
    · rename_i hw
      rw [if_neg hw] at h
      exact ⟨fun _ _ => trivial, h⟩
theorem wpAny_in (hd : noDefer ops = true) (hq : ∀ a w, ¬ Q .outgrown a w) : ∀ (fuel : Nat) (listed : Array Bool) (a : Act) (w : World), wpAny P md ops Q fuel listed a w → wpAnyIn (Fence.wide.inRound lid) m P md ops Q fuel listed a w
  | 0, _, _, _, h => h
  | fuel + 1, _, _, _, h => ⟨h.1, fun i hi => wpOpIn_mono (fun a' w' h' => wpAny_in hd hq fuel _ a' w' h') (wpOp_in hd hq (h.2 i hi))⟩

theorem wpIn_region_sched {id : Nat} {a : Act} {w : World} {l : List Oper} (n : Nat) (σ : List (Bool × Nat)) (C : World → Prop) (hm : P.follows .mixedOrders = true)
    (hB : (Region.noSelect l.toArray && headB .any l.toArray n && decide (σ.length = n) && decide (n ≤ l.length) && schedB .any l.toArray n σ (Array.replicate l.length false)) = true)
    (hd : noDefer l.toArray = true) (hq : ∀ a w, ¬ Q .outgrown a w)
    (hQ : ∀ c a d v w, Q (.panic c) (Act.put a d v) w → Q (.panic c) a w) (hC : C { w with drawn := w.drawn + 1 })
    (h : wpS P l.toArray C Q (fun a' w' => wpList P l.toArray Q (l.drop n) a' w') σ a { w with drawn := w.drawn + 1 }) : (Code.region id l.toArray true).wpIn (Fence.wide.inRound lid) m P Q a w := by
  simp only [Bool.and_eq_true, decide_eq_true_eq] at hB
  obtain ⟨⟨⟨⟨hsel, hh⟩, hlen⟩, hn⟩, hs⟩ := hB
  have hdl : (l.drop n).length = l.toArray.size - n := by simp
  have hrep : (Array.replicate l.length false) = Array.replicate l.toArray.size false := by simp
  rw [hrep] at hs
  have inv0 : HeadInv .any l.toArray n (Array.replicate l.toArray.size false) :=
    ⟨by simp, fun j oj _ hl => (by rw [getD_replicate_false] at hl; cases hl), fun t _ ht => getD_in (by simpa using ht) (getD_replicate_false _ _)⟩
  have H := wpAnyHL_of_sched (P := P) (C := C) hsel hh hQ σ _ a _ inv0 hs hC h
  refine wpIn_region_any hm (wpAny_in hd hq _ _ _ _ ?_)
  have := wpAny_of_headH (g := l.toArray.size - n) (fun listed a' w' hL => by
    have := wpAny_of_seq (md := .any) (Q' := Q) (l.drop n) n listed a' w' (fun j => by simp [List.getElem?_drop]) (by rw [hdl]; exact hL.1) hL.2
    rwa [hdl] at this) _ _ _ _ H
  have e : σ.length + (l.toArray.size - n) = l.toArray.size := by simp; omega
  rw [e] at this
  exact this
theorem wpIn_region_up {id : Nat} {a : Act} {w : World} {l : List Oper} (B n : Nat) (σ : List (Bool × Nat)) (hm : P.follows .mixedOrders = true)
    (hB : (Region.noSelect l.toArray && headB .any l.toArray n && decide (σ.length = n) && decide (n ≤ l.length) && schedB .any l.toArray n σ (Array.replicate l.length false)) = true)
    (hd : noDefer l.toArray = true) (hq : ∀ a w, ¬ Q .outgrown a w)
    (hQ : ∀ c a d v w, Q (.panic c) (Act.put a d v) w → Q (.panic c) a w)
    (h : wpS P l.toArray (fun w' => ∃ u : UpTo B w, w' = u.w) Q (fun a' w' => wpList P l.toArray Q (l.drop n) a' w') σ a w.drew) : (Code.region id l.toArray true).wpIn (Fence.wide.inRound lid) m P Q a w :=
  wpIn_region_sched n σ _ hm hB hd hq hQ (up_iff.2 (Below.refl B w).drew) h
end
end Go.Proofs.Ytdlpfiiakmhnlaa

namespace Go.Proofs.Ytdlpfiiakmhnlaa
open Go.RowKit Go.Shelf
attribute [local go_sem] Oper.semAt_some undef

theorem drewB {w : World} {b : Nat} {c : Array Value} {t : TypeId} (h : Blk w b c t) : Blk w.drew b c t := h
theorem Sort_n (ao : Option Addr) (cap n : Nat) (L : List Nat) (w : World) (h : Ns w ao cap L) (hl : L.length = n) (hn : n ≤ 40000) :
    Calls Try.prog 88 #[.slice ao n cap, cmpF] w fun e w' => ∃ v R, e = .returned v ∧ NL w' w.heap.size v R ∧ Asc R ∧ (∀ z, z ∈ R ↔ z ∈ L) ∧ R.length = n ∧ Below w.heap.size w w' := by
  subst hl
  exact Sort_is ao cap L w h hn
set_option maxRecDepth 100000 in
set_option maxHeartbeats 4000000 in
theorem Once_is (ao : Option Addr) (cap n : Nat) (L : List Nat) (w : World) (h : Ns w ao cap L) (hl : L.length = n) (hn4 : n ≤ 40000) :
    Calls Try.prog 65 #[.slice ao n cap, cmpF] w fun e w' => ∃ v R, e = .returned v ∧ NL w' w.heap.size v R ∧ R.Pairwise (· < ·) ∧ (∀ z, z ∈ R ↔ z ∈ L) ∧ Below w.heap.size w w' := by
  have HP := Lib.hid h
  have HLN := Lib.hid hl
  obtain ⟨i0, hi, hz0, hz1, hz2⟩ := info_parts info_int
  clear h hl
  refine (callsIn_wide (n := 3)).1 ?_
  refine callsIn_of_wp_marks Try.func65 rfl trivial ?_ rfl
  simp only [Try.ntmps65, List.size_toArray, List.length_cons, List.length_nil, Nat.reduceAdd, Nat.reduceSub, Array.replicate_succ, Array.replicate_zero, List.push_toArray, List.append_toArray, List.nil_append, List.cons_append]
  gi_wp2_with fail
  refine ⟨trivial, callsIn_wide.2 ?_⟩
  refine calls_w ?_
  intro V hV
  have kB : Hid (Blk V w.heap.size #[cmpF] 120) := by rw [hV]; exact Lib.hid ((Blk.new w _ _).alloc _)
  have kO : Hid (Blk V (w.heap.size + 1) #[.slice none 0 0] 29) := by rw [hV]; exact Lib.hid (Blk.new1 w _ _ _)
  have bV : Hid (Below w.heap.size w V) := by rw [hV]; exact Lib.hid (below_a2 _ _ _)
  have hsV : V.heap.size = w.heap.size + 2 := by rw [hV]; simp
  obtain ⟨ob, eob⟩ : ∃ b, w.heap.size = b := ⟨_, rfl⟩
  obtain ⟨out, eout⟩ : ∃ b, w.heap.size + 1 = b := ⟨_, rfl⟩
  rw [eout] at kO ⊢
  rw [eob] at kB ⊢
  have o1 : ob < out := by omega
  have o2 : w.heap.size ≤ ob := by omega
  have o3 : out < V.heap.size := by omega
  clear hV eob eout
  refine (Sort_n ao cap n L V (HP.out.of bV.out) HLN.out hn4).mono ?_
  rintro e V2 ⟨v, S, rfl, nl, asc, mem, len, hb⟩
  obtain ⟨so, sc, e, hsc1, hsc2, _⟩ := nl.val
  rw [len] at e hsc1
  subst e
  have NS := Lib.hid nl
  have ASC := Lib.hid asc
  have MEM := Lib.hid mem
  have LEN := Lib.hid len
  have kB2 := Lib.hid (kB.out.of hb)
  have kO2 := Lib.hid (kO.out.of hb)
  have b2 := Lib.hid (bV.out.trans (hb.mono bV.out.size))
  have hs2 := hb.size
  clear nl asc mem len hb kB kO bV
  gi_wp2_with fail
  refine ⟨trivial, callsIn_wide.2 ?_⟩
  refine (Runs_is so n sc ob V2).mono ?_
  rintro e V3 ⟨rfl, k1, k2, hb⟩
  have K1 := Lib.hid k1
  have K2 := Lib.hid k2
  have kB3 := Lib.hid (kB2.out.of hb)
  have kO3 := Lib.hid (kO2.out.of hb)
  have NS3 := Lib.hid (NS.out.of hb)
  have b3 := Lib.hid (b2.out.trans (hb.mono b2.out.size))
  have hs3 := k2.lt
  obtain ⟨rb, erb⟩ : ∃ b, V2.heap.size = b := ⟨_, rfl⟩
  obtain ⟨rs, ers⟩ : ∃ b, V2.heap.size + 1 = b := ⟨_, rfl⟩
  rw [ers] at K2 ⊢
  rw [erb] at K1 ⊢
  have o4 : out < rb := by omega
  have o5 : rb < rs := by omega
  have o6 : rs < V3.heap.size := by omega
  clear hb k1 k2 kB2 kO2 b2 erb ers hs3 NS
  gi_wp2_with fail
  obtain ⟨N, hN⟩ : ∃ N, (dd S).length = N := ⟨_, rfl⟩
  have HNN := Lib.hid hN
  have hN4 : N ≤ 40000 := by have := dd_len S; rw [hN, LEN.out] at this; omega
  have hT := Runs1_tells rb rs ob n sc so S LEN.out hn4 (V3.heap.size + 2)
  rw [hN] at hT
  clear hN
  have stF : ∀ W W', Fr V3 W (fun b => b = out) → Below V3.heap.size W W' → Blk W out #[.slice none 0 0] 29 → True := fun _ _ _ _ _ => trivial
  refine wpIn_rangeV (m := 1) (gf := 97) (lb := #[ptr rb 0, ptr rs 0]) (N := N) (E := rnE (V3.heap.size + 2) S) (Kp := RnK rb rs ob n sc so S) rfl (fun args w => by go_simp) hT rfl
    (fun G k W => ∃ v, Blk W out #[v] 29 ∧ NL W (V3.heap.size + 2) v ((dd S).take k) ∧ Fr V3 W (fun b => b = out) ∧ ∀ g, G g ↔ v.ownBlock = some g)
    (fun _ _ _ => False) ?hg ?stable (fun _ _ _ _ h _ => h.elim) ?keeps ?start ?round ?done (fun _ _ _ _ _ h _ => h.elim)
  case hg =>
    rintro G k W ⟨v, j1, j2, j3, j4⟩ g hg
    exact j2.own ((j4 g).1 hg)
  case stable =>
    rintro G k W W' ⟨v, j1, j2, j3, j4⟩ ⟨hbl, hbg⟩
    exact ⟨v, j1.below hbl (by omega), j2.keep fun g hg => hbg g ((j4 g).2 hg) (j2.own hg).2, j3.trans (S' := fun b => V3.heap.size ≤ b) ⟨hbl.os, hbl.tape, hbl.output, hbl.size, fun k _ hk => hbl.block k (by omega)⟩ (fun _ h => .inr h), j4⟩
  case keeps =>
    rintro G k W ⟨v, j1, j2, j3, j4⟩
    refine ⟨j3.blk K1.out (by omega), j3.blk K2.out (by omega), j3.blk kB3.out (by omega), ?_⟩
    have hk := NS3.out.keep fun g hg => j3.block g (NS3.out.own hg).2 (by have := (NS3.out.own hg).1; omega)
    obtain ⟨ao', c', e, hns⟩ := Ns.ofNL hk
    injection e with e1 e2 e3
    rw [e1, e3]; exact hns
  case start => exact ⟨_, kO3.out, NL.none, ⟨rfl, rfl, rfl, Nat.le_refl _, fun _ _ _ => rfl⟩, fun g => ⟨fun h => h.elim, fun h => by cases h⟩⟩
  case round =>
    rintro l2 D2 k ve G W2 hk ⟨v, j1, j2, j3, j4⟩ hE g1 g2 g3 g4
    obtain ⟨M, hnm, hm0, hkN⟩ := hE
    obtain ⟨x, hx⟩ : ∃ x, (dd S)[k]? = some x := ⟨_, List.getElem?_eq_getElem hkN⟩
    rw [hx] at hm0
    have hM0 : 0 < M.length := (List.getElem?_eq_some_iff.1 hm0).1
    obtain ⟨mo, mc, e, hmc1, hmc2, hmp⟩ := hnm.val
    obtain ⟨mg, rfl, hmB, hmg, hmcell⟩ := hmp hM0
    subst e
    have q0 := hmcell 0 x hm0
    obtain ⟨ml, hml⟩ : ∃ l, M.length = l := ⟨_, rfl⟩
    rw [hml] at hM0 hmc1 ⊢
    have JJ := Lib.hid (And.intro j1 (And.intro j2 (And.intro j3 j4)))
    have HX := Lib.hid hx
    have Q0 := Lib.hid q0
    clear j1 j2 j3 j4 hx hnm hm0 hkN hmp hmcell q0 hml hT
    gi_wp2_with fail
    refine ⟨⟨Fix2.of (OutL.refl [] _) g3 g4 (by simp) (by simp), AboveX.refl _ _ _⟩, ?_⟩
    intro W3 hW3
    obtain ⟨j1, j2, j3, j4⟩ := JJ.out
    have hs3w := hW3.size
    have kOw : Blk W3 out #[v] 29 := j1.outl hW3 (by simp; omega)
    have nlw : NL W3 (V3.heap.size + 2) v ((dd S).take k) := j2.keep fun g hg => hW3.block g (j2.own hg).2 (by have := (j2.own hg).1; simp; omega)
    have q0 : W3.cell? ⟨mg, 0, none⟩ = some (.int .i64 (x : Nat)) := (World.cell?_of_block (w := W2) (a := ⟨mg, 0, none⟩) (hW3.block mg hmg (by simp; omega))).trans Q0.out
    have hmw : mg < W3.heap.size := by omega
    have FF := Lib.hid (j3.trans (S' := fun b => V3.heap.size ≤ b) ⟨hW3.os, hW3.tape, hW3.output, hW3.size, fun g hg hn => hW3.block g hg (by simp; omega)⟩ (fun _ h => .inr h))
    have KOW := Lib.hid kOw
    have NLW := Lib.hid nlw
    have J4 := Lib.hid j4
    have x0 := kOw.cell 0
    have f0 := kOw.free 0
    have l0 := kOw.lt
    simp only [List.getElem?_toArray, List.getElem?_cons_zero] at x0
    have hlk : ((dd S).take k).length = k := by rw [List.length_take, HNN.out]; omega
    have hszb : V3.heap.size + 2 ≤ W3.heap.size := by omega
    obtain ⟨vo, vc, hv, _⟩ := nlw.val
    rw [hlk] at hv
    subst hv
    clear j1 j2 j3 j4 kOw nlw JJ Q0
    gi_wp2_with fail
    refine wpIn_region_up W3.heap.size 5 [(true, 0), (true, 1), (true, 2), (true, 3), (false, 4)] (by kernel_rfl) (by kernel_rfl) (by kernel_rfl) (fun _ _ h => h) (fun _ _ d _ _ h => by cases d <;> exact h) ?_
    have hb : Below W3.heap.size W3 W3.drew := (Below.refl _ _).drew
    iterate 4
      refine wpS_takeL rfl rfl ?_
      go_big_quiet_step (rfl)
      refine wpQuiet_nil ?_
    refine wpS_doL rfl ?_
    intro K hK
    go_wp2_with (fail)
    replace hb : Below W3.heap.size W3 (W3.alloc (.cells #[.int .i64 (x : Nat)] 3)).drew := (below_a1 W3 _).drew ; have hn : Below (W3.alloc (.cells #[.int .i64 (x : Nat)] 3)).drew.heap.size (W3.alloc (.cells #[.int .i64 (x : Nat)] 3)).drew (W3.alloc (.cells #[.int .i64 (x : Nat)] 3)).drew := Below.refl _ _
    replace hb := hb.trans (hn.mono hb.size)
    refine hK.out _ _ (up_iff.2 hb) ?_
    clear hK K
    clear hn
    refine wpS_nil ?_
    simp only [List.drop_succ_cons, List.drop_zero]
    obtain ⟨Wb, hWb⟩ : ∃ W, (W3.alloc (.cells #[.int .i64 (x : Nat)] 3)).drew = W := ⟨_, rfl⟩
    have kx : Blk Wb W3.heap.size #[.int .i64 (x : Nat)] 3 := by rw [← hWb]; exact drewB (Blk.new W3 _ _)
    rw [hWb] at hb ⊢
    have hsb : Wb.heap.size = W3.heap.size + 1 := by rw [← hWb]; simp
    have HB := Lib.hid hb
    have nlb := NLW.out.of hb
    have hown : Wb.ownsRow (V3.heap.size + 2) 3 1 (.slice vo k vc) k (nI ((dd S).take k)) := by
      have h1 : Wb.ownsRow (V3.heap.size + 2) 3 1 (.slice vo k vc) ((dd S).take k).length (nI ((dd S).take k)) := nlb
      rw [hlk] at h1; exact h1
    clear hWb hb nlb
    refine wpList_append_own_at _ rfl _ _ 29 rfl (V3.heap.size + 2) 3 i0 (.int .i64 0) 1 8 Try.underlying29 hi hz0 hz1 hz2 rfl (by decide) (.slice vo k vc) k (nI ((dd S).take k)) rfl hown ⟨W3.heap.size, 0, none⟩ 1 1 [.int .i64 (x : Nat)] rfl rfl (int_src kx) (int_one _) (by unfold maxLen; omega) (by omega) (by omega) ?_
    intro v1 w1 own1 gr1 _ hat
    obtain ⟨aa, ll, cc, hv1⟩ : ∃ aa ll cc, v1 = .slice aa ll cc := by rcases own1.2 with ⟨e, _⟩ | ⟨g, cap, cur, e, _⟩ <;> exact ⟨_, _, _, e⟩
    subst hv1
    have hown2 : ∀ g, (Value.slice vo k vc).ownBlock = some g → V3.heap.size + 2 ≤ g := fun g hg => (World.ownsRow.lt hown g hg).1
    have hW1 : ∀ g, g < W3.heap.size → (Value.slice vo k vc).ownBlock ≠ some g → w1.heap[g]? = W3.heap[g]? := fun g h1 h2 => (gr1.block g (by omega) (fun e => h2 e.symm)).trans (HB.out.block g h1)
    have hWf : ∀ g, g ≠ out → (w1.setCell ⟨out, 0, none⟩ (.slice aa ll cc)).heap[g]? = w1.heap[g]? := fun g h => Below.heap_setCell w1 ⟨out, 0, none⟩ (.slice aa ll cc) g h
    have hss : W3.heap.size ≤ w1.heap.size := by have := gr1.size; omega
    have hsf : (w1.setCell ⟨out, 0, none⟩ (.slice aa ll cc)).heap.size = w1.heap.size := by simp [World.setCell]
    have nO : ∀ g, g < V3.heap.size + 2 → (Value.slice vo k vc).ownBlock ≠ some g := fun g h e => by have := hown2 g e; omega
    have KO1 : Blk w1 out #[.slice vo k vc] 29 := (hW1 out l0 (nO _ (by omega))).trans KOW.out
    have x1 := KO1.cell 0
    have f1 := KO1.free 0
    have l1 := KO1.lt
    simp only [List.getElem?_toArray, List.getElem?_cons_zero] at x1
    have GG : Hid ((Fix2 l2 D2 W3 (w1.setCell ⟨out, 0, none⟩ (.slice aa ll cc)) ∧ ∃ G' : Nat → Prop, (∀ g, G' g → G g ∨ W3.heap.size ≤ g) ∧ ∃ v, Blk (w1.setCell ⟨out, 0, none⟩ (.slice aa ll cc)) out #[v] 29 ∧ NL (w1.setCell ⟨out, 0, none⟩ (.slice aa ll cc)) (V3.heap.size + 2) v ((dd S).take (k + 1)) ∧ Fr V3 (w1.setCell ⟨out, 0, none⟩ (.slice aa ll cc)) (fun b => b = out) ∧ ∀ g, G' g ↔ v.ownBlock = some g) ∧ AboveX (V3.heap.size + 2) G W3 (w1.setCell ⟨out, 0, none⟩ (.slice aa ll cc))) := by
      have fx : ∀ g, g < W3.heap.size → (Value.slice vo k vc).ownBlock ≠ some g → g ≠ out → (w1.setCell ⟨out, 0, none⟩ (.slice aa ll cc)).heap[g]? = W3.heap[g]? := fun g h1 h2 h3 => (hWf g h3).trans (hW1 g h1 h2)
      refine Lib.hid ⟨⟨⟨fx l2 (by omega) (nO _ (by omega)) (by omega), fx D2 (by omega) (nO _ (by omega)) (by omega)⟩, fun g => (Value.slice aa ll cc).ownBlock = some g, fun g hg => ?_, .slice aa ll cc, KO1.put 0 (.slice aa ll cc), ?_, ?_, fun g => Iff.rfl⟩, ?_⟩
      · rcases hat with e | e
        · exact .inl ((J4.out g).2 (by rw [← e]; exact hg))
        · rw [e] at hg; injection hg with hg; exact .inr (by omega)
      · have h1 : NL w1 (V3.heap.size + 2) (.slice aa ll cc) ((dd S).take (k + 1)) := by
          have e : (dd S).take (k + 1) = (dd S).take k ++ [x] := by rw [List.take_add_one, HX.out]; rfl
          unfold NL
          rw [e, List.length_append, List.map_append, hlk]; exact own1
        exact h1.keep fun g hg => hWf g (by have := (h1.own hg).1; omega)
      · exact FF.out.trans (S' := fun b => b = out ∨ V3.heap.size ≤ b) ⟨gr1.os.trans HB.out.os, gr1.tape.trans HB.out.tape, gr1.output.trans HB.out.output, by omega, fun g hg hn => fx g hg (fun e => hn (.inr (by have := hown2 g e; omega))) (fun e => hn (.inl e))⟩ (fun _ h => h)
      · exact ⟨by omega, fun g h1 h2 h3 => fx g h2 (fun e => h3 ((J4.out g).2 e)) (by omega)⟩
    clear own1 gr1 hat hown hW1 hWf KO1 x0 f0 q0
    go_wp2
    exact GG.out
  case done =>
    rintro Dd G V5 g1 ⟨v, j1, j2, j3, j4⟩ hD
    have c0 := j1.cell 0
    simp only [List.getElem?_toArray, List.getElem?_cons_zero] at c0
    rw [← HNN.out, List.take_length] at j2
    have l0 := j1.lt
    have JJ := Lib.hid (And.intro j2 (b3.out.trans (j3.below (B := w.heap.size) b3.out.size (fun k h => by omega))))
    have hsz5 := j3.size
    clear j1 j2 j3 j4
    gi_wp2
    refine ⟨by simp, .inl ⟨_, _, rfl, run_takeDeferred hD, ?_⟩⟩
    simp only [LeavesInM, LeavesIn]
    refine ⟨v, by simp [results, Try.results65, go_sem], v, dd S, rfl, ?_, dd_up S ASC.out, fun z => (dd_mem S z).trans (MEM.out z), ?_⟩
    · exact (JJ.out.1.keep fun g hg => World.putObj_heap_other (by have := (JJ.out.1.own hg).1; omega)).low2 (by omega)
    · exact JJ.out.2.trans ((putObj_out V5 Dd _).below (by omega) (by simp; omega))
end Go.Proofs.Ytdlpfiiakmhnlaa

namespace Go.Proofs.Ytdlpfiiakmhnlaa
open Go.RowKit Go.Shelf
attribute [local go_sem] Oper.semAt_some undef

theorem Edges_is (t : Nat) (w : World) :
    Calls Try.prog 28 #[ptr t 0] w fun e w' => e = .returned (.func (.func 64) #[] #[ptr w.heap.size 0]) ∧ Blk w' w.heap.size #[ptr t 0] 25 ∧ Below w.heap.size w w' := by
  go_enter Try.func28, Try.ntmps28
  go_wp2
  go_ret
  exact ⟨rfl, Blk.new _ _ _, below_a1 _ _⟩
theorem Once_n (ao : Option Addr) (cap n N : Nat) (Lr : List (Nat × Nat)) (w : World) (h : Ns w ao cap (ends Lr)) (hl : (ends Lr).length = n) (hn4 : n ≤ 40000) (hd : ∀ z, z ∈ ends Lr → z < N) :
    Calls Try.prog 65 #[.slice ao n cap, cmpF] w fun e w' => ∃ v, e = .returned v ∧ NL w' w.heap.size v (onc N Lr) ∧ Below w.heap.size w w' := by
  refine (Once_is ao cap n (ends Lr) w h hl hn4).mono ?_
  rintro e w' ⟨v, R, he, h1, h2, h3, h4⟩
  rw [onc_eq h2 h3 hd] at h1
  exact ⟨v, he, h1, h4⟩
theorem yield_wide {m m' l : Nat} {P : Program} {args : Array Value} {W : World} {R : Ending → World → Prop} (h : YieldAt Fence.wide m P l args W R) : YieldAt Fence.wide m' P l args W R := by
  obtain ⟨fn, tmps, assign, body, hy, hR⟩ := h
  exact ⟨fn, tmps, assign, body, hy, hR.1, fun c cs _ => hR.2 c cs (fun d h => by cases h)⟩
set_option maxRecDepth 100000 in
set_option maxHeartbeats 4000000 in
theorem Edges1_any (m lid bs t B : Nat) (D : SD) (N : Nat) (X Y : Nat → Int) (O : Nat → List (Nat × Nat)) (n : Int) (L : List (Nat × Nat)) (hL : preE N O N = L) (I : (Nat → Prop) → Nat → World → Prop) (Ix : Nat → World → Prop)
    (hm : ∀ G k W, I G k W → Blk W bs #[ptr t 0] 25 ∧ SM W t D N X Y O n) (hG : ∀ G k W, I G k W → ∀ g, G g → B ≤ g ∧ g < W.heap.size) (hst : ∀ G k W W', I G k W → BelowX B G W W' → I G k W') (hxst : ∀ k W W', Ix k W → Below B W W' → Ix k W')
    (hY : ∀ G k W, k < L.length → I G k W → YieldAt Fence.wide m Try.prog lid (edE L k) W fun e W' => ((e = .returned (.bool true) ∧ ∃ G', (∀ g, G' g → G g ∨ W.heap.size ≤ g) ∧ I G' (k + 1) W') ∨ (e = .returned (.bool false) ∧ Ix (k + 1) W')) ∧ AboveX B G W W')
    (W : World) (hB : B ≤ W.heap.size) (h0 : I (fun _ => False) 0 W) :
    CallsIn Fence.wide (m + 1) Try.prog 64 #[.func (.yield lid) #[] #[], ptr bs 0] W fun e W' => (∃ v, e = .returned v) ∧ ((∃ G, I G L.length W') ∨ ∃ k, k ≤ L.length ∧ Ix k W') := by
  refine callsIn_wide.2 ((callsIn_wide (n := 3)).1 ?_)
  refine callsIn_of_wp_marks Try.func64 rfl trivial ?_ rfl
  simp only [Try.ntmps64, List.size_toArray, List.length_cons, List.length_nil, Nat.reduceAdd, Nat.reduceSub, Array.replicate_succ, Array.replicate_zero, List.push_toArray, List.append_toArray, List.nil_append, List.cons_append]
  obtain ⟨ks, hM⟩ := hm _ 0 W h0
  have b0 := ks.cell 0
  simp only [List.getElem?_toArray, List.getElem?_cons_zero] at b0
  obtain ⟨c0, _, _⟩ := hM.c
  have hsm := hM.small
  have hcl := hM.pts.capl
  have hcb := hM.pts.capb
  have H0 := Lib.hid h0
  have HL := Lib.hid hL
  have HH := Lib.hid (And.intro hm (And.intro hst (And.intro hxst (And.intro hY hG))))
  clear hm hG hst hxst hY h0 hL ks hM
  gi_wp2_with fail
  obtain ⟨y, hy⟩ : ∃ y, W.heap.size = y := ⟨_, rfl⟩
  rw [hy] at hB
  have hyW : y ≤ W.heap.size := by omega
  clear hy b0 c0 hcl hcb
  refine wpIn_loop_ghost_k (fun gk act wr => ∃ (u2 u3 u4 u5 u6 u7 u8 u15 u16 u17 u18 u19 u20 u21 u22 u23 u24 u25 u26 u27 u28 u29 u30 u31 u32 u33 u34 u35 u36 u37 u38 u39 u40 u41 u42 u43 u44 u45 : Value) (ds : List Deferred) (a : Nat) (G0 : Nat → Prop), (a ≤ N ∧ N - a ≤ gk ∧ Hid (I G0 (posE N O a 0) wr ∧ ∀ d, d ∈ ds → ∀ r, d.target = .collected r → ¬ G0 r) ∧ y ≤ wr.heap.size ∧ Hid (Marks y wr ds)) ∧ act = { tmps := #[.func (.yield lid) #[] #[], ptr bs 0, u2, u3, u4, u5, u6, u7, u8, ptr t 0, ptr t 0, .pointer (some ⟨t, 0, none⟩), .slice D.po N D.pc, .int .i64 (N : Nat), .int .i64 (a : Nat), u15, u16, u17, u18, u19, u20, u21, u22, u23, u24, u25, u26, u27, u28, u29, u30, u31, u32, u33, u34, u35, u36, u37, u38, u39, u40, u41, u42, u43, u44, u45], defers := ds }) N ⟨_, _, _, _, _, _, _, _, _, _, _, _, _, _, _, _, _, _, _, _, _, _, _, _, _, _, _, _, _, _, _, _, _, _, _, _, _, _, [], 0, _, ⟨Nat.zero_le _, Nat.le_refl _, Lib.hid ⟨H0.out, fun d hd => by cases hd⟩, hyW, Lib.hid trivial⟩, rfl⟩ ?_
  intro gk act wr hinv J K hJ hK
  obtain ⟨u2, u3, u4, u5, u6, u7, u8, u15, u16, u17, u18, u19, u20, u21, u22, u23, u24, u25, u26, u27, u28, u29, u30, u31, u32, u33, u34, u35, u36, u37, u38, u39, u40, u41, u42, u43, u44, u45, ds, a, G0, ⟨ha, hga, HI, hyw, HM⟩, rfl⟩ := hinv
  clear H0 hyW
  by_cases haN : a < N
  · obtain ⟨ks, hM⟩ := HH.out.1 _ _ wr HI.out.1
    have HG0 := Lib.hid (HH.out.2.2.2.2 _ _ _ HI.out.1)
    have SM0 := Lib.hid hM
    have KS0 := Lib.hid ks
    have b0 := ks.cell 0
    simp only [List.getElem?_toArray, List.getElem?_cons_zero] at b0
    have lbw := ks.lt
    clear ks hM
    gi_wp2_with fail
    refine ⟨trivial, callsIn_wide.2 ?_⟩
    refine calls_w ?_
    intro V1 hV1
    have kE : Hid (Blk V1 wr.heap.size #[.slice none 0 0] 29) := by rw [hV1]; exact Lib.hid (Blk.new wr _ _)
    have hb1 : Below wr.heap.size wr V1 := by rw [hV1]; exact below_a1 _ _
    have hs1 : V1.heap.size = wr.heap.size + 1 := by rw [hV1]; simp
    obtain ⟨eb, eeb⟩ : ∃ b, wr.heap.size = b := ⟨_, rfl⟩
    rw [eeb] at kE ⊢
    clear hV1 b0
    refine (Around_is t a V1).mono ?_
    rintro e V2 ⟨rfl, kcs, kca, hb2⟩
    have hs2 := kca.lt
    have kE2 := Lib.hid (kE.out.of hb2)
    have hb02 := hb1.trans (hb2.mono hb1.size)
    have B02 := Lib.hid hb02
    obtain ⟨cs, ecs⟩ : ∃ b, V1.heap.size = b := ⟨_, rfl⟩
    obtain ⟨ca, eca⟩ : ∃ b, V1.heap.size + 1 = b := ⟨_, rfl⟩
    rw [eca] at kca ⊢
    rw [ecs] at kcs ⊢
    have o1 : eb < cs := by omega
    have o2 : cs < ca := by omega
    have o3 : ca < V2.heap.size := by omega
    have o4 : y ≤ eb := by omega
    have o5 : B ≤ eb := by omega
    have KC := Lib.hid (And.intro kcs kca)
    clear kcs kca hb1 hb2 hb02 kE ecs eca hs1
    gi_wp2_with fail
    obtain ⟨len, hlen⟩ : ∃ l, (O a).length = l := ⟨_, rfl⟩
    have HLEN := Lib.hid hlen
    have hlen4 : len ≤ 4096 := by
      have h1 := sort_len (SM0.out.sort a haN) fun x hx => (SM0.out.dom a haN x hx).1
      omega
    have hrow : rowO N O (a : Int) = O a := by unfold rowO; rw [if_pos (by omega)]; rfl
    have hT := Around1_tells cs ca t D N X Y O n a (O a) hrow (V2.heap.size + 2)
    rw [hlen] at hT
    obtain ⟨i0, hi, hz0, hz1, hz2⟩ := info_parts info_int
    clear hlen hrow
    refine wpIn_rangeX (m := 1) (gf := 67) (lb := #[ptr cs 0, ptr ca 0]) (N := len) (encs := arE (O a)) (Kp := fun W => Blk W cs #[ptr t 0] 25 ∧ Blk W ca #[.int .i64 (a : Nat)] 3 ∧ SM W t D N X Y O n) rfl (fun args w => by go_simp) hT (fun _ => rfl)
      (fun G k W => ∃ v, Blk W eb #[v] 29 ∧ NL W (V2.heap.size + 2) v (ends ((O a).take k)) ∧ Fr V2 W (fun b => b = eb) ∧ ∀ g, G g ↔ v.ownBlock = some g)
      (fun _ _ _ => False) ?hg ?stable (fun _ _ _ _ h _ => h.elim) ?keeps ?start ?round ?done (fun _ _ _ _ _ h _ => h.elim)
    case hg =>
      rintro G k W ⟨v, j1, j2, j3, j4⟩ g hg
      exact j2.own ((j4 g).1 hg)
    case stable =>
      rintro G k W W' ⟨v, j1, j2, j3, j4⟩ ⟨hbl, hbg⟩
      exact ⟨v, j1.below hbl (by omega), j2.keep fun g hg => hbg g ((j4 g).2 hg) (j2.own hg).2, j3.trans (S' := fun b => V2.heap.size ≤ b) ⟨hbl.os, hbl.tape, hbl.output, hbl.size, fun k _ hk => hbl.block k (by omega)⟩ (fun _ h => .inr h), j4⟩
    case keeps =>
      rintro G k W ⟨v, j1, j2, j3, j4⟩
      refine ⟨j3.blk KC.out.1 (by omega), j3.blk KC.out.2 (by omega), SM0.out.of (B02.out.trans ⟨j3.os, j3.tape, j3.output, by have := j3.size; have := B02.out.size; omega, fun k hk => ?_⟩)⟩
      exact j3.block k (by have := B02.out.size; omega) (by omega)
    case start => exact ⟨_, kE2.out, NL.none, ⟨rfl, rfl, rfl, Nat.le_refl _, fun _ _ _ => rfl⟩, fun g => ⟨fun h => h.elim, fun h => by cases h⟩⟩
    case round =>
      rintro l2 D2 k G W2 hk ⟨v, j1, j2, j3, j4⟩ g1 g2 g3 g4
      obtain ⟨⟨xb, xc⟩, hx⟩ : ∃ x, (O a)[k]? = some x := ⟨_, List.getElem?_eq_getElem (show k < (O a).length by rw [HLEN.out]; exact hk)⟩
      have hE : arE (O a) k = #[.int .i64 (xb : Nat), .int .i64 (xc : Nat)] := by unfold arE; rw [List.getD_eq_getElem?_getD, hx]; rfl
      rw [hE]
      have HX := Lib.hid hx
      have JJ := Lib.hid (And.intro j1 (And.intro j2 (And.intro j3 j4)))
      clear j1 j2 j3 j4 hx hE hT
      gi_wp2_with fail
      refine ⟨⟨Fix2.of (OutL.refl [] _) g3 g4 (by simp) (by simp), AboveX.refl _ _ _⟩, ?_⟩
      intro W3 hW3
      obtain ⟨j1, j2, j3, j4⟩ := JJ.out
      have hs3w := hW3.size
      have kOw : Blk W3 eb #[v] 29 := j1.outl hW3 (by simp; omega)
      have nlw : NL W3 (V2.heap.size + 2) v (ends ((O a).take k)) := j2.keep fun g hg => hW3.block g (j2.own hg).2 (by have := (j2.own hg).1; simp; omega)
      have FF := Lib.hid (j3.trans (S' := fun b => V2.heap.size ≤ b) ⟨hW3.os, hW3.tape, hW3.output, hW3.size, fun g hg hn => hW3.block g hg (by simp; omega)⟩ (fun _ h => .inr h))
      have KOW := Lib.hid kOw
      have J4 := Lib.hid j4
      have x0 := kOw.cell 0
      have f0 := kOw.free 0
      have l0 := kOw.lt
      simp only [List.getElem?_toArray, List.getElem?_cons_zero] at x0
      have hlk : (ends ((O a).take k)).length = 2 * k := by rw [ends_len, List.length_take, HLEN.out]; omega
      have hszb : V2.heap.size + 2 ≤ W3.heap.size := by omega
      have hown : W3.ownsRow (V2.heap.size + 2) 3 1 v (2 * k) (nI (ends ((O a).take k))) := by
        have h1 : W3.ownsRow (V2.heap.size + 2) 3 1 v (ends ((O a).take k)).length (nI (ends ((O a).take k))) := nlw
        rw [hlk] at h1; exact h1
      have hownA := own_belowT hown (below_a1 W3 (.cells #[.int .i64 (xb : Nat), .int .i64 (xc : Nat)] 3))
      have hn2 : ∀ j u, [Value.int .i64 (xb : Nat), .int .i64 (xc : Nat)][j]? = some u → (W3.alloc (.cells #[.int .i64 (xb : Nat), .int .i64 (xc : Nat)] 3)).cell? ((⟨W3.heap.size, 0, none⟩ : Addr).add j) = some u := by
        intro j u hj
        match j, hj with
        | 0, hj => simp at hj; subst hj; exact (Blk.new W3 _ _).cell 0
        | 1, hj => simp at hj; subst hj; exact (Blk.new W3 _ _).cell 1
        | j + 2, hj => simp at hj
      have ho1 : ∀ u ∈ [Value.int .i64 (xb : Nat), .int .i64 (xc : Nat)], u.oneCell' = true := by intro u hu; simp at hu; rcases hu with rfl | rfl <;> rfl
      have hb63 : 2 * k + 2 ≤ maxLen := by unfold maxLen; omega
      have hb64 : (2 * k + 2) * 8 ≤ 140737488355328 := by omega
      have hbs : V2.heap.size + 2 ≤ (W3.alloc (.cells #[.int .i64 (xb : Nat), .int .i64 (xc : Nat)] 3)).heap.size := by simp; omega
      clear j1 j2 j3 j4 kOw nlw JJ hown
      gi_wp2_with (gi_at_builtin; go_loud (refine wpListIn_append_own_at _ rfl _ _ 29 rfl (V2.heap.size + 2) 3 i0 (.int .i64 0) 1 8 Try.underlying29 hi hz0 hz1 hz2 rfl (by decide) v (2 * k) (nI (ends ((O a).take k))) rfl hownA ⟨W3.heap.size, 0, none⟩ 2 2 [.int .i64 (xb : Nat), .int .i64 (xc : Nat)] rfl rfl hn2 ho1 hb63 hb64 hbs ?_))
      intro v1 w1 own1 gr1 _ hat
      obtain ⟨aa, ll, cc, hv1⟩ : ∃ aa ll cc, v1 = .slice aa ll cc := by rcases own1.2 with ⟨e, _⟩ | ⟨g, cap, cur, e, _⟩ <;> exact ⟨_, _, _, e⟩
      subst hv1
      have hsa : (W3.alloc (.cells #[.int .i64 (xb : Nat), .int .i64 (xc : Nat)] 3)).heap.size = W3.heap.size + 1 := by simp
      have hown2 : ∀ g, v.ownBlock = some g → V2.heap.size + 2 ≤ g := fun g hg => (World.ownsRow.lt hownA g hg).1
      have hW1 : ∀ g, g < W3.heap.size → v.ownBlock ≠ some g → w1.heap[g]? = W3.heap[g]? := fun g h1 h2 => (gr1.block g (by omega) (fun e => h2 e.symm)).trans ((below_a1 W3 _).block g h1)
      have hWf : ∀ g, g ≠ eb → (w1.setCell ⟨eb, 0, none⟩ (.slice aa ll cc)).heap[g]? = w1.heap[g]? := fun g h => Below.heap_setCell w1 ⟨eb, 0, none⟩ (.slice aa ll cc) g h
      have hss : W3.heap.size ≤ w1.heap.size := by have := gr1.size; omega
      have hsf : (w1.setCell ⟨eb, 0, none⟩ (.slice aa ll cc)).heap.size = w1.heap.size := by simp [World.setCell]
      have nO : ∀ g, g < V2.heap.size + 2 → v.ownBlock ≠ some g := fun g h e => by have := hown2 g e; omega
      have KO1 : Blk w1 eb #[v] 29 := (hW1 eb l0 (nO _ (by omega))).trans KOW.out
      have x1 := KO1.cell 0
      have f1 := KO1.free 0
      have l1 := KO1.lt
      simp only [List.getElem?_toArray, List.getElem?_cons_zero] at x1
      have GG : Hid ((Fix2 l2 D2 W3 (w1.setCell ⟨eb, 0, none⟩ (.slice aa ll cc)) ∧ ∃ G' : Nat → Prop, (∀ g, G' g → G g ∨ W3.heap.size ≤ g) ∧ ∃ v, Blk (w1.setCell ⟨eb, 0, none⟩ (.slice aa ll cc)) eb #[v] 29 ∧ NL (w1.setCell ⟨eb, 0, none⟩ (.slice aa ll cc)) (V2.heap.size + 2) v (ends ((O a).take (k + 1))) ∧ Fr V2 (w1.setCell ⟨eb, 0, none⟩ (.slice aa ll cc)) (fun b => b = eb) ∧ ∀ g, G' g ↔ v.ownBlock = some g) ∧ AboveX (V2.heap.size + 2) G W3 (w1.setCell ⟨eb, 0, none⟩ (.slice aa ll cc))) := by
        have fx : ∀ g, g < W3.heap.size → v.ownBlock ≠ some g → g ≠ eb → (w1.setCell ⟨eb, 0, none⟩ (.slice aa ll cc)).heap[g]? = W3.heap[g]? := fun g h1 h2 h3 => (hWf g h3).trans (hW1 g h1 h2)
        refine Lib.hid ⟨⟨⟨fx l2 (by omega) (nO _ (by omega)) (by omega), fx D2 (by omega) (nO _ (by omega)) (by omega)⟩, fun g => (Value.slice aa ll cc).ownBlock = some g, fun g hg => ?_, .slice aa ll cc, KO1.put 0 (.slice aa ll cc), ?_, ?_, fun g => Iff.rfl⟩, ?_⟩
        · rcases hat with e | e
          · exact .inl ((J4.out g).2 (by rw [← e]; exact hg))
          · rw [e] at hg; injection hg with hg; exact .inr (by omega)
        · have h1 : NL w1 (V2.heap.size + 2) (.slice aa ll cc) (ends ((O a).take (k + 1))) := by
            have e : ends ((O a).take (k + 1)) = ends ((O a).take k) ++ [xb, xc] := by rw [take_succ' HX.out, ends_app]; rfl
            unfold NL
            rw [e, List.length_append, List.map_append, hlk]; exact own1
          exact h1.keep fun g hg => hWf g (by have := (h1.own hg).1; omega)
        · exact FF.out.trans (S' := fun b => b = eb ∨ V2.heap.size ≤ b) ⟨gr1.os, gr1.tape, gr1.output, by omega, fun g hg hn => fx g hg (fun e => hn (.inr (by have := hown2 g e; omega))) (fun e => hn (.inl e))⟩ (fun _ h => h)
        · exact ⟨by omega, fun g h1 h2 h3 => fx g h2 (fun e => h3 ((J4.out g).2 e)) (by omega)⟩
      clear own1 gr1 hat hownA hW1 hWf KO1 x0 f0 hsa hn2 ho1 hb63 hb64 hbs
      gi_wp2
      exact GG.out
    case done =>
      rintro Dd G V5 g1 ⟨v, j1, j2, j3, j4⟩ hD
      rw [← HLEN.out, List.take_length] at j2
      have hDl := (Array.getElem?_eq_some_iff.1 hD).1
      have hb5 : Below wr.heap.size wr V5 := ⟨j3.os.trans B02.out.os, j3.tape.trans B02.out.tape, j3.output.trans B02.out.output, Nat.le_trans B02.out.size j3.size, fun g hg => (j3.block g (by have := B02.out.size; omega) (by omega)).trans (B02.out.block g hg)⟩
      have w5 : V2.heap.size ≤ V5.heap.size := j3.size
      have w2 := B02.out.size
      have I5 : Hid (I G0 (posE N O a 0) V5) := Lib.hid (HH.out.2.1 _ _ wr V5 HI.out.1 (.all hb5 (by omega)))
      have MK5 : Hid (Marks y V5 ({ target := .collected Dd, args := #[] } :: ds)) := Lib.hid ⟨⟨Dd, rfl, by omega, hD, fun d hd r hr => by have := HM.out.lt d hd r hr; omega⟩, HM.out.keep fun r _ h2 => hb5.block r h2⟩
      have NG5 : Hid (∀ d, d ∈ ({ target := .collected Dd, args := #[] } :: ds : List Deferred) → ∀ r, d.target = .collected r → ¬ G0 r) := Lib.hid fun d hd r hr h => by
        rcases List.mem_cons.1 hd with rfl | hd
        · injection hr with hr
          have := HG0.out r h
          omega
        · exact HI.out.2 d hd r hr h
      have SM5 : Hid (SM V5 t D N X Y O n) := Lib.hid (SM0.out.of hb5)
      obtain ⟨ao, cap, rfl, hns⟩ := Ns.ofNL j2
      have j0 := j1.cell 0
      have j9 := j1.lt
      simp only [List.getElem?_toArray, List.getElem?_cons_zero] at j0
      have HNS := Lib.hid hns
      obtain ⟨dds, hdds⟩ : ∃ x, ({ target := .collected Dd, args := #[] } :: ds : List Deferred) = x := ⟨_, rfl⟩
      rw [hdds] at MK5 NG5 ⊢
      obtain ⟨ne, hne⟩ : ∃ x, (ends (O a)).length = x := ⟨_, rfl⟩
      have HNE := Lib.hid hne
      rw [hne] at j0 j1
      have hne4 : ne ≤ 8192 := by rw [← hne, ends_len]; have := HLEN.out; omega
      clear j2 j3 j4 hns hD hT hb5 hdds hne HM HI KC KS0 B02
      gi_wp2_with fail
      refine ⟨trivial, callsIn_wide.2 ?_⟩
      refine (Once_n ao cap ne N (O a) V5 HNS.out HNE.out (by omega) ?_).mono ?_
      · intro z hz
        unfold ends at hz
        obtain ⟨x, hx, hz⟩ := List.mem_flatMap.1 hz
        have hd := SM0.out.dom a haN x hx
        rcases List.mem_cons.1 hz with rfl | hz
        · exact hd.1
        · rcases List.mem_cons.1 hz with rfl | hz
          · exact hd.2
          · cases hz
      rintro e V6 ⟨v6, rfl, nl6, hb6⟩
      have w6 := hb6.size
      have I6 : Hid (I G0 (posE N O a 0) V6) := Lib.hid (HH.out.2.1 _ _ V5 V6 I5.out (.all hb6 (by omega)))
      have MK6 : Hid (Marks y V6 dds) := Lib.hid (MK5.out.keep fun r _ h2 => hb6.block r h2)
      have MKL := Lib.hid MK5.out.lt
      obtain ⟨ao6, cap6, rfl, hns6⟩ := Ns.ofNL nl6
      have lM : (onc N (O a)).length ≤ 4096 := by
        have h1 : (onc N (O a)).length ≤ (List.range N).length := List.length_filter_le _ _
        rw [List.length_range] at h1; omega
      have hcap6 := hns6.capl
      have hcap6b := hns6.capb
      have NO6 : Hid (∀ g, (Value.slice ao6 (onc N (O a)).length cap6).ownBlock = some g → ¬ G0 g) := Lib.hid fun g hg h => by
        have h1 := (nl6.own hg).1
        have h2 := HG0.out g h
        omega
      have NL6 := Lib.hid nl6
      obtain ⟨EL, hel⟩ : ∃ l, onc N (O a) = l := ⟨_, rfl⟩
      have HEL := Lib.hid hel
      rw [hel] at NL6 NO6 lM hcap6 ⊢
      obtain ⟨M, hM6⟩ : ∃ M, EL.length = M := ⟨_, rfl⟩
      have HML := Lib.hid hM6
      rw [hM6] at NL6 NO6 lM hcap6 ⊢
      have b5 : B ≤ V5.heap.size := by omega
      have y5 : y ≤ V5.heap.size := by omega
      clear hns6 nl6 hel hM6 hb6 I5 MK5 j0 j1 SM5 HNS
      gi_wp2_with fail
      refine wpIn_loop_ghost_k (fun gj act wi => ∃ (p8 p31 p32 p33 p34 p35 p36 p37 p38 p39 p40 p41 p42 p43 p44 : Value) (j : Nat) (G1 : Nat → Prop), (j ≤ M ∧ M - j ≤ gj ∧ Hid (I G1 (posE N O a j) wi) ∧ Hid (∀ d, d ∈ dds → ∀ r, d.target = .collected r → ¬ G1 r) ∧ Hid (NL wi V5.heap.size (.slice ao6 M cap6) EL) ∧ Hid (∀ g, (Value.slice ao6 M cap6).ownBlock = some g → ¬ G1 g) ∧ V5.heap.size ≤ wi.heap.size ∧ Hid (Marks y wi dds)) ∧ act = { tmps := #[.func (.yield lid) #[] #[], ptr bs 0, u2, .int .i64 (a : Nat), .pointer (some ⟨eb, 0, none⟩), u5, u6, u7, p8, ptr t 0, ptr t 0, .pointer (some ⟨t, 0, none⟩), .slice D.po N D.pc, .int .i64 (N : Nat), .int .i64 (a : Nat), .bool true, .int .i64 (a : Nat), ptr t 0, .int .i64 (a : Nat), .func (.func 67) #[] #[ptr cs 0, ptr ca 0], u20, u21, u22, u23, u24, u25, u26, .slice ao ne cap, .slice ao6 M cap6, .int .i64 (M : Nat), .int .i64 (j : Nat), p31, p32, p33, p34, p35, p36, p37, p38, p39, p40, p41, p42, p43, p44, u45], defers := dds }) M ⟨_, _, _, _, _, _, _, _, _, _, _, _, _, _, _, 0, _, ⟨Nat.zero_le _, Nat.le_refl _, I6, NG5, NL6, NO6, w6, MK6⟩, rfl⟩ ?_
      intro gj act wi hinv J2 K2 hJ2 hK2
      obtain ⟨p8, p31, p32, p33, p34, p35, p36, p37, p38, p39, p40, p41, p42, p43, p44, j, G1, ⟨hj, hgj, HI1, HN1, NL1, NO1, hwi, MK1⟩, rfl⟩ := hinv
      clear I6 NL6 NO6 MK6
      by_cases hjM : j < M
      · have HG1 := Lib.hid (HH.out.2.2.2.2 _ _ _ HI1.out)
        obtain ⟨ao', c', e, hns⟩ := Ns.ofNL NL1.out
        injection e with e1 e2 e3
        rw [← e1] at hns
        obtain ⟨g, o, rfl, hg, hcell⟩ := hns.ptr (by have := HML.out; omega)
        obtain ⟨x, hx⟩ : ∃ x, EL[j]? = some x := ⟨_, List.getElem?_eq_getElem (show j < EL.length by rw [HML.out]; exact hjM)⟩
        have x0 := hcell j x hx
        have HX := Lib.hid hx
        clear hns hcell hx e1 e2 e3 c' ao'
        by_cases hc : a < x
        · have c1 : (a : Int) < (x : Int) := by omega
          obtain ⟨hpos, hat⟩ := posE_yes haN (show (onc N (O a))[j]? = some x by rw [HEL.out]; exact HX.out) hc
          have hlt := (List.getElem?_eq_some_iff.1 hat).1
          rw [HL.out] at hat hlt
          have hval : edE L (posE N O a j) = #[.int .i64 (a : Nat), .int .i64 (x : Nat)] := by unfold edE; rw [List.getD_eq_getElem?_getD, hat]; rfl
          obtain ⟨fn, tmps, assign, body, hy, hR2⟩ := yield_wide (m' := 2) (HH.out.2.2.2.1 _ _ wi hlt HI1.out)
          rw [hval] at hy
          have HP := Lib.hid (And.intro hpos hlt)
          clear hpos hat hlt hval
          gi_wp2
          refine hR2.mono ?_
          rintro e W5 ⟨(⟨rfl, G5, hG5, hI5⟩ | ⟨rfl, hx5⟩), hab⟩
          · have sz5 := hab.size
            have hnew : Hid (I G5 (posE N O a (j + 1)) W5) := Lib.hid (by rw [HP.out.1]; exact hI5)
            have hN : Hid (∀ d, d ∈ dds → ∀ r, d.target = .collected r → ¬ G5 r) := Lib.hid fun d hd r hr h => by
              rcases hG5 r h with h1 | h1
              · exact HN1.out d hd r hr h1
              · have := MKL.out d hd r hr; omega
            have hNl : Hid (NL W5 V5.heap.size (.slice (some ⟨g, o, none⟩) M cap6) EL) := Lib.hid (NL1.out.keep fun k hk => hab.block k (by have := (NL1.out.own hk).1; omega) (NL1.out.own hk).2 (NO1.out k hk))
            have hNo : Hid (∀ k, (Value.slice (some ⟨g, o, none⟩) M cap6).ownBlock = some k → ¬ G5 k) := Lib.hid fun k hk h => by
              rcases hG5 k h with h1 | h1
              · exact NO1.out k hk h1
              · have := (NL1.out.own hk).2; omega
            have hmk : Hid (Marks y W5 dds) := Lib.hid (MK1.out.keepD fun d hd r hr h1 h2 => hab.block r (by omega) h2 (HN1.out d hd r hr))
            clear hI5 hG5 hab hy hR2 x0
            gi_wp2
            rw [show ((j : Int) + 1) = ((j + 1 : Nat) : Int) by norm_cast]
            exact ⟨M - (j + 1), by omega, hJ2 _ _ _ ⟨_, _, _, _, _, _, _, _, _, _, _, _, _, _, _, j + 1, _, ⟨hjM, Nat.le_refl _, hnew, hN, hNl, hNo, by omega, hmk⟩, rfl⟩⟩
          · have sz5 := hab.size
            have hmk : Hid (Marks y W5 dds) := Lib.hid (MK1.out.keepD fun d hd r hr h1 h2 => hab.block r (by omega) h2 (HN1.out d hd r hr))
            have HX5 := Lib.hid hx5
            clear hx5 hab hy hR2 x0
            gi_wp2
            refine leaves_marks (B := B) hB (fun _ => False) _ W5 (by omega) hmk.out (fun _ _ _ _ h => h) fun w' hb => ?_
            exact ⟨_, results_none rfl _ _ _, ⟨_, rfl⟩, .inr ⟨_, HP.out.2, HH.out.2.2.1 _ W5 w' HX5.out hb.1⟩⟩
        · have c1 : ¬ (a : Int) < (x : Int) := by omega
          have hpos := posE_no (show (onc N (O a))[j]? = some x by rw [HEL.out]; exact HX.out) hc
          have hnew : Hid (I G1 (posE N O a (j + 1)) wi) := by rw [hpos]; exact HI1
          clear hpos
          gi_wp2
          rw [show ((j : Int) + 1) = ((j + 1 : Nat) : Int) by norm_cast]
          exact ⟨M - (j + 1), by omega, hJ2 _ _ _ ⟨_, _, _, _, _, _, _, _, _, _, _, _, _, _, _, j + 1, _, ⟨hjM, Nat.le_refl _, hnew, HN1, NL1, NO1, hwi, MK1⟩, rfl⟩⟩
      · have hjM2 : j = M := by omega
        have e0 : posE N O (a + 1) 0 = posE N O a j := by rw [posE_0, ← posE_all, HEL.out, HML.out, hjM2]
        have hnew : Hid (I G1 (posE N O (a + 1) 0) wi ∧ ∀ d, d ∈ dds → ∀ r, d.target = .collected r → ¬ G1 r) := Lib.hid ⟨by rw [e0]; exact HI1.out, HN1.out⟩
        clear e0
        gi_wp2
        rw [show ((a : Int) + 1) = ((a + 1 : Nat) : Int) by norm_cast]
        exact ⟨N - (a + 1), by omega, hJ _ _ _ ⟨_, _, _, _, _, _, _, _, _, _, _, _, _, _, _, _, _, _, _, _, _, _, _, _, _, _, _, _, _, _, _, _, _, _, _, _, _, _, _, a + 1, _, ⟨haN, Nat.le_refl _, hnew, by omega, MK1⟩, rfl⟩⟩
  · have haN2 : a = N := by omega
    have e0 : posE N O a 0 = L.length := by rw [posE_0, haN2, HL.out]
    have HF := Lib.hid (show I G0 L.length wr by rw [← e0]; exact HI.out.1)
    clear e0
    have HNG := Lib.hid HI.out.2
    clear HI
    gi_wp2
    refine leaves_marks (B := B) hB G0 ds wr (by omega) HM.out HNG.out fun w' hb => ?_
    exact ⟨_, results_none rfl _ _ _, ⟨_, rfl⟩, .inl ⟨_, HH.out.2.1 _ _ wr w' HF.out hb⟩⟩
theorem Edges1_tells (bs t : Nat) (D : SD) (N : Nat) (X Y : Nat → Int) (O : Nat → List (Nat × Nat)) (n : Int) (L : List (Nat × Nat)) (hL : preE N O N = L) (B : Nat) :
    TellsX Try.prog 64 #[ptr bs 0] L.length (edE L) B (fun W => Blk W bs #[ptr t 0] 25 ∧ SM W t D N X Y O n) :=
  fun m lid I Ix hK hG hst hxst hY W hB h0 => Edges1_any m lid bs t B D N X Y O n L hL I Ix hK hG hst hxst hY W hB h0
end Go.Proofs.Ytdlpfiiakmhnlaa

namespace Go.Proofs.Ytdlpfiiakmhnlaa
open Go.RowKit Go.Shelf

/-- a post that a panic never meets -/
def noP (Q : Exit → Act → World → Prop) : Exit → Act → World → Prop
  | .panic _, _, _ => False
  | e, a, w => Q e a w
theorem wp_noP {P : Program} {c : Code} {Q : Exit → Act → World → Prop} {a : Act} {w : World} (h : c.wp P (noP Q) a w) : c.wp P Q a w := wp_mono h fun e a w hq => by
  cases e with
  | panic c => exact False.elim hq
  | _ => exact hq
@[go_sem] theorem noP_normal (Q : Exit → Act → World → Prop) (a : Act) (w : World) : noP Q .normal a w = Q .normal a w := rfl
end Go.Proofs.Ytdlpfiiakmhnlaa

namespace Go.Proofs.Ytdlpfiiakmhnlaa
open Go.RowKit Go.Shelf
attribute [local go_sem] Oper.semAt_some undef

theorem wp_rangeXN {P : Program} {g : Operand} {ps : Array Tmp} {assign body : Code} {Q : Exit → Act → World → Prop} {a : Act} {w : World} {gf : Nat} {lb : Array Value} {N : Nat} {encs : Nat → Array Value} {Kp : World → Prop}
    (hg : a.eval g = .func (.func gf) #[] lb) (eg : ∀ args w, (callFunc gf args).run P w = .ok (.enter gf args) w)
    (hT : TellsX P gf lb N encs (w.heap.size + 2) Kp) (hps : ∀ k, (encs k).size = ps.size)
    (J : Nat → World → Prop) (hst : ∀ k W W', J k W → Below w.heap.size W W' → J k W')
    (hKp : ∀ k W, J k W → Kp W) (h0 : J 0 w)
    (hround : ∀ (lid D k : Nat) (G : Nat → Prop) (W : World), k < N → (∀ g, ¬ G g) → J k W → lid = w.heap.size + 1 → D = w.heap.size → lid < W.heap.size → D < W.heap.size →
      assign.wpIn (Fence.wide.inRound lid) 1 P (Exit.then (fun a₁ w₁ => (Fix2 lid D W w₁ ∧ AboveX (w.heap.size + 2) G W w₁) ∧ ∀ w₂, OutL [lid] w₁ w₂ → body.wpIn (Fence.wide.inRound lid) 1 P (rPostX (w.heap.size + 2) lid D w₂ (fun G k W => (∀ g, ¬ G g) ∧ J k W) (fun _ _ _ => False) G k) a₁ w₂) (fun _ _ _ => False))
        { tmps := (ps.zip (encs k)).foldl (fun t (p, v) => t.setIfInBounds p v) a.tmps, defers := [] } W)
    (hpost : ∀ W, J N W → W.heap[w.heap.size]? = some (.deferred (some [])) → Q .normal { a with defers := { target := .collected w.heap.size, args := #[] } :: a.defers } W) :
    (Code.rangeFunc g ps assign body).wp P Q a w := by
  refine wpIn_wide.1 (wpIn_rangeX (m := 1) hg eg hT hps (fun G k W => (∀ g, ¬ G g) ∧ J k W) (fun _ _ _ => False) (fun G k W h g hg => absurd hg (h.1 g)) (fun G k W W' h hb => ⟨h.1, hst k W W' h.2 hb.1⟩) (fun c k W W' h hb => h.elim) (fun G k W h => hKp k W h.2) ⟨fun _ h => h, h0⟩ ?_ ?_ (fun D c k W _ h _ => h.elim))
  · intro lid D k G W hk hJ h1 h2 h3 h4
    exact hround lid D k G W hk hJ.1 hJ.2 h1 h2 h3 h4
  · rintro D G W rfl hJ hD
    exact hpost W hJ.2 hD
theorem ecN_le {N n : Nat} {O : Nat → List (Nat × Nat)} (h : WS N O n) (k : Nat) : ecN N O k ≤ 3 * n := by
  have h1 := ecN_all h
  unfold ecN at h1 ⊢
  rw [List.take_length] at h1
  have h2 : ((preE N O N).map (cE O)).sum = (((preE N O N).take k).map (cE O)).sum + (((preE N O N).drop k).map (cE O)).sum := by
    rw [← List.sum_append, ← List.map_append, List.take_append_drop]
  omega
theorem Blk.setO {w : World} {g : Nat} {c : Array Value} {ty : TypeId} (h : Blk w g c ty) {b : Nat} (hne : g ≠ b) (v : Value) : Blk (w.setCell ⟨b, 0, none⟩ v) g c ty := (Below.heap_setCell w ⟨b, 0, none⟩ v g hne).trans h
theorem five_new (w V : World) (c0 c1 c2 c3 c4 : Array Value) (t0 t1 t2 t3 t4 : TypeId) (hV : V = ((((w.alloc (.cells c0 t0)).alloc (.cells c1 t1)).alloc (.cells c2 t2)).alloc (.cells c3 t3)).alloc (.cells c4 t4)) :
    Below w.heap.size w V ∧ Blk V w.heap.size c0 t0 ∧ Blk V (w.heap.size + 1) c1 t1 ∧ Blk V (w.heap.size + 2) c2 t2 ∧ Blk V (w.heap.size + 3) c3 t3 ∧ Blk V (w.heap.size + 4) c4 t4 ∧ V.heap.size = w.heap.size + 5 := by
  have e1 := (Blk.new (w.alloc (.cells c0 t0)) c1 t1)
  have e2 := (Blk.new ((w.alloc (.cells c0 t0)).alloc (.cells c1 t1)) c2 t2)
  have e3 := (Blk.new (((w.alloc (.cells c0 t0)).alloc (.cells c1 t1)).alloc (.cells c2 t2)) c3 t3)
  have e4 := (Blk.new ((((w.alloc (.cells c0 t0)).alloc (.cells c1 t1)).alloc (.cells c2 t2)).alloc (.cells c3 t3)) c4 t4)
  simp only [World.size_alloc] at e1 e2 e3 e4
  subst hV
  refine ⟨?_, ((((Blk.new w c0 t0).of (below_a1 _ _)).of (below_a1 _ _)).of (below_a1 _ _)).of (below_a1 _ _), ((e1.of (below_a1 _ _)).of (below_a1 _ _)).of (below_a1 _ _), (e2.of (below_a1 _ _)).of (below_a1 _ _), e3.of (below_a1 _ _), e4, by simp⟩
  exact (((((below_a1 w _).trans ((below_a1 _ _).mono (by simp))).trans ((below_a1 _ _).mono (by simp; omega))).trans ((below_a1 _ _).mono (by simp; omega)))).trans ((below_a1 _ _).mono (by simp; omega))
set_option maxRecDepth 100000 in
set_option maxHeartbeats 4000000 in
theorem edges_is (t : Nat) (D : SD) (N : Nat) (X Y : Nat → Int) (O : Nat → List (Nat × Nat)) (n : Nat) (ao : Option Addr) (cap : Nat) (hn : n < 100000000) (hW : WS N O n) (w : World) (h : SM w t D N X Y O (n : Nat)) :
    Calls Try.prog 62 #[ptr t 0, .slice ao n cap] w fun e w' => e = .returned (.bool true) ∧ Below w.heap.size w w' := by
  have HS := Lib.hid h
  have HWS := Lib.hid hW
  clear h hW
  refine (callsIn_wide (n := 3)).1 ?_
  refine callsIn_of_wp_marks Try.func62 rfl trivial ?_ rfl
  refine wpIn_wide.2 ?_
  simp only [Try.ntmps62, List.size_toArray, List.length_cons, List.length_nil, Nat.reduceAdd, Nat.reduceSub, Array.replicate_succ, Array.replicate_zero, List.push_toArray, List.append_toArray, List.nil_append, List.cons_append]
  go_wp2_with fail
  refine calls_w ?_
  intro V hV
  obtain ⟨hb0, ks, kr, kx, ky, kn, hvs⟩ := five_new _ _ _ _ _ _ _ _ _ _ _ _ hV
  obtain ⟨sb, esb⟩ : ∃ b, w.heap.size = b := ⟨_, rfl⟩
  obtain ⟨rb, erb⟩ : ∃ b, w.heap.size + 1 = b := ⟨_, rfl⟩
  obtain ⟨xb, exb⟩ : ∃ b, w.heap.size + 1 + 1 = b := ⟨_, rfl⟩
  obtain ⟨yb, eyb⟩ : ∃ b, w.heap.size + 1 + 1 + 1 = b := ⟨_, rfl⟩
  obtain ⟨nb, enb⟩ : ∃ b, w.heap.size + 1 + 1 + 1 + 1 = b := ⟨_, rfl⟩
  rw [show w.heap.size + 2 = xb from exb] at kx
  rw [show w.heap.size + 3 = yb from eyb] at ky
  rw [show w.heap.size + 4 = nb from enb] at kn
  rw [erb] at kr
  rw [esb] at ks
  rw [enb, eyb, exb, erb, esb]
  have hws : w.heap.size = sb := esb
  have o1 : sb < rb := by omega
  have o2 : rb < xb := by omega
  have o3 : xb < yb := by omega
  have o4 : yb < nb := by omega
  have o5 : nb < V.heap.size := by omega
  have ot : t < sb := by have := HS.out.blk.lt; omega
  clear hV esb erb exb eyb enb
  refine (Edges_is t V).mono ?_
  rintro e V2 ⟨rfl, kq, hb⟩
  have HS2 := Lib.hid (HS.out.of (hb0.trans (hb.mono hb0.size)))
  have B2 := Lib.hid (hb0.trans (hb.mono hb0.size))
  have KS2 := Lib.hid (ks.of hb)
  have KR2 := Lib.hid (kr.of hb)
  have KX2 := Lib.hid (kx.of hb)
  have KY2 := Lib.hid (ky.of hb)
  have KN2 := Lib.hid (kn.of hb)
  have HDT := Lib.hid (show ∀ b, D.has t N b → b < sb by intro b hb; have := HS.out.lt hb; omega)
  have HPT := Lib.hid (show ∀ a, D.po = some a → 0 < N → a.block < sb by intro a h1 h2; obtain ⟨a', q1, q2, _⟩ := HS.out.pts.ptr h2; rw [h1] at q1; injection q1 with q1; subst q1; omega)
  have KQ := Lib.hid kq
  have oq := kq.lt
  obtain ⟨qb, eqb⟩ : ∃ b, V.heap.size = b := ⟨_, rfl⟩
  rw [eqb] at KQ oq o5 ⊢
  have hqv : qb < V2.heap.size := by omega
  clear kq oq hb0 hb ks kr kx ky kn hvs eqb HS
  obtain ⟨LE, hLE⟩ : ∃ l, preE N O N = l := ⟨_, rfl⟩
  have HLE := Lib.hid hLE
  have HUP : Hid (LE.Pairwise (fun x y => x.1 < y.1 ∨ (x.1 = y.1 ∧ x.2 < y.2)) ∧ ∀ x, x ∈ LE → x.1 < N ∧ x.1 < x.2 ∧ x.2 < N) := by rw [← hLE]; exact Lib.hid (preE_up N O N)
  have HNE : Hid (∀ x, x ∈ LE → cE O x ≠ 0) := by rw [← hLE]; exact Lib.hid (preE_some HWS.out.cyc N)
  have HST : Hid (∀ k x, LE[k]? = some x → ecN N O (k + 1) = ecN N O k + cE O x) := by rw [← hLE]; exact Lib.hid fun k x h => ecN_step h
  have HLA : Hid (ecN N O LE.length = 3 * n) := by rw [← hLE]; exact Lib.hid (ecN_all HWS.out)
  have HBD : Hid (∀ k, ecN N O k ≤ 3 * n) := Lib.hid (ecN_le HWS.out)
  clear hLE HWS
  go_wp2_with fail
  refine wp_rangeXN (gf := 64) (lb := #[ptr qb 0]) (N := LE.length) (encs := edE LE) (Kp := fun W => Blk W qb #[ptr t 0] 25 ∧ SM W t D N X Y O (n : Nat)) rfl (fun args w => by go_simp) (Edges1_tells qb t D N X Y O _ LE HLE.out _) (fun _ => rfl)
    (fun k W => ∃ x y : Int, Blk W xb #[.int .i64 x] 3 ∧ Blk W yb #[.int .i64 y] 3 ∧ Blk W nb #[.int .i64 (ecN N O k : Nat)] 3 ∧ Fr V2 W (fun b => b = xb ∨ b = yb ∨ b = nb) ∧ (∀ e, LE[k]? = some e → x < (e.1 : Int) ∨ (x = (e.1 : Int) ∧ y < (e.2 : Int)))) ?stable ?keeps ?start ?round ?post
  case stable =>
    rintro k W W' ⟨x, y, j1, j2, j3, j4, j5⟩ hbl
    exact ⟨x, y, j1.below hbl (by omega), j2.below hbl (by omega), j3.below hbl (by omega), j4.trans (S' := fun b => V2.heap.size ≤ b) ⟨hbl.os, hbl.tape, hbl.output, hbl.size, fun k _ hk => hbl.block k (by omega)⟩ (fun _ h => .inr h), j5⟩
  case keeps =>
    rintro k W ⟨x, y, j1, j2, j3, j4, j5⟩
    exact ⟨j4.blk KQ.out (by omega), HS2.out.fr j4 (fun b hb => by have := HDT.out b hb; omega) fun a h1 h2 => by have := HPT.out a h1 h2; omega⟩
  case start => exact ⟨-1, -1, KX2.out, KY2.out, KN2.out, ⟨rfl, rfl, rfl, Nat.le_refl _, fun _ _ _ => rfl⟩, fun e _ => .inl (by omega)⟩
  case round =>
    rintro l2 D2 k G W2 hk hG ⟨x, y, j1, j2, j3, j4, j5⟩ g1 g2 g3 g4
    obtain ⟨⟨a, b⟩, hx⟩ : ∃ x, LE[k]? = some x := ⟨_, List.getElem?_eq_getElem hk⟩
    have hE : edE LE k = #[.int .i64 (a : Nat), .int .i64 (b : Nat)] := by unfold edE; rw [List.getD_eq_getElem?_getD, hx]; rfl
    rw [hE]
    have J5 := j5 _ hx
    obtain ⟨haN, hab, hbN⟩ := HUP.out.2 _ (List.mem_iff_getElem?.2 ⟨k, hx⟩)
    have hce := HNE.out _ (List.mem_iff_getElem?.2 ⟨k, hx⟩)
    have HEC := Lib.hid (HST.out _ _ hx)
    have HCE := Lib.hid hce
    have hen := HBD.out k
    have hen2 := HBD.out (k + 1)
    simp only [] at J5 haN hab hbN
    have HX := Lib.hid hx
    have JJ := Lib.hid (And.intro j1 (And.intro j2 (And.intro j3 j4)))
    clear j1 j2 j3 j4 j5 hE hx
    gi_wp2_with fail
    refine ⟨⟨Fix2.of (OutL.refl [] _) g3 g4 (by simp) (by simp), AboveX.refl _ _ _⟩, ?_⟩
    intro W3 hW3
    obtain ⟨j1, j2, j3, j4⟩ := JJ.out
    have hs3 := hW3.size
    have z2 := j4.size
    have F3 : Fr V2 W3 (fun b => b = xb ∨ b = yb ∨ b = nb) := j4.trans (S' := fun b => V2.heap.size ≤ b) ⟨hW3.os, hW3.tape, hW3.output, hW3.size, fun g hg hn => hW3.block g hg (by simp; omega)⟩ (fun _ h => .inr h)
    have k1 := j1.outl hW3 (by simp; omega)
    have k2 := j2.outl hW3 (by simp; omega)
    have k3 := j3.outl hW3 (by simp; omega)
    have S3 := Lib.hid (HS2.out.fr F3 (fun b hb => by have := HDT.out b hb; omega) fun a h1 h2 => by have := HPT.out a h1 h2; omega)
    have hz3 := F3.size
    have KS3 := Lib.hid (F3.blk KS2.out (by omega))
    have s0 := KS3.out.cell 0
    have ls := KS3.out.lt
    simp only [List.getElem?_toArray, List.getElem?_cons_zero] at s0
    have KK := Lib.hid (And.intro k1 (And.intro k2 (And.intro k3 F3)))
    clear JJ j1 j2 j3 j4 hW3 k1 k2 k3 F3
    gi_wp2_with fail
    refine ⟨trivial, CallsIn.inRound l2 (callsIn_wide.2 ?_)⟩
    obtain ⟨R1, hR1⟩ : ∃ R, leftO N O (a : Nat) (b : Nat) = R := ⟨_, rfl⟩
    obtain ⟨R2, hR2⟩ : ∃ R, leftO N O (b : Nat) (a : Nat) = R := ⟨_, rfl⟩
    have HR1 := Lib.hid hR1
    have HR2 := Lib.hid hR2
    refine (Left_is t D N X Y O _ a b W3 S3.out R1 hR1).mono ?_
    rintro e W4 ⟨rfl, hb4⟩
    have S4 := Lib.hid (S3.out.of hb4)
    have B34 := Lib.hid hb4
    clear hR1 hR2 hb4 s0 ls
    have s0 := (KS3.out.of B34.out).cell 0
    have ls := (KS3.out.of B34.out).lt
    simp only [List.getElem?_toArray, List.getElem?_cons_zero] at s0
    gi_wp2_with fail
    refine ⟨trivial, CallsIn.inRound l2 (callsIn_wide.2 ?_)⟩
    refine (Left_is t D N X Y O _ b a W4 S4.out R2 HR2.out).mono ?_
    rintro e W5 ⟨rfl, hb5⟩
    have B35 := B34.out.trans (hb5.mono B34.out.size)
    clear s0 ls S3 S4 B34 hb5 KS3
    obtain ⟨i1, i2, i3, F3⟩ := KK.out
    have k1 := i1.of B35
    have k2 := i2.of B35
    have k3 := i3.of B35
    clear i1 i2 i3
    obtain ⟨m, hm⟩ : ∃ m, ecN N O k = m := ⟨_, rfl⟩
    rw [hm] at k3 hen
    have HM := Lib.hid hm
    clear hm
    have x0 := k1.cell 0
    have y0 := k2.cell 0
    have n0 := k3.cell 0
    have lx := k1.lt
    have ly := k2.lt
    have ln := k3.lt
    have fx := k1.free 0
    have fy := k2.free 0
    have fn := k3.free 0
    simp only [List.getElem?_toArray, List.getElem?_cons_zero] at x0 y0 n0
    have FIN : Hid (∀ W6 : World, Blk W6 xb #[.int .i64 (a : Nat)] 3 → Blk W6 yb #[.int .i64 (b : Nat)] 3 → Blk W6 nb #[.int .i64 (ecN N O (k + 1) : Nat)] 3 → W6.os = W5.os → W6.tape = W5.tape → W6.output = W5.output → W6.heap.size = W5.heap.size → (∀ g, g ≠ xb → g ≠ yb → g ≠ nb → W6.heap[g]? = W5.heap[g]?) →
        (Fix2 l2 D2 W3 W6 ∧ ∃ G' : Nat → Prop, (∀ g, G' g → G g ∨ W3.heap.size ≤ g) ∧ (∀ g, ¬ G' g) ∧ ∃ x y : Int, Blk W6 xb #[.int .i64 x] 3 ∧ Blk W6 yb #[.int .i64 y] 3 ∧ Blk W6 nb #[.int .i64 (ecN N O (k + 1) : Nat)] 3 ∧ Fr V2 W6 (fun b => b = xb ∨ b = yb ∨ b = nb) ∧ (∀ e, LE[k + 1]? = some e → x < (e.1 : Int) ∨ (x = (e.1 : Int) ∧ y < (e.2 : Int)))) ∧ AboveX (V2.heap.size + 2) G W3 W6) := by
      refine Lib.hid fun W6 q1 q2 q3 q4 q5 q6 q7 q8 => ?_
      have hz5 := B35.size
      refine ⟨⟨⟨(q8 _ (by omega) (by omega) (by omega)).trans (B35.block _ (by omega)), (q8 _ (by omega) (by omega) (by omega)).trans (B35.block _ (by omega))⟩, fun _ => False, fun g h => h.elim, fun g h => h, (a : Nat), (b : Nat), q1, q2, q3, ?_, fun e he => ?_⟩, ⟨by omega, fun g h1 h2 _ => (q8 g (by omega) (by omega) (by omega)).trans (B35.block g h2)⟩⟩
      · exact (F3.trans (Fr.ofBelow (S := fun _ => False) B35) (fun b hb => hb.elim)).trans (S' := fun b => b = xb ∨ b = yb ∨ b = nb) ⟨q4, q5, q6, by omega, fun g _ hn => q8 g (fun e => hn (.inl e)) (fun e => hn (.inr (.inl e))) (fun e => hn (.inr (.inr e)))⟩ (fun _ h => .inl h)
      · have := List.pairwise_iff_getElem.1 HUP.out.1 k (k + 1) (List.getElem?_eq_some_iff.1 HX.out).1 (List.getElem?_eq_some_iff.1 he).1 (by omega)
        rw [(List.getElem?_eq_some_iff.1 HX.out).2, (List.getElem?_eq_some_iff.1 he).2] at this
        simp only [] at this
        omega
    have KB := Lib.hid (And.intro k1 (And.intro k2 k3))
    clear KK k1 k2 k3 F3 B35
    have hge : decide ((b : Int) ≤ (a : Int)) = false := by simp; omega
    have hn1 : m < 1000000000 := by omega
    clear hen hen2 hce g1 g2 hs3 z2 hz3 hk hG g3 g4
    rcases J5 with hx1 | ⟨hx1, hy1⟩
    · have hl1 : decide ((a : Int) < x) = false := by simp; omega
      have hl2 : ((a : Int) == x) = false := by simp; omega
      cases R1 with
      | some c1 =>
        cases R2 with
        | some c2 =>
          have HV : Hid (ecN N O (k + 1) = ecN N O k + 2) := by
            have h1 := HR1.out
            have h2 := HR2.out
            rw [leftO_of haN] at h1
            rw [leftO_of hbN] at h2
            have h3 := HEC.out
            unfold cE sdI at h3
            simp only [h1, h2] at h3
            exact Lib.hid h3
          have HVI : Hid ((m : Int) + 1 + 1 = ((ecN N O (k + 1) : Nat) : Int)) := Lib.hid (by have := HV.out; have := HM.out; omega)
          clear HV
          gi_wp2_with fail
          refine (FIN.out _ ?_ ?_ ?_ rfl rfl rfl (by simp [World.setCell]) ?_)
          · exact ((((KB.out.1.put 0 _).setO (b := yb) (by omega) _).setO (b := nb) (by omega) _).setO (b := nb) (by omega) _)
          · exact ((((KB.out.2.1.setO (b := xb) (by omega) _).put 0 _).setO (b := nb) (by omega) _).setO (b := nb) (by omega) _)
          · rw [← HVI.out]
            exact ((((KB.out.2.2.setO (b := xb) (by omega) _).setO (b := yb) (by omega) _).put 0 _).put 0 _)
          · intro g h1 h2 h3
            exact (Below.heap_setCell _ ⟨nb, 0, none⟩ _ g h3).trans ((Below.heap_setCell _ ⟨nb, 0, none⟩ _ g h3).trans ((Below.heap_setCell _ ⟨yb, 0, none⟩ _ g h2).trans (Below.heap_setCell _ ⟨xb, 0, none⟩ _ g h1)))
        | none =>
          have HV : Hid (ecN N O (k + 1) = ecN N O k + 1) := by
            have h1 := HR1.out
            have h2 := HR2.out
            rw [leftO_of haN] at h1
            rw [leftO_of hbN] at h2
            have h3 := HEC.out
            unfold cE sdI at h3
            simp only [h1, h2] at h3
            exact Lib.hid h3
          have HVI : Hid ((m : Int) + 1 = ((ecN N O (k + 1) : Nat) : Int)) := Lib.hid (by have := HV.out; have := HM.out; omega)
          clear HV
          gi_wp2_with fail
          refine (FIN.out _ ?_ ?_ ?_ rfl rfl rfl (by simp [World.setCell]) ?_)
          · exact (((KB.out.1.put 0 _).setO (b := yb) (by omega) _).setO (b := nb) (by omega) _)
          · exact (((KB.out.2.1.setO (b := xb) (by omega) _).put 0 _).setO (b := nb) (by omega) _)
          · rw [← HVI.out]
            exact (((KB.out.2.2.setO (b := xb) (by omega) _).setO (b := yb) (by omega) _).put 0 _)
          · intro g h1 h2 h3
            exact (Below.heap_setCell _ ⟨nb, 0, none⟩ _ g h3).trans ((Below.heap_setCell _ ⟨yb, 0, none⟩ _ g h2).trans (Below.heap_setCell _ ⟨xb, 0, none⟩ _ g h1))
      | none =>
        cases R2 with
        | some c2 =>
          have HV : Hid (ecN N O (k + 1) = ecN N O k + 1) := by
            have h1 := HR1.out
            have h2 := HR2.out
            rw [leftO_of haN] at h1
            rw [leftO_of hbN] at h2
            have h3 := HEC.out
            unfold cE sdI at h3
            simp only [h1, h2] at h3
            exact Lib.hid h3
          have HVI : Hid ((m : Int) + 1 = ((ecN N O (k + 1) : Nat) : Int)) := Lib.hid (by have := HV.out; have := HM.out; omega)
          clear HV
          gi_wp2_with fail
          refine (FIN.out _ ?_ ?_ ?_ rfl rfl rfl (by simp [World.setCell]) ?_)
          · exact (((KB.out.1.put 0 _).setO (b := yb) (by omega) _).setO (b := nb) (by omega) _)
          · exact (((KB.out.2.1.setO (b := xb) (by omega) _).put 0 _).setO (b := nb) (by omega) _)
          · rw [← HVI.out]
            exact (((KB.out.2.2.setO (b := xb) (by omega) _).setO (b := yb) (by omega) _).put 0 _)
          · intro g h1 h2 h3
            exact (Below.heap_setCell _ ⟨nb, 0, none⟩ _ g h3).trans ((Below.heap_setCell _ ⟨yb, 0, none⟩ _ g h2).trans (Below.heap_setCell _ ⟨xb, 0, none⟩ _ g h1))
        | none =>
          exfalso
          have h1 := HR1.out
          have h2 := HR2.out
          rw [leftO_of haN] at h1
          rw [leftO_of hbN] at h2
          have hce := HCE.out
          unfold cE sdI at hce
          simp only [h1, h2] at hce
          exact hce rfl
    · have hl1 : decide ((a : Int) < x) = false := by simp; omega
      have hl2 : ((a : Int) == x) = true := by simp; omega
      have hl3 : decide ((b : Int) ≤ y) = false := by simp; omega
      cases R1 with
      | some c1 =>
        cases R2 with
        | some c2 =>
          have HV : Hid (ecN N O (k + 1) = ecN N O k + 2) := by
            have h1 := HR1.out
            have h2 := HR2.out
            rw [leftO_of haN] at h1
            rw [leftO_of hbN] at h2
            have h3 := HEC.out
            unfold cE sdI at h3
            simp only [h1, h2] at h3
            exact Lib.hid h3
          have HVI : Hid ((m : Int) + 1 + 1 = ((ecN N O (k + 1) : Nat) : Int)) := Lib.hid (by have := HV.out; have := HM.out; omega)
          clear HV
          gi_wp2_with fail
          refine (FIN.out _ ?_ ?_ ?_ rfl rfl rfl (by simp [World.setCell]) ?_)
          · exact ((((KB.out.1.put 0 _).setO (b := yb) (by omega) _).setO (b := nb) (by omega) _).setO (b := nb) (by omega) _)
          · exact ((((KB.out.2.1.setO (b := xb) (by omega) _).put 0 _).setO (b := nb) (by omega) _).setO (b := nb) (by omega) _)
          · rw [← HVI.out]
            exact ((((KB.out.2.2.setO (b := xb) (by omega) _).setO (b := yb) (by omega) _).put 0 _).put 0 _)
          · intro g h1 h2 h3
            exact (Below.heap_setCell _ ⟨nb, 0, none⟩ _ g h3).trans ((Below.heap_setCell _ ⟨nb, 0, none⟩ _ g h3).trans ((Below.heap_setCell _ ⟨yb, 0, none⟩ _ g h2).trans (Below.heap_setCell _ ⟨xb, 0, none⟩ _ g h1)))
        | none =>
          have HV : Hid (ecN N O (k + 1) = ecN N O k + 1) := by
            have h1 := HR1.out
            have h2 := HR2.out
            rw [leftO_of haN] at h1
            rw [leftO_of hbN] at h2
            have h3 := HEC.out
            unfold cE sdI at h3
            simp only [h1, h2] at h3
            exact Lib.hid h3
          have HVI : Hid ((m : Int) + 1 = ((ecN N O (k + 1) : Nat) : Int)) := Lib.hid (by have := HV.out; have := HM.out; omega)
          clear HV
          gi_wp2_with fail
          refine (FIN.out _ ?_ ?_ ?_ rfl rfl rfl (by simp [World.setCell]) ?_)
          · exact (((KB.out.1.put 0 _).setO (b := yb) (by omega) _).setO (b := nb) (by omega) _)
          · exact (((KB.out.2.1.setO (b := xb) (by omega) _).put 0 _).setO (b := nb) (by omega) _)
          · rw [← HVI.out]
            exact (((KB.out.2.2.setO (b := xb) (by omega) _).setO (b := yb) (by omega) _).put 0 _)
          · intro g h1 h2 h3
            exact (Below.heap_setCell _ ⟨nb, 0, none⟩ _ g h3).trans ((Below.heap_setCell _ ⟨yb, 0, none⟩ _ g h2).trans (Below.heap_setCell _ ⟨xb, 0, none⟩ _ g h1))
      | none =>
        cases R2 with
        | some c2 =>
          have HV : Hid (ecN N O (k + 1) = ecN N O k + 1) := by
            have h1 := HR1.out
            have h2 := HR2.out
            rw [leftO_of haN] at h1
            rw [leftO_of hbN] at h2
            have h3 := HEC.out
            unfold cE sdI at h3
            simp only [h1, h2] at h3
            exact Lib.hid h3
          have HVI : Hid ((m : Int) + 1 = ((ecN N O (k + 1) : Nat) : Int)) := Lib.hid (by have := HV.out; have := HM.out; omega)
          clear HV
          gi_wp2_with fail
          refine (FIN.out _ ?_ ?_ ?_ rfl rfl rfl (by simp [World.setCell]) ?_)
          · exact (((KB.out.1.put 0 _).setO (b := yb) (by omega) _).setO (b := nb) (by omega) _)
          · exact (((KB.out.2.1.setO (b := xb) (by omega) _).put 0 _).setO (b := nb) (by omega) _)
          · rw [← HVI.out]
            exact (((KB.out.2.2.setO (b := xb) (by omega) _).setO (b := yb) (by omega) _).put 0 _)
          · intro g h1 h2 h3
            exact (Below.heap_setCell _ ⟨nb, 0, none⟩ _ g h3).trans ((Below.heap_setCell _ ⟨yb, 0, none⟩ _ g h2).trans (Below.heap_setCell _ ⟨xb, 0, none⟩ _ g h1))
        | none =>
          exfalso
          have h1 := HR1.out
          have h2 := HR2.out
          rw [leftO_of haN] at h1
          rw [leftO_of hbN] at h2
          have hce := HCE.out
          unfold cE sdI at hce
          simp only [h1, h2] at hce
          exact hce rfl
  case post =>
    rintro W ⟨x, y, j1, j2, j3, j4, j5⟩ hD
    rw [HLA.out] at j3
    have hz := j4.size
    have n0 := j3.cell 0
    have ln := j3.lt
    simp only [List.getElem?_toArray, List.getElem?_cons_zero] at n0
    have r0 := (j4.blk KR2.out (by omega)).cell 0
    have lr := (j4.blk KR2.out (by omega)).lt
    have fr := (j4.blk KR2.out (by omega)).free 0
    simp only [List.getElem?_toArray, List.getElem?_cons_zero] at r0
    have hen : ((3 * n : Nat) : Int) = 3 * (n : Int) := by omega
    rw [hen] at n0
    have HW := Lib.hid (B2.out.trans (j4.below (B := w.heap.size) B2.out.size (fun k h => by omega)))
    have HDD := Lib.hid hD
    have hrw : rb < W.heap.size := by omega
    have KR3 := Lib.hid (j4.blk KR2.out (by omega))
    clear j1 j2 j3 j4 j5 hD
    go_wp2
    have HB3 : Below w.heap.size w (W.setCell ⟨rb, 0, none⟩ (.bool true)) := HW.out.setCell (p := ⟨rb, 0, none⟩) (by show w.heap.size ≤ rb; omega) (.bool true)
    have KR4 := KR3.out.put 0 (.bool true)
    have HD4 : (W.setCell ⟨rb, 0, none⟩ (.bool true)).heap[V2.heap.size]? = some (.deferred (some [])) := (Below.heap_setCell W ⟨rb, 0, none⟩ (.bool true) _ (by show V2.heap.size ≠ rb; omega)).trans HDD.out
    have hz4 : (W.setCell ⟨rb, 0, none⟩ (.bool true)).heap.size = W.heap.size := by simp [World.setCell]
    refine leaves_marks (B := w.heap.size) (y := rb) (by omega) (fun g => g = rb) _ _ (by omega) (show Marks rb _ [{ target := .collected V2.heap.size, args := #[] }] from ⟨⟨V2.heap.size, rfl, by omega, HD4, fun d hd => by cases hd⟩, trivial⟩) (fun d hd r hr => ?_) fun w' hb => ?_
    · rw [List.mem_singleton.1 hd] at hr
      injection hr with hr
      omega
    · have c4 := (show Blk w' rb _ _ from (hb.2 rb rfl (by omega)).trans KR4).cell 0
      simp at c4
      exact ⟨_, by simp [results, Try.results62, go_sem, c4], rfl, HB3.trans hb.1⟩
end Go.Proofs.Ytdlpfiiakmhnlaa

namespace Go.Proofs.Ytdlpfiiakmhnlaa
open Go.RowKit Go.Shelf

/-- what stands at a place of a list -/
def tmAt : List Value → Nat → Value
  | [], _ => undef
  | x :: _, 0 => x
  | _ :: l, n + 1 => tmAt l n
/-- the frame's values by a function of the places (S); what the loop's rounds leave in the frame (defers) may grow -/
theorem wp_loop_tm {P : Program} {Q : Exit → Act → World → Prop} {c : Code} (S : (Nat → Value) → Array Value) (I : Nat → (Nat → Value) → List Deferred → World → Prop) (n0 : Nat) (tm : Array Value) (ds : List Deferred) (w : World)
    (h : tm = S (tmAt tm.toList)) (h0 : I n0 (tmAt tm.toList) ds w)
    (round : ∀ n f ds w, I n f ds w → ∀ (J : Nat → Act → World → Prop) (K : Act → World → Prop), (∀ k tm ds w, tm = S (tmAt tm.toList) → I k (tmAt tm.toList) ds w → J k ⟨tm, ds⟩ w) → (∀ a' w', Handed J n a' w' → K a' w') → c.wp P (Exit.then K Q) ⟨S f, ds⟩ w) :
    (Code.loop c).wp P Q ⟨tm, ds⟩ w := by
  refine wp_loop_ghost_k (fun k a w => ∃ f, a.tmps = S f ∧ I k f a.defers w) n0 ⟨_, h, h0⟩ ?_
  rintro n ⟨tm', ds'⟩ w' ⟨f, e, hI⟩ J K hJ hK
  simp only [] at e hI
  rw [e]
  exact round n f ds' w' hI J K (fun k tm ds w h1 h2 => hJ _ _ _ ⟨_, h1, h2⟩) hK
end Go.Proofs.Ytdlpfiiakmhnlaa

namespace Go.Proofs.Ytdlpfiiakmhnlaa
open Go.RowKit

theorem make_pts (N : Nat) (hN : N ≤ 4096) : ∃ MC : Array Value, (∀ w, Sem.run Try.prog (Instr.makeSlice 22 (.int .i64 (N : Nat)) (.int .i64 (N : Nat))) w = .ok (.slice (some ⟨w.heap.size, 0, none⟩) N N) (w.alloc (.cells MC 41))) ∧ MC.size = N * 2 := by
  obtain ⟨i0, hi, hz0, hz1, hz2⟩ := info_parts info_pt
  refine ⟨madeCells (Value.agg #[.int .i64 0, .int .i64 0]).cells (N * 2), fun w => ?_, ?_⟩
  · have := run_makeSlice (P := Try.prog) w 22 41 i0 (.agg #[.int .i64 0, .int .i64 0]) Try.underlying22 hi hz0 .i64 .i64 (N : Nat) (N : Nat) (by omega) (Int.le_refl _) (by rw [hz1]; simp; omega) (by rw [hz2]; omega) (by omega)
    rw [hz1] at this
    simpa using this
  · unfold madeCells
    simp
theorem pt_sz : (Try.prog.info? 41).map (·.size) = some 2 := by kernel_rfl
set_option maxRecDepth 100000 in
set_option maxHeartbeats 2000000 in
theorem Points_is (t : Nat) (D : SD) (N : Nat) (X Y : Nat → Int) (O : Nat → List (Nat × Nat)) (n : Int) (w : World) (h : SM w t D N X Y O n) :
    Calls Try.prog 24 #[ptr t 0] w fun e w' => ∃ ao, e = .returned (.slice ao N N) ∧ Pts w' ao N N X Y ∧ Below w.heap.size w w' := by
  obtain ⟨c0, c1, c2⟩ := h.c
  have lt := h.blk.lt
  have hsm := h.small
  have hpcl := h.pts.capl
  have hpcb := h.pts.capb
  have HP := Lib.hid h.pts
  clear h c1 c2
  obtain ⟨MC, hmk, hMC⟩ := make_pts N hsm
  obtain ⟨po, hpo⟩ : ∃ x, D.po = x := ⟨_, rfl⟩
  obtain ⟨pc, hpc⟩ : ∃ x, D.pc = x := ⟨_, rfl⟩
  rw [hpo, hpc] at HP c0
  rw [hpc] at hpcl hpcb
  clear hpo hpc
  obtain ⟨V, hV⟩ : ∃ V, w.alloc (.cells MC 41) = V := ⟨_, rfl⟩
  have kM : Blk V w.heap.size MC 41 := by rw [← hV]; exact Blk.new w _ _
  have hbV : Below w.heap.size w V := by rw [← hV]; exact below_a1 _ _
  obtain ⟨g, hg⟩ : ∃ g, w.heap.size = g := ⟨_, rfl⟩
  obtain ⟨MC2, hM2⟩ : ∃ M, (MC.toList.take 0 ++ fw X Y N ++ MC.toList.drop (0 + (fw X Y N).length)).toArray = M := ⟨_, rfl⟩
  have hcell : ∀ i, i < N → MC2[i * 2]? = some (.int .i64 (X i)) ∧ MC2[i * 2 + 1]? = some (.int .i64 (Y i)) := by
    intro i hi
    have e : MC2 = (fw X Y N).toArray := by
      rw [← hM2, List.take_zero, List.nil_append, fw_len, List.drop_of_length_le (by rw [Array.length_toList]; omega), List.append_nil]
    have := fw_at X Y N i hi
    rw [e]
    simpa using this
  have hrun : ∃ W, (∀ ty, (Builtin.copy_ #[22, 22] ty #[.slice (some ⟨g, 0, none⟩) N N, .slice po N pc]).run Try.prog V = .ok (goInt N) W) ∧ Pts W (some ⟨g, 0, none⟩) N N X Y ∧ Below w.heap.size w W := by
    cases po with
    | some a =>
      refine ⟨V.setRow g MC2, fun ty => ?_, ?_, below_setRow hbV (by omega) _⟩
      · have hmin : N.min N = N := Nat.min_self N
        have := run_copy_rowk (P := Try.prog) V 22 22 ty 41 g 0 N N a N pc 2 MC 41 (fw X Y N) Try.underlying22 pt_sz (by rw [← hg]; exact kM) (by rw [fw_len, hmin]) (fun j v hj => (HP.out.of hbV).src j v hj) (by rw [fw_len]; omega) (fw_one X Y N)
        rw [hM2, hmin] at this
        exact this
      · exact Pts.ofBlk (ty := 41) (setRow_heap V g MC MC2 _ _ (by rw [← hg]; exact kM)) (by omega) hcell
    | none =>
      have h0 : N = 0 := by
        rcases Nat.eq_zero_or_pos N with h | h
        · exact h
        · obtain ⟨a, e, _⟩ := HP.out.ptr h; cases e
      subst h0
      refine ⟨V, fun ty => ?_, ⟨fun h => absurd h (by omega), Nat.le_refl _, by omega⟩, hbV⟩
      have hi := pt_sz
      cases hq : Try.prog.info? 41 with
      | none => rw [hq] at hi; cases hi
      | some i => simp [Builtin.copy_, run_underlying Try.underlying22, Builtin.lenOf, Builtin.firstCells, sizeOf, typeInfo, hq, storeCells]
  obtain ⟨W, hcp, hpw, hbW⟩ := hrun
  have HC := Lib.hid (And.intro hpw hbW)
  have cV := (hbV.cell (p := ⟨t, 0, none⟩) lt).trans c0
  have lV := Nat.lt_of_lt_of_le lt hbV.size
  have hmk2 := hmk w
  rw [hV, hg] at hmk2
  clear hmk hV
  clear hM2 hcell kM hpw hbW HP hbV
  go_enter Try.func24, Try.ntmps24
  go_wp2
  simp [bodyPost, results, Try.results24, go_sem]
  exact HC.out
end Go.Proofs.Ytdlpfiiakmhnlaa

namespace Go.Proofs.Ytdlpfiiakmhnlaa
open Go.RowKit Go.Shelf
attribute [local go_sem] Oper.semAt_some undef

theorem ahd3_up {a b c d e f : Nat} (h : a < d ∨ (a = d ∧ b < e)) : ahd3 a b c d e f = true := by
  unfold ahd3
  rcases h with h | ⟨h, h2⟩
  · rw [if_pos (by omega)]; simpa using h
  · rw [if_neg (by omega), if_pos (by omega)]; simpa using h2
theorem marks_gt {y : Nat} {w : World} : ∀ {ds : List Deferred}, Marks y w ds → ∀ d, d ∈ ds → ∀ r, d.target = .collected r → y < r := by
  intro ds
  induction ds with
  | nil => intro _ d hd; cases hd
  | cons d ds ih =>
    rintro ⟨⟨r, h1, h2, h3, h4⟩, h5⟩ d' hd' r' hr'
    rcases List.mem_cons.1 hd' with rfl | hd'
    · rw [h1] at hr'; injection hr' with hr'; omega
    · exact ih h5 d' hd' r' hr'
theorem ahead_yes (a b c d e f : Nat) (w : World) (h : a < d ∨ (a = d ∧ b < e)) : Calls Try.prog 61 #[tI a b c, tI d e f] w fun r w' => r = .returned (.bool true) ∧ Below w.heap.size w w' := by
  refine (ahead_is a b c d e f w).mono ?_
  rintro r w' ⟨rfl, hb⟩
  rw [ahd3_up h]
  exact ⟨rfl, hb⟩
theorem Trs.up {w : World} {ao : Option Addr} {cap : Nat} {L : List Tri3} (h : Trs w ao cap L) (h0 : 0 < L.length) : ∃ g, ao = some ⟨g, 0, none⟩ ∧ g < w.heap.size ∧ ∀ i x, L[i]? = some x → ∀ u : UpTo w.heap.size w, u.w.cell? ⟨g, i * 3, none⟩ = some (.int .i64 (x.1 : Nat)) ∧ u.w.cell? ⟨g, i * 3 + 1, none⟩ = some (.int .i64 (x.2.1 : Nat)) ∧ u.w.cell? ⟨g, i * 3 + 2, none⟩ = some (.int .i64 (x.2.2 : Nat)) := by
  obtain ⟨g, e, hg, hc⟩ := h.ptr h0
  refine ⟨g, e, hg, fun i x hx u => ?_⟩
  obtain ⟨h1, h2, h3⟩ := hc i x hx
  exact ⟨(u.below.cell hg).trans h1, (u.below.cell hg).trans h2, (u.below.cell hg).trans h3⟩
set_option maxRecDepth 100000 in
set_option maxHeartbeats 8000000 in
theorem whole_is (t : Nat) (D : SD) (N : Nat) (X Y : Nat → Int) (O : Nat → List (Nat × Nat)) (n : Nat) (hn : n < 100000000) (hW : WS N O n) (w : World) (h : SM w t D N X Y O (n : Nat)) :
    Calls Try.prog 26 #[ptr t 0] w fun e w' => e = .returned (.bool true) ∧ Below w.heap.size w w' := by
  have HS := Lib.hid h
  have HS0 := HS
  have HWS := Lib.hid hW
  clear h hW
  refine (callsIn_wide (n := 3)).1 ?_
  refine callsIn_of_wp_marks Try.func26 rfl trivial ?_ rfl
  refine wpIn_wide.2 ?_
  simp only [Try.ntmps26, List.size_toArray, List.length_cons, List.length_nil, Nat.reduceAdd, Nat.reduceSub, Array.replicate_succ, Array.replicate_zero, List.push_toArray, List.append_toArray, List.nil_append, List.cons_append]
  go_wp2_with fail
  refine calls_w ?_
  intro V hV
  have hb0 : Below w.heap.size w V := by rw [hV]; exact below_a2 _ _ _
  have ks : Blk V w.heap.size #[ptr t 0] 25 := by rw [hV]; exact (Blk.new w _ _).of (below_a1 _ _)
  have kr : Blk V (w.heap.size + 1) #[.bool false] 4 := by rw [hV]; have := Blk.new (w.alloc (.cells #[ptr t 0] 25)) #[.bool false] 4; simpa using this
  obtain ⟨sb, esb⟩ : ∃ b, w.heap.size = b := ⟨_, rfl⟩
  obtain ⟨rb, erb⟩ : ∃ b, w.heap.size + 1 = b := ⟨_, rfl⟩
  rw [erb] at kr
  rw [esb] at ks
  rw [erb, esb]
  have hws : w.heap.size = sb := esb
  have o1 : sb < rb := by omega
  have o2 : rb < V.heap.size := kr.lt
  have ot : t < sb := by have := HS.out.blk.lt; omega
  obtain ⟨L, hL⟩ : ∃ L, preO O N = L := ⟨_, rfl⟩
  have HLL := Lib.hid hL
  have hln : L.length = n := by rw [← hL]; exact HWS.out.cnt
  have HLN := Lib.hid hln
  have hUP : L.Pairwise fun t u => t.1 < u.1 ∨ (t.1 = u.1 ∧ t.2.1 < u.2.1) := by rw [← hL]; exact preO_up HWS.out.cyc.srt N
  have HUP := Lib.hid hUP
  have HMM : Hid (∀ x, x ∈ L → x.1 < x.2.1 ∧ x.1 < x.2.2 ∧ lookH (O x.1) x.2.1 = some x.2.2 ∧ lookH (O x.2.1) x.2.2 = some x.1 ∧ lookH (O x.2.2) x.1 = some x.2.1 ∧ x.1 < N ∧ x.2.1 < N ∧ x.2.2 < N) := by
    rw [← hL]
    refine Lib.hid fun x hx => ?_
    obtain ⟨h1, h2, h3, h4⟩ := mem_preO.1 hx
    have l0 := (look_mem (HWS.out.cyc.srt _)).1 h2
    have l1 := HWS.out.cyc.rot _ _ _ l0
    exact ⟨h3, h4, l0, l1, HWS.out.cyc.rot _ _ _ l1, HWS.out.dom _ _ _ l0⟩
  clear hV esb erb hL hUP
  refine (all_is t D N X Y O _ L HLL.out (by omega) V (HS.out.of hb0)).mono ?_
  rintro e V1 ⟨v, rfl, hTL, hb1⟩
  obtain ⟨ao, cap, rfl, hP⟩ := Trs.ofRow hTL
  have hcl := hP.capl
  have hcb := hP.capb
  rw [hln] at hcl ⊢
  have HP1 := Lib.hid hP
  have HS1 := Lib.hid (HS.out.of (hb0.trans (hb1.mono hb0.size)))
  have B1 := Lib.hid (hb0.trans (hb1.mono hb0.size))
  have KS1 := Lib.hid (ks.of hb1)
  have KR1 := Lib.hid (kr.of hb1)
  have o3 : rb < V1.heap.size := Nat.lt_of_lt_of_le o2 hb1.size
  clear hTL hP hb0 hb1 ks kr hln o2
  have s0 := KS1.out.cell 0
  have ls := KS1.out.lt
  simp only [List.getElem?_toArray, List.getElem?_cons_zero] at s0
  go_wp2_with fail
  refine (Len_is t D N X Y O _ V1 HS1.out).mono ?_
  rintro e V2 ⟨rfl, hb2⟩
  have HP2 := Lib.hid (HP1.out.of hb2)
  have HS2 := Lib.hid (HS1.out.of hb2)
  have B2 := Lib.hid (B1.out.trans (hb2.mono B1.out.size))
  have KS2 := Lib.hid (KS1.out.of hb2)
  have KR2 := Lib.hid (KR1.out.of hb2)
  have o4 : rb < V2.heap.size := Nat.lt_of_lt_of_le o3 hb2.size
  clear hb2 HP1 HS1 B1 KS1 KR1 o3 s0 ls
  go_wp2_with fail
  refine name_world ?_
  intro V3 hV3
  have hb3 : Below V2.heap.size V2 V3 := by rw [hV3]; exact below_a1 _ _
  have kd : Blk V3 V2.heap.size #[.int .i64 0] 3 := by rw [hV3]; exact Blk.new _ _ _
  obtain ⟨db, edb⟩ : ∃ b, V2.heap.size = b := ⟨_, rfl⟩
  have HP3 := Lib.hid (HP2.out.of hb3)
  have HS3 := Lib.hid (HS2.out.of hb3)
  have B3 := Lib.hid (B2.out.trans (hb3.mono B2.out.size))
  have KS3 := Lib.hid (KS2.out.of hb3)
  have KR3 := Lib.hid (KR2.out.of hb3)
  rw [edb] at kd o4 ⊢
  have KD3 := Lib.hid kd
  have o5 : db < V3.heap.size := kd.lt
  clear hb3 HP2 HS2 B2 KS2 KR2 kd edb hV3
  go_wp2_with fail
  go_loopg [25] n (fun gk s25 wr => ∃ i : Nat, s25 = .int .i64 (i : Nat) ∧ i ≤ n ∧ n - i ≤ gk ∧ Hid (Below V3.heap.size V3 wr))
  case atStart => exact ⟨0, rfl, by omega, by omega, Lib.hid (Below.refl _ _)⟩
  case round =>
    obtain ⟨i, rfl, hi, hgi, HB⟩ := hrel
    by_cases hlt : i < n
    · obtain ⟨⟨a, b, c⟩, hx⟩ : ∃ x, L[i]? = some x := ⟨_, List.getElem?_eq_getElem (show i < L.length by rw [HLN.out]; exact hlt)⟩
      obtain ⟨h1, h2, l0, l1, l2, d0, d1, d2⟩ := HMM.out _ (List.mem_iff_getElem?.2 ⟨i, hx⟩)
      have HLK := Lib.hid (And.intro l0 (And.intro l1 (And.intro l2 (And.intro d0 (And.intro d1 d2)))))
      simp only [] at h1 h2
      obtain ⟨g, rfl, hg, hcell⟩ := (HP3.out.of HB.out).ptr (by rw [HLN.out]; omega)
      obtain ⟨p0, p1, p2⟩ := hcell i _ hx
      simp only [] at p0 p1 p2
      have HX := Lib.hid hx
      clear hx l0 l1 l2 d0 d1 d2 hcell
      go_wp2_with fail
      refine name_world ?_
      intro W hW
      have hbW : Below wr.heap.size wr W := by rw [hW]; exact below_a1 _ _
      have kt : Blk W wr.heap.size #[.int .i64 (a : Nat), .int .i64 (b : Nat), .int .i64 (c : Nat)] 35 := by rw [hW]; exact Blk.new _ _ _
      obtain ⟨tb, etb⟩ : ∃ b, wr.heap.size = b := ⟨_, rfl⟩
      rw [etb] at kt ⊢
      have HBW := Lib.hid (HB.out.trans (hbW.mono HB.out.size))
      have KT := Lib.hid kt
      have hVt : V3.heap.size ≤ tb := by have := HB.out.size; omega
      clear hW hbW p0 p1 p2 hg HB
      have lt := KT.out.lt
      have hge1 : decide (b ≤ a) = false := by simp; omega
      have hge2 : decide (c ≤ a) = false := by simp; omega
      have f0 : ∀ u : UpTo W.heap.size W, u.w.cell? ⟨tb, 0, none⟩ = some (.int .i64 (a : Nat)) := fun u => (KT.out.of u.below).cell 0
      have f1 : ∀ u : UpTo W.heap.size W, u.w.cell? ⟨tb, 1, none⟩ = some (.int .i64 (b : Nat)) := fun u => (KT.out.of u.below).cell 1
      have f2 : ∀ u : UpTo W.heap.size W, u.w.cell? ⟨tb, 2, none⟩ = some (.int .i64 (c : Nat)) := fun u => (KT.out.of u.below).cell 2
      clear kt etb
      rcases Nat.eq_zero_or_pos i with hi0 | hi0
      · subst hi0
        refine wp_noP ?_
        refine wp_region_up W.heap.size 22 [(true, 0), (true, 1), (true, 2), (true, 3), (true, 4), (true, 5), (true, 6), (true, 7), (true, 8), (true, 9), (true, 10), (true, 11), (true, 12), (true, 13), (true, 14), (true, 15), (true, 16), (true, 17), (true, 18), (true, 19), (true, 20), (true, 21)] (by kernel_rfl) (by kernel_rfl) (fun _ _ d _ _ h => by cases d <;> exact h) ?_
        have hb : Below W.heap.size W W.drew := (Below.refl _ _).drew
        iterate 22
          refine wpS_takeL rfl rfl ?_
          go_big_quiet_step (rfl)
          refine wpQuiet_nil ?_
        refine wpS_nil ?_
        simp only [List.drop_succ_cons, List.drop_zero]
        clear f0 f1 f2 lt
        have KT1 := KT.out.of hb
        have k0 := KT1.cell 0
        have k1 := KT1.cell 1
        have k2 := KT1.cell 2
        have lt := KT1.lt
        simp only [List.getElem?_toArray, List.getElem?_cons_zero, List.getElem?_cons_succ] at k0 k1 k2
        clear KT1
        go_wp2_with fail
        first | (rw [noP_normal]; go_wp2_with fail) | skip
        have HB1 := Lib.hid hb
        clear k0 k1 k2 lt
        go_loopg [56] 3 (fun gk s56 wr => ∃ k : Nat, s56 = .int .i64 (k : Nat) ∧ k ≤ 3 ∧ 3 - k ≤ gk ∧ Hid (Below W.heap.size W wr))
        case atStart => exact ⟨0, rfl, by omega, by omega, HB1⟩
        case round =>
          clear HB1
          obtain ⟨k, rfl, hk, hgk, HB⟩ := hrel
          rcases (show k = 0 ∨ k = 1 ∨ k = 2 ∨ k = 3 by omega) with rfl | rfl | rfl | rfl
          · go_wp2_with fail
            refine name_world ?_
            intro W5 hW5
            have hb5 : Below wr.heap.size wr W5 := by rw [hW5]; exact Below.refl _ _
            have HB5 := Lib.hid (HB.out.trans (hb5.mono HB.out.size))
            have HBW5 := Lib.hid (HBW.out.trans (HB5.out.mono HBW.out.size))
            have HS5 := Lib.hid (HS3.out.of HBW5.out)
            have KT5 := Lib.hid (KT.out.of HB5.out)
            have KS5 := Lib.hid (KS3.out.of HBW5.out)
            clear hb5 hW5 HB
            have s0 : ∀ u : UpTo W5.heap.size W5, u.w.cell? ⟨sb, 0, none⟩ = some (ptr t 0) := fun u => (KS5.out.of u.below).cell 0
            have f0 : ∀ u : UpTo W5.heap.size W5, u.w.cell? ⟨tb, 0, none⟩ = some (.int .i64 (a : Nat)) := fun u => (KT5.out.of u.below).cell 0
            have f1 : ∀ u : UpTo W5.heap.size W5, u.w.cell? ⟨tb, 1, none⟩ = some (.int .i64 (b : Nat)) := fun u => (KT5.out.of u.below).cell 1
            have f2 : ∀ u : UpTo W5.heap.size W5, u.w.cell? ⟨tb, 2, none⟩ = some (.int .i64 (c : Nat)) := fun u => (KT5.out.of u.below).cell 2
            have ls := KS5.out.lt
            have lt := KT5.out.lt
            have HLO : Hid (leftO N O (a : Nat) (b : Nat) = some c) := Lib.hid ((leftO_of HLK.out.2.2.2.1).trans HLK.out.1)
            refine wp_noP ?_
            refine wp_region_up W5.heap.size 14 [(true, 0), (true, 1), (true, 2), (true, 3), (true, 4), (true, 5), (true, 6), (true, 7), (true, 8), (false, 9), (true, 10), (true, 11), (true, 12), (true, 13)] (by kernel_rfl) (by kernel_rfl) (fun _ _ d _ _ h => by cases d <;> exact h) ?_
            have hb : Below W5.heap.size W5 W5.drew := (Below.refl _ _).drew
            iterate 9
              refine wpS_takeL rfl rfl ?_
              go_big_quiet_step (rfl)
              refine wpQuiet_nil ?_
            refine wpS_doL rfl ?_
            intro K hK
            go_wp2_with ((go_at_call 21; (with_reducible refine (Left_is t D N X Y O _ a b _ (HS5.out.of hb) (some c) HLO.out).mono ?_); rintro e w2 ⟨rfl, hn⟩))
            replace hb := hb.trans (hn.mono hb.size)
            refine hK.out _ _ (up_iff.2 hb) ?_
            clear hK K
            clear hn
            iterate 4
              refine wpS_takeL rfl rfl ?_
              go_big_quiet_step (rfl)
              refine wpQuiet_nil ?_
            refine wpS_nil ?_
            simp only [List.drop_succ_cons, List.drop_zero]
            have KT6 := KT5.out.of hb
            have k0 := KT6.cell 0
            have k1 := KT6.cell 1
            have k2 := KT6.cell 2
            have s1 := (KS5.out.of hb).cell 0
            have ls1 := (KS5.out.of hb).lt
            have lt1 := KT6.lt
            simp only [List.getElem?_toArray, List.getElem?_cons_zero, List.getElem?_cons_succ] at k0 k1 k2 s1
            clear s0 f0 f1 f2 ls lt KT6
            have HB6 := Lib.hid (HB5.out.trans (hb.mono HB5.out.size))
            clear s1 ls1 hb
            go_wp2_with fail
            first | (rw [noP_normal]; go_wp2_with fail) | skip
            clear k0 k1 k2 lt1
            go_roundg (3 - (0 + 1))
            case measure => omega
            case rel => exact ⟨0 + 1, by rfl, by omega, Nat.le_refl _, HB6⟩
          · go_wp2_with fail
            refine name_world ?_
            intro W5 hW5
            have hb5 : Below wr.heap.size wr W5 := by rw [hW5]; exact Below.refl _ _
            have HB5 := Lib.hid (HB.out.trans (hb5.mono HB.out.size))
            have HBW5 := Lib.hid (HBW.out.trans (HB5.out.mono HBW.out.size))
            have HS5 := Lib.hid (HS3.out.of HBW5.out)
            have KT5 := Lib.hid (KT.out.of HB5.out)
            have KS5 := Lib.hid (KS3.out.of HBW5.out)
            clear hb5 hW5 HB
            have s0 : ∀ u : UpTo W5.heap.size W5, u.w.cell? ⟨sb, 0, none⟩ = some (ptr t 0) := fun u => (KS5.out.of u.below).cell 0
            have f0 : ∀ u : UpTo W5.heap.size W5, u.w.cell? ⟨tb, 0, none⟩ = some (.int .i64 (a : Nat)) := fun u => (KT5.out.of u.below).cell 0
            have f1 : ∀ u : UpTo W5.heap.size W5, u.w.cell? ⟨tb, 1, none⟩ = some (.int .i64 (b : Nat)) := fun u => (KT5.out.of u.below).cell 1
            have f2 : ∀ u : UpTo W5.heap.size W5, u.w.cell? ⟨tb, 2, none⟩ = some (.int .i64 (c : Nat)) := fun u => (KT5.out.of u.below).cell 2
            have ls := KS5.out.lt
            have lt := KT5.out.lt
            have HLO : Hid (leftO N O (b : Nat) (c : Nat) = some a) := Lib.hid ((leftO_of HLK.out.2.2.2.2.1).trans HLK.out.2.1)
            refine wp_noP ?_
            refine wp_region_up W5.heap.size 14 [(true, 0), (true, 1), (true, 2), (true, 3), (true, 4), (true, 5), (true, 6), (true, 7), (true, 8), (false, 9), (true, 10), (true, 11), (true, 12), (true, 13)] (by kernel_rfl) (by kernel_rfl) (fun _ _ d _ _ h => by cases d <;> exact h) ?_
            have hb : Below W5.heap.size W5 W5.drew := (Below.refl _ _).drew
            iterate 9
              refine wpS_takeL rfl rfl ?_
              go_big_quiet_step (rfl)
              refine wpQuiet_nil ?_
            refine wpS_doL rfl ?_
            intro K hK
            go_wp2_with ((go_at_call 21; (with_reducible refine (Left_is t D N X Y O _ b c _ (HS5.out.of hb) (some a) HLO.out).mono ?_); rintro e w2 ⟨rfl, hn⟩))
            replace hb := hb.trans (hn.mono hb.size)
            refine hK.out _ _ (up_iff.2 hb) ?_
            clear hK K
            clear hn
            iterate 4
              refine wpS_takeL rfl rfl ?_
              go_big_quiet_step (rfl)
              refine wpQuiet_nil ?_
            refine wpS_nil ?_
            simp only [List.drop_succ_cons, List.drop_zero]
            have KT6 := KT5.out.of hb
            have k0 := KT6.cell 0
            have k1 := KT6.cell 1
            have k2 := KT6.cell 2
            have s1 := (KS5.out.of hb).cell 0
            have ls1 := (KS5.out.of hb).lt
            have lt1 := KT6.lt
            simp only [List.getElem?_toArray, List.getElem?_cons_zero, List.getElem?_cons_succ] at k0 k1 k2 s1
            clear s0 f0 f1 f2 ls lt KT6
            have HB6 := Lib.hid (HB5.out.trans (hb.mono HB5.out.size))
            clear s1 ls1 hb
            go_wp2_with fail
            first | (rw [noP_normal]; go_wp2_with fail) | skip
            clear k0 k1 k2 lt1
            go_roundg (3 - (1 + 1))
            case measure => omega
            case rel => exact ⟨1 + 1, by rfl, by omega, Nat.le_refl _, HB6⟩
          · go_wp2_with fail
            refine name_world ?_
            intro W5 hW5
            have hb5 : Below wr.heap.size wr W5 := by rw [hW5]; exact Below.refl _ _
            have HB5 := Lib.hid (HB.out.trans (hb5.mono HB.out.size))
            have HBW5 := Lib.hid (HBW.out.trans (HB5.out.mono HBW.out.size))
            have HS5 := Lib.hid (HS3.out.of HBW5.out)
            have KT5 := Lib.hid (KT.out.of HB5.out)
            have KS5 := Lib.hid (KS3.out.of HBW5.out)
            clear hb5 hW5 HB
            have s0 : ∀ u : UpTo W5.heap.size W5, u.w.cell? ⟨sb, 0, none⟩ = some (ptr t 0) := fun u => (KS5.out.of u.below).cell 0
            have f0 : ∀ u : UpTo W5.heap.size W5, u.w.cell? ⟨tb, 0, none⟩ = some (.int .i64 (a : Nat)) := fun u => (KT5.out.of u.below).cell 0
            have f1 : ∀ u : UpTo W5.heap.size W5, u.w.cell? ⟨tb, 1, none⟩ = some (.int .i64 (b : Nat)) := fun u => (KT5.out.of u.below).cell 1
            have f2 : ∀ u : UpTo W5.heap.size W5, u.w.cell? ⟨tb, 2, none⟩ = some (.int .i64 (c : Nat)) := fun u => (KT5.out.of u.below).cell 2
            have ls := KS5.out.lt
            have lt := KT5.out.lt
            have HLO : Hid (leftO N O (c : Nat) (a : Nat) = some b) := Lib.hid ((leftO_of HLK.out.2.2.2.2.2).trans HLK.out.2.2.1)
            refine wp_noP ?_
            refine wp_region_up W5.heap.size 14 [(true, 0), (true, 1), (true, 2), (true, 3), (true, 4), (true, 5), (true, 6), (true, 7), (true, 8), (false, 9), (true, 10), (true, 11), (true, 12), (true, 13)] (by kernel_rfl) (by kernel_rfl) (fun _ _ d _ _ h => by cases d <;> exact h) ?_
            have hb : Below W5.heap.size W5 W5.drew := (Below.refl _ _).drew
            iterate 9
              refine wpS_takeL rfl rfl ?_
              go_big_quiet_step (rfl)
              refine wpQuiet_nil ?_
            refine wpS_doL rfl ?_
            intro K hK
            go_wp2_with ((go_at_call 21; (with_reducible refine (Left_is t D N X Y O _ c a _ (HS5.out.of hb) (some b) HLO.out).mono ?_); rintro e w2 ⟨rfl, hn⟩))
            replace hb := hb.trans (hn.mono hb.size)
            refine hK.out _ _ (up_iff.2 hb) ?_
            clear hK K
            clear hn
            iterate 4
              refine wpS_takeL rfl rfl ?_
              go_big_quiet_step (rfl)
              refine wpQuiet_nil ?_
            refine wpS_nil ?_
            simp only [List.drop_succ_cons, List.drop_zero]
            have KT6 := KT5.out.of hb
            have k0 := KT6.cell 0
            have k1 := KT6.cell 1
            have k2 := KT6.cell 2
            have s1 := (KS5.out.of hb).cell 0
            have ls1 := (KS5.out.of hb).lt
            have lt1 := KT6.lt
            simp only [List.getElem?_toArray, List.getElem?_cons_zero, List.getElem?_cons_succ] at k0 k1 k2 s1
            clear s0 f0 f1 f2 ls lt KT6
            have HB6 := Lib.hid (HB5.out.trans (hb.mono HB5.out.size))
            clear s1 ls1 hb
            go_wp2_with fail
            first | (rw [noP_normal]; go_wp2_with fail) | skip
            clear k0 k1 k2 lt1
            go_roundg (3 - (2 + 1))
            case measure => omega
            case rel => exact ⟨2 + 1, by rfl, by omega, Nat.le_refl _, HB6⟩
          · have HB9 := Lib.hid (HBW.out.trans (HB.out.mono HBW.out.size))
            go_wp2_with fail
            go_roundg (n - (0 + 1))
            case measure => omega
            case rel => exact ⟨0 + 1, by norm_cast, by omega, Nat.le_refl _, HB9⟩
      · obtain ⟨m, rfl⟩ : ∃ m, i = m + 1 := ⟨i - 1, by omega⟩
        obtain ⟨⟨a', b', c'⟩, hy⟩ : ∃ x, L[m]? = some x := ⟨_, List.getElem?_eq_getElem (show m < L.length by rw [HLN.out]; omega)⟩
        have hup : a' < a ∨ (a' = a ∧ b' < b) := by
          have := List.pairwise_iff_getElem.1 HUP.out m (m + 1) (List.getElem?_eq_some_iff.1 hy).1 (List.getElem?_eq_some_iff.1 HX.out).1 (by omega)
          rw [(List.getElem?_eq_some_iff.1 hy).2, (List.getElem?_eq_some_iff.1 HX.out).2] at this
          exact this
        have HU := Lib.hid hup
        obtain ⟨g', e', hg', hcell⟩ := (HP3.out.of HBW.out).up (by rw [HLN.out]; omega)
        injection e' with e'; injection e' with e'; subst e'
        have q0 := fun u => (hcell m _ hy u).1
        have q1 := fun u => (hcell m _ hy u).2.1
        have q2 := fun u => (hcell m _ hy u).2.2
        simp only [] at q0 q1 q2
        clear hcell hy hup
        refine wp_noP ?_
        refine wp_region_up W.heap.size 22 [(true, 0), (true, 1), (true, 2), (true, 3), (true, 4), (true, 5), (true, 6), (true, 7), (true, 8), (true, 9), (true, 10), (true, 11), (true, 12), (true, 13), (true, 14), (true, 15), (true, 16), (true, 17), (true, 18), (true, 19), (true, 20), (true, 21)] (by kernel_rfl) (by kernel_rfl) (fun _ _ d _ _ h => by cases d <;> exact h) ?_
        have hb : Below W.heap.size W W.drew := (Below.refl _ _).drew
        iterate 22
          refine wpS_takeL rfl rfl ?_
          go_big_quiet_step (rfl)
          refine wpQuiet_nil ?_
        refine wpS_nil ?_
        simp only [List.drop_succ_cons, List.drop_zero]
        clear f0 f1 f2 lt
        have KT1 := KT.out.of hb
        have k0 := KT1.cell 0
        have k1 := KT1.cell 1
        have k2 := KT1.cell 2
        have lt := KT1.lt
        simp only [List.getElem?_toArray, List.getElem?_cons_zero, List.getElem?_cons_succ] at k0 k1 k2
        clear KT1
        go_wp2_with fail
        refine (ahead_yes a' b' c' a b c _ HU.out).mono ?_
        rintro e w2 ⟨rfl, hn9⟩
        have hb9 := hb.trans (hn9.mono hb.size)
        clear hn9
        go_wp2_with fail
        first | (rw [noP_normal]; go_wp2_with fail) | skip
        have HB1 := Lib.hid hb9
        clear k0 k1 k2 lt hb9 hb
        go_loopg [56] 3 (fun gk s56 wr => ∃ k : Nat, s56 = .int .i64 (k : Nat) ∧ k ≤ 3 ∧ 3 - k ≤ gk ∧ Hid (Below W.heap.size W wr))
        case atStart => exact ⟨0, rfl, by omega, by omega, HB1⟩
        case round =>
          clear HB1
          obtain ⟨k, rfl, hk, hgk, HB⟩ := hrel
          rcases (show k = 0 ∨ k = 1 ∨ k = 2 ∨ k = 3 by omega) with rfl | rfl | rfl | rfl
          · go_wp2_with fail
            refine name_world ?_
            intro W5 hW5
            have hb5 : Below wr.heap.size wr W5 := by rw [hW5]; exact Below.refl _ _
            have HB5 := Lib.hid (HB.out.trans (hb5.mono HB.out.size))
            have HBW5 := Lib.hid (HBW.out.trans (HB5.out.mono HBW.out.size))
            have HS5 := Lib.hid (HS3.out.of HBW5.out)
            have KT5 := Lib.hid (KT.out.of HB5.out)
            have KS5 := Lib.hid (KS3.out.of HBW5.out)
            clear hb5 hW5 HB
            have s0 : ∀ u : UpTo W5.heap.size W5, u.w.cell? ⟨sb, 0, none⟩ = some (ptr t 0) := fun u => (KS5.out.of u.below).cell 0
            have f0 : ∀ u : UpTo W5.heap.size W5, u.w.cell? ⟨tb, 0, none⟩ = some (.int .i64 (a : Nat)) := fun u => (KT5.out.of u.below).cell 0
            have f1 : ∀ u : UpTo W5.heap.size W5, u.w.cell? ⟨tb, 1, none⟩ = some (.int .i64 (b : Nat)) := fun u => (KT5.out.of u.below).cell 1
            have f2 : ∀ u : UpTo W5.heap.size W5, u.w.cell? ⟨tb, 2, none⟩ = some (.int .i64 (c : Nat)) := fun u => (KT5.out.of u.below).cell 2
            have ls := KS5.out.lt
            have lt := KT5.out.lt
            have HLO : Hid (leftO N O (a : Nat) (b : Nat) = some c) := Lib.hid ((leftO_of HLK.out.2.2.2.1).trans HLK.out.1)
            refine wp_noP ?_
            refine wp_region_up W5.heap.size 14 [(true, 0), (true, 1), (true, 2), (true, 3), (true, 4), (true, 5), (true, 6), (true, 7), (true, 8), (false, 9), (true, 10), (true, 11), (true, 12), (true, 13)] (by kernel_rfl) (by kernel_rfl) (fun _ _ d _ _ h => by cases d <;> exact h) ?_
            have hb : Below W5.heap.size W5 W5.drew := (Below.refl _ _).drew
            iterate 9
              refine wpS_takeL rfl rfl ?_
              go_big_quiet_step (rfl)
              refine wpQuiet_nil ?_
            refine wpS_doL rfl ?_
            intro K hK
            go_wp2_with ((go_at_call 21; (with_reducible refine (Left_is t D N X Y O _ a b _ (HS5.out.of hb) (some c) HLO.out).mono ?_); rintro e w2 ⟨rfl, hn⟩))
            replace hb := hb.trans (hn.mono hb.size)
            refine hK.out _ _ (up_iff.2 hb) ?_
            clear hK K
            clear hn
            iterate 4
              refine wpS_takeL rfl rfl ?_
              go_big_quiet_step (rfl)
              refine wpQuiet_nil ?_
            refine wpS_nil ?_
            simp only [List.drop_succ_cons, List.drop_zero]
            have KT6 := KT5.out.of hb
            have k0 := KT6.cell 0
            have k1 := KT6.cell 1
            have k2 := KT6.cell 2
            have s1 := (KS5.out.of hb).cell 0
            have ls1 := (KS5.out.of hb).lt
            have lt1 := KT6.lt
            simp only [List.getElem?_toArray, List.getElem?_cons_zero, List.getElem?_cons_succ] at k0 k1 k2 s1
            clear s0 f0 f1 f2 ls lt KT6
            have HB6 := Lib.hid (HB5.out.trans (hb.mono HB5.out.size))
            clear s1 ls1 hb
            go_wp2_with fail
            first | (rw [noP_normal]; go_wp2_with fail) | skip
            clear k0 k1 k2 lt1
            go_roundg (3 - (0 + 1))
            case measure => omega
            case rel => exact ⟨0 + 1, by rfl, by omega, Nat.le_refl _, HB6⟩
          · go_wp2_with fail
            refine name_world ?_
            intro W5 hW5
            have hb5 : Below wr.heap.size wr W5 := by rw [hW5]; exact Below.refl _ _
            have HB5 := Lib.hid (HB.out.trans (hb5.mono HB.out.size))
            have HBW5 := Lib.hid (HBW.out.trans (HB5.out.mono HBW.out.size))
            have HS5 := Lib.hid (HS3.out.of HBW5.out)
            have KT5 := Lib.hid (KT.out.of HB5.out)
            have KS5 := Lib.hid (KS3.out.of HBW5.out)
            clear hb5 hW5 HB
            have s0 : ∀ u : UpTo W5.heap.size W5, u.w.cell? ⟨sb, 0, none⟩ = some (ptr t 0) := fun u => (KS5.out.of u.below).cell 0
            have f0 : ∀ u : UpTo W5.heap.size W5, u.w.cell? ⟨tb, 0, none⟩ = some (.int .i64 (a : Nat)) := fun u => (KT5.out.of u.below).cell 0
            have f1 : ∀ u : UpTo W5.heap.size W5, u.w.cell? ⟨tb, 1, none⟩ = some (.int .i64 (b : Nat)) := fun u => (KT5.out.of u.below).cell 1
            have f2 : ∀ u : UpTo W5.heap.size W5, u.w.cell? ⟨tb, 2, none⟩ = some (.int .i64 (c : Nat)) := fun u => (KT5.out.of u.below).cell 2
            have ls := KS5.out.lt
            have lt := KT5.out.lt
            have HLO : Hid (leftO N O (b : Nat) (c : Nat) = some a) := Lib.hid ((leftO_of HLK.out.2.2.2.2.1).trans HLK.out.2.1)
            refine wp_noP ?_
            refine wp_region_up W5.heap.size 14 [(true, 0), (true, 1), (true, 2), (true, 3), (true, 4), (true, 5), (true, 6), (true, 7), (true, 8), (false, 9), (true, 10), (true, 11), (true, 12), (true, 13)] (by kernel_rfl) (by kernel_rfl) (fun _ _ d _ _ h => by cases d <;> exact h) ?_
            have hb : Below W5.heap.size W5 W5.drew := (Below.refl _ _).drew
            iterate 9
              refine wpS_takeL rfl rfl ?_
              go_big_quiet_step (rfl)
              refine wpQuiet_nil ?_
            refine wpS_doL rfl ?_
            intro K hK
            go_wp2_with ((go_at_call 21; (with_reducible refine (Left_is t D N X Y O _ b c _ (HS5.out.of hb) (some a) HLO.out).mono ?_); rintro e w2 ⟨rfl, hn⟩))
            replace hb := hb.trans (hn.mono hb.size)
            refine hK.out _ _ (up_iff.2 hb) ?_
            clear hK K
            clear hn
            iterate 4
              refine wpS_takeL rfl rfl ?_
              go_big_quiet_step (rfl)
              refine wpQuiet_nil ?_
            refine wpS_nil ?_
            simp only [List.drop_succ_cons, List.drop_zero]
            have KT6 := KT5.out.of hb
            have k0 := KT6.cell 0
            have k1 := KT6.cell 1
            have k2 := KT6.cell 2
            have s1 := (KS5.out.of hb).cell 0
            have ls1 := (KS5.out.of hb).lt
            have lt1 := KT6.lt
            simp only [List.getElem?_toArray, List.getElem?_cons_zero, List.getElem?_cons_succ] at k0 k1 k2 s1
            clear s0 f0 f1 f2 ls lt KT6
            have HB6 := Lib.hid (HB5.out.trans (hb.mono HB5.out.size))
            clear s1 ls1 hb
            go_wp2_with fail
            first | (rw [noP_normal]; go_wp2_with fail) | skip
            clear k0 k1 k2 lt1
            go_roundg (3 - (1 + 1))
            case measure => omega
            case rel => exact ⟨1 + 1, by rfl, by omega, Nat.le_refl _, HB6⟩
          · go_wp2_with fail
            refine name_world ?_
            intro W5 hW5
            have hb5 : Below wr.heap.size wr W5 := by rw [hW5]; exact Below.refl _ _
            have HB5 := Lib.hid (HB.out.trans (hb5.mono HB.out.size))
            have HBW5 := Lib.hid (HBW.out.trans (HB5.out.mono HBW.out.size))
            have HS5 := Lib.hid (HS3.out.of HBW5.out)
            have KT5 := Lib.hid (KT.out.of HB5.out)
            have KS5 := Lib.hid (KS3.out.of HBW5.out)
            clear hb5 hW5 HB
            have s0 : ∀ u : UpTo W5.heap.size W5, u.w.cell? ⟨sb, 0, none⟩ = some (ptr t 0) := fun u => (KS5.out.of u.below).cell 0
            have f0 : ∀ u : UpTo W5.heap.size W5, u.w.cell? ⟨tb, 0, none⟩ = some (.int .i64 (a : Nat)) := fun u => (KT5.out.of u.below).cell 0
            have f1 : ∀ u : UpTo W5.heap.size W5, u.w.cell? ⟨tb, 1, none⟩ = some (.int .i64 (b : Nat)) := fun u => (KT5.out.of u.below).cell 1
            have f2 : ∀ u : UpTo W5.heap.size W5, u.w.cell? ⟨tb, 2, none⟩ = some (.int .i64 (c : Nat)) := fun u => (KT5.out.of u.below).cell 2
            have ls := KS5.out.lt
            have lt := KT5.out.lt
            have HLO : Hid (leftO N O (c : Nat) (a : Nat) = some b) := Lib.hid ((leftO_of HLK.out.2.2.2.2.2).trans HLK.out.2.2.1)
            refine wp_noP ?_
            refine wp_region_up W5.heap.size 14 [(true, 0), (true, 1), (true, 2), (true, 3), (true, 4), (true, 5), (true, 6), (true, 7), (true, 8), (false, 9), (true, 10), (true, 11), (true, 12), (true, 13)] (by kernel_rfl) (by kernel_rfl) (fun _ _ d _ _ h => by cases d <;> exact h) ?_
            have hb : Below W5.heap.size W5 W5.drew := (Below.refl _ _).drew
            iterate 9
              refine wpS_takeL rfl rfl ?_
              go_big_quiet_step (rfl)
              refine wpQuiet_nil ?_
            refine wpS_doL rfl ?_
            intro K hK
            go_wp2_with ((go_at_call 21; (with_reducible refine (Left_is t D N X Y O _ c a _ (HS5.out.of hb) (some b) HLO.out).mono ?_); rintro e w2 ⟨rfl, hn⟩))
            replace hb := hb.trans (hn.mono hb.size)
            refine hK.out _ _ (up_iff.2 hb) ?_
            clear hK K
            clear hn
            iterate 4
              refine wpS_takeL rfl rfl ?_
              go_big_quiet_step (rfl)
              refine wpQuiet_nil ?_
            refine wpS_nil ?_
            simp only [List.drop_succ_cons, List.drop_zero]
            have KT6 := KT5.out.of hb
            have k0 := KT6.cell 0
            have k1 := KT6.cell 1
            have k2 := KT6.cell 2
            have s1 := (KS5.out.of hb).cell 0
            have ls1 := (KS5.out.of hb).lt
            have lt1 := KT6.lt
            simp only [List.getElem?_toArray, List.getElem?_cons_zero, List.getElem?_cons_succ] at k0 k1 k2 s1
            clear s0 f0 f1 f2 ls lt KT6
            have HB6 := Lib.hid (HB5.out.trans (hb.mono HB5.out.size))
            clear s1 ls1 hb
            go_wp2_with fail
            first | (rw [noP_normal]; go_wp2_with fail) | skip
            clear k0 k1 k2 lt1
            go_roundg (3 - (2 + 1))
            case measure => omega
            case rel => exact ⟨2 + 1, by rfl, by omega, Nat.le_refl _, HB6⟩
          · have HB9 := Lib.hid (HBW.out.trans (HB.out.mono HBW.out.size))
            go_wp2_with fail
            go_roundg (n - (m + 1 + 1))
            case measure => omega
            case rel => exact ⟨m + 1 + 1, by norm_cast, by omega, Nat.le_refl _, HB9⟩
    · have hin : i = n := by omega
      have HS4 := Lib.hid (HS3.out.of HB.out)
      have KS4 := Lib.hid (KS3.out.of HB.out)
      have KR4 := Lib.hid (KR3.out.of HB.out)
      have KD4 := Lib.hid (KD3.out.of HB.out)
      have B4 := Lib.hid (B3.out.trans (HB.out.mono B3.out.size))
      have hw4 := HB.out.size
      have s0 := KS4.out.cell 0
      have ls := KS4.out.lt
      simp only [List.getElem?_toArray, List.getElem?_cons_zero] at s0
      clear HB hlt
      go_wp2_with fail
      refine (Points_is t D N X Y O _ wr HS4.out).mono ?_
      rintro e V4 ⟨po, rfl, hpt, hb4⟩
      have HS5 := Lib.hid (HS4.out.of hb4)
      have KS5 := Lib.hid (KS4.out.of hb4)
      have KR5 := Lib.hid (KR4.out.of hb4)
      have KD5 := Lib.hid (KD4.out.of hb4)
      have B5 := Lib.hid (B4.out.trans (hb4.mono B4.out.size))
      have hw5 : db < V4.heap.size := by have := hb4.size; omega
      have hsm := HS4.out.small
      have HDT := Lib.hid (show ∀ b, D.has t N b → b < sb by intro b hb; have := HS0.out.lt hb; omega)
      have HPT := Lib.hid (show ∀ a, D.po = some a → 0 < N → a.block < sb by intro a h1 h2; obtain ⟨a', q1, q2, _⟩ := HS0.out.pts.ptr h2; rw [h1] at q1; injection q1 with q1; subst q1; omega)
      have HSU : Hid (∀ k, k ≤ N → sumO O k ≤ 3 * n) := Lib.hid fun k hk => by rw [← HWS.out.sum]; exact sumM_mono hk
      have HSE : Hid (sumO O N = 3 * n) := Lib.hid HWS.out.sum
      clear hb4 hpt HS4 KS4 KR4 KD4 B4 s0 ls hw4
      go_wp2_with fail
      refine wp_loop_tm (fun f => #[f 0, f 1, f 2, f 3, f 4, f 5, f 6, f 7, f 8, f 9, f 10, f 11, f 12, f 13, f 14, f 15, f 16, f 17, f 18, f 19, f 20, f 21, f 22, f 23, f 24, f 25, f 26, f 27, f 28, f 29, f 30, f 31, f 32, f 33, f 34, f 35, f 36, f 37, f 38, f 39, f 40, f 41, f 42, f 43, f 44, f 45, f 46, f 47, f 48, f 49, f 50, f 51, f 52, f 53, f 54, f 55, f 56, f 57, f 58, f 59, f 60, f 61, f 62, f 63, f 64, f 65, f 66, f 67, f 68, f 69, f 70, f 71, f 72, f 73, f 74, f 75, f 76, f 77, f 78, f 79, f 80, f 81, f 82, f 83, f 84, f 85, f 86, f 87, f 88, f 89, f 90, f 91, f 92, f 93, f 94, f 95, f 96, f 97, f 98, f 99, f 100, f 101, f 102, f 103, f 104, f 105, f 106, f 107, f 108, f 109, f 110, f 111, f 112, f 113, f 114, f 115, f 116, f 117, f 118, f 119, f 120, f 121, f 122, f 123, f 124, f 125, f 126, f 127, f 128]) (fun gk f ds wr => ∃ a : Nat, (f 0 = ptr t 0 ∧ f 1 = ptr sb 0 ∧ f 2 = ptr rb 0 ∧ f 3 = .slice ao n cap ∧ f 4 = ptr db 0 ∧ f 87 = .int .i64 (N : Nat) ∧ f 88 = .int .i64 (a : Nat)) ∧ (a ≤ N ∧ N - a ≤ gk ∧ Hid (Blk wr db #[.int .i64 (sumO O a : Nat)] 3) ∧ Hid (Fr V4 wr (fun b => b = db)) ∧ Hid (Marks db wr ds) ∧ Hid (∀ d, d ∈ ds → ∀ r, d.target = .collected r → r < wr.heap.size))) N _ _ _ ?shape ?start ?round
      case shape => rfl
      case start => exact ⟨0, ⟨rfl, rfl, rfl, rfl, rfl, rfl, rfl⟩, by omega, by omega, KD5, Lib.hid ⟨rfl, rfl, rfl, Nat.le_refl _, fun _ _ _ => rfl⟩, Lib.hid trivial, Lib.hid fun d hd => by cases hd⟩
      case round =>
        intro gk2 f ds wr2 hinv J K hJ hK
        obtain ⟨a, ⟨e0, e1, e2, e3, e4, e87, e88⟩, ha, hgk2, HD, HF, HMK, HML⟩ := hinv
        simp only []
        rw [e0, e1, e2, e3, e4, e87, e88]
        clear e0 e1 e2 e3 e4 e87 e88
        have KS6 := Lib.hid (HF.out.blk KS5.out (by omega))
        have hz6 := HF.out.size
        have HS6 := Lib.hid (HS5.out.fr HF.out (fun b hb => by have := HDT.out b hb; omega) fun a h1 h2 => by have := HPT.out a h1 h2; omega)
        by_cases haN : a < N
        · have s0 := KS6.out.cell 0
          have ls := KS6.out.lt
          simp only [List.getElem?_toArray, List.getElem?_cons_zero] at s0
          go_wp2_with fail
          refine calls_w ?_
          intro V5 hV5
          have hb5 : Below wr2.heap.size wr2 V5 := by rw [hV5]; exact below_a2 _ _ _
          have ka : Blk V5 wr2.heap.size #[.int .i64 (a : Nat)] 3 := by rw [hV5]; exact (Blk.new _ _ _).of (below_a1 _ _)
          have kl : Blk V5 (wr2.heap.size + 1) #[.int .i64 (-1)] 3 := by rw [hV5]; have := Blk.new (wr2.alloc (.cells #[.int .i64 (a : Nat)] 3)) #[.int .i64 (-1)] 3; simpa using this
          obtain ⟨ab, eab⟩ : ∃ b, wr2.heap.size = b := ⟨_, rfl⟩
          obtain ⟨lb, elb⟩ : ∃ b, wr2.heap.size + 1 = b := ⟨_, rfl⟩
          rw [elb] at kl
          rw [eab] at ka
          rw [elb, eab]
          have p1 : db < ab := by have := HD.out.lt; omega
          have p2 : ab < lb := by omega
          clear hV5 s0 ls elb
          refine (Around_is t a V5).mono ?_
          rintro e V6 ⟨rfl, kcs, kca, hb6⟩
          have hb56 := hb5.trans (hb6.mono hb5.size)
          have HD6 := Lib.hid (HD.out.of hb56)
          have KS7 := Lib.hid (KS6.out.of hb56)
          have HS7 := Lib.hid (HS6.out.of hb56)
          have KA7 := Lib.hid (ka.of hb6)
          have KL7 := Lib.hid (kl.of hb6)
          have HF7 := Lib.hid (HF.out.trans (Fr.ofBelow (S := fun _ => False) hb56) (fun b hb => hb.elim))
          have MK7 := Lib.hid (HMK.out.keep fun r _ h2 => hb56.block r h2)
          have KC := Lib.hid (And.intro kcs kca)
          obtain ⟨cs, ecs⟩ : ∃ b, V5.heap.size = b := ⟨_, rfl⟩
          rw [show V5.heap.size + 1 = cs + 1 by rw [ecs], ecs] at KC ⊢
          have p3 : lb < cs := by have := kl.lt; omega
          have p4 : cs + 1 < V6.heap.size := by have := kca.lt; omega
          have p5 : V4.heap.size ≤ ab := by omega
          have p6 : ab < V6.heap.size := by omega
          have ML7 : Hid (∀ d, d ∈ ds → ∀ r, d.target = .collected r → r < ab) := Lib.hid fun d hd r hr => by have := HML.out d hd r hr; omega
          clear kcs kca ecs ka kl hb5 hb6 hb56 HD KS6 HS6 HF HMK HML eab hz6
          obtain ⟨lr, hlr⟩ : ∃ l, (O a).length = l := ⟨_, rfl⟩
          have HLR := Lib.hid hlr
          have hrow : rowO N O (a : Int) = O a := by unfold rowO; rw [if_pos (by omega)]; rfl
          have hT := Around1_tells cs (cs + 1) t D N X Y O (n : Nat) a (O a) hrow (V6.heap.size + 2)
          rw [hlr] at hT
          have hbd : sumO O a + lr ≤ 3 * n := by have := HSU.out (a + 1) (by omega); rw [← hlr]; exact this
          clear hlr hrow
          go_wp2_with fail
          refine wp_rangeXN (gf := 67) (lb := #[ptr cs 0, ptr (cs + 1) 0]) (N := lr) (encs := arE (O a)) (Kp := fun W => Blk W cs #[ptr t 0] 25 ∧ Blk W (cs + 1) #[.int .i64 (a : Nat)] 3 ∧ SM W t D N X Y O (n : Nat)) rfl (fun args w => by go_simp) hT (fun _ => rfl)
            (fun k W => ∃ x : Int, Blk W lb #[.int .i64 x] 3 ∧ Blk W db #[.int .i64 (sumO O a + k : Nat)] 3 ∧ Fr V6 W (fun b => b = lb ∨ b = db) ∧ (∀ e, (O a)[k]? = some e → x < (e.1 : Int))) ?stable ?keeps ?start ?round ?post
          case stable =>
            rintro k W W' ⟨x, j1, j2, j3, j4⟩ hbl
            exact ⟨x, j1.below hbl (by omega), j2.below hbl (by omega), j3.trans (S' := fun b => V6.heap.size ≤ b) ⟨hbl.os, hbl.tape, hbl.output, hbl.size, fun k _ hk => hbl.block k (by omega)⟩ (fun _ h => .inr h), j4⟩
          case keeps =>
            rintro k W ⟨x, j1, j2, j3, j4⟩
            exact ⟨j3.blk KC.out.1 (by omega), j3.blk KC.out.2 (by omega), HS7.out.fr j3 (fun b hb => by have := HDT.out b hb; omega) fun a h1 h2 => by have := HPT.out a h1 h2; omega⟩
          case start => exact ⟨-1, KL7.out, HD6.out, ⟨rfl, rfl, rfl, Nat.le_refl _, fun _ _ _ => rfl⟩, fun e _ => by omega⟩
          case round =>
            rintro l2 D2 k G W2 hk hG ⟨x, j1, j2, j3, j4⟩ g1 g2 g3 g4
            obtain ⟨⟨b, c⟩, hx⟩ : ∃ x, (O a)[k]? = some x := ⟨_, List.getElem?_eq_getElem (show k < (O a).length by rw [HLR.out]; exact hk)⟩
            have hE : arE (O a) k = #[.int .i64 (b : Nat), .int .i64 (c : Nat)] := by unfold arE; rw [List.getD_eq_getElem?_getD, hx]; rfl
            rw [hE]
            have J4 := j4 _ hx
            simp only [] at J4
            have HX := Lib.hid hx
            have JJ := Lib.hid (And.intro j1 (And.intro j2 j3))
            clear j1 j2 j3 j4 hE hx hT
            gi_wp2_with fail
            refine ⟨⟨Fix2.of (OutL.refl [] _) g3 g4 (by simp) (by simp), AboveX.refl _ _ _⟩, ?_⟩
            intro W3 hW3
            obtain ⟨j1, j2, j3⟩ := JJ.out
            have hs3 := hW3.size
            have z2 := j3.size
            have F3 : Fr V6 W3 (fun b => b = lb ∨ b = db) := j3.trans (S' := fun b => V6.heap.size ≤ b) ⟨hW3.os, hW3.tape, hW3.output, hW3.size, fun g hg hn => hW3.block g hg (by simp; omega)⟩ (fun _ h => .inr h)
            have k1 := j1.outl hW3 (by simp; omega)
            have k2 := j2.outl hW3 (by simp; omega)
            have S3 := Lib.hid (HS7.out.fr F3 (fun b hb => by have := HDT.out b hb; omega) fun a h1 h2 => by have := HPT.out a h1 h2; omega)
            have hz3 := F3.size
            have s0 := (F3.blk KS7.out (by omega)).cell 0
            have ls := (F3.blk KS7.out (by omega)).lt
            have a0 := (F3.blk KA7.out (by omega)).cell 0
            have la := (F3.blk KA7.out (by omega)).lt
            simp only [List.getElem?_toArray, List.getElem?_cons_zero] at s0 a0
            have KK := Lib.hid (And.intro k1 (And.intro k2 F3))
            clear JJ j1 j2 j3 hW3 k1 k2 F3
            gi_wp2_with fail
            refine ⟨trivial, CallsIn.inRound l2 (callsIn_wide.2 ?_)⟩
            have HLO : Hid (leftO N O (a : Nat) (b : Nat) = some c) := Lib.hid ((leftO_of haN).trans ((look_mem (HWS.out.cyc.srt a)).1 (List.mem_iff_getElem?.2 ⟨k, HX.out⟩)))
            refine (Left_is t D N X Y O _ a b W3 S3.out (some c) HLO.out).mono ?_
            rintro e W4 ⟨rfl, hb4⟩
            clear s0 ls a0 la S3
            obtain ⟨i1, i2, F3⟩ := KK.out
            have k1 := i1.of hb4
            have k2 := i2.of hb4
            have hs4 := hb4.size
            clear i1 i2
            have x0 := k1.cell 0
            have d0 := k2.cell 0
            have lx := k1.lt
            have ld := k2.lt
            have fx := k1.free 0
            have fd := k2.free 0
            simp only [List.getElem?_toArray, List.getElem?_cons_zero] at x0 d0
            obtain ⟨m, hm⟩ : ∃ m, sumO O a + k = m := ⟨_, rfl⟩
            rw [hm] at d0 k2
            have hm9 : m < 1000000000 := by omega
            have HM := Lib.hid hm
            have hle : decide ((b : Int) ≤ x) = false := by simp; omega
            have GG : Hid (∀ W6 : World, W6 = (W4.setCell ⟨lb, 0, none⟩ (.int .i64 (b : Nat))).setCell ⟨db, 0, none⟩ (.int .i64 ((m : Int) + 1)) →
                (Fix2 l2 D2 W3 W6 ∧ ∃ G' : Nat → Prop, (∀ g, G' g → G g ∨ W3.heap.size ≤ g) ∧ (∀ g, ¬ G' g) ∧ ∃ x : Int, Blk W6 lb #[.int .i64 x] 3 ∧ Blk W6 db #[.int .i64 (sumO O a + (k + 1) : Nat)] 3 ∧ Fr V6 W6 (fun b => b = lb ∨ b = db) ∧ (∀ e, (O a)[k + 1]? = some e → x < (e.1 : Int))) ∧ AboveX (V6.heap.size + 2) G W3 W6) := by
              refine Lib.hid ?_
              rintro W6 rfl
              have q1 : ∀ g, g ≠ lb → g ≠ db → ((W4.setCell ⟨lb, 0, none⟩ (.int .i64 (b : Nat))).setCell ⟨db, 0, none⟩ (.int .i64 ((m : Int) + 1))).heap[g]? = W4.heap[g]? := fun g h1 h2 => (Below.heap_setCell _ ⟨db, 0, none⟩ _ g h2).trans (Below.heap_setCell _ ⟨lb, 0, none⟩ _ g h1)
              have q2 : ((W4.setCell ⟨lb, 0, none⟩ (.int .i64 (b : Nat))).setCell ⟨db, 0, none⟩ (.int .i64 ((m : Int) + 1))).heap.size = W4.heap.size := by simp [World.setCell]
              refine ⟨⟨⟨(q1 _ (by omega) (by omega)).trans (hb4.block _ (by omega)), (q1 _ (by omega) (by omega)).trans (hb4.block _ (by omega))⟩, fun _ => False, fun g h => h.elim, fun g h => h, (b : Nat), (k1.put 0 _).setO (b := db) (by omega) _, ?_, ?_, fun e he => ?_⟩, ⟨by omega, fun g h1 h2 _ => (q1 g (by omega) (by omega)).trans (hb4.block g h2)⟩⟩
              · have e : ((sumO O a + (k + 1) : Nat) : Int) = (m : Int) + 1 := by have := HM.out; omega
                rw [e]
                exact (k2.setO (b := lb) (by omega) _).put 0 _
              · exact (F3.trans (Fr.ofBelow (S := fun _ => False) hb4) (fun b hb => hb.elim)).trans (S' := fun b => b = lb ∨ b = db) ⟨rfl, rfl, rfl, by omega, fun g _ hn => q1 g (fun e => hn (.inl e)) (fun e => hn (.inr e))⟩ (fun _ h => .inl h)
              · have := HWS.out.cyc.srt a k (k + 1) _ e (by omega) HX.out he
                simp only [] at this
                omega
            clear k1 k2 hm KK hb4 F3 hs3 hs4 hz3 z2 hbd J4 HM
            gi_wp2_with fail
            exact GG.out _ rfl
          case post =>
            rintro W ⟨x, j1, j2, j3, j4⟩ hD
            have hsz := j3.size
            have HD8 : Hid (Blk W db #[.int .i64 (sumO O (a + 1) : Nat)] 3) := by
              have e : sumO O (a + 1) = sumO O a + lr := by rw [← HLR.out]; rfl
              rw [e]; exact Lib.hid j2
            have HF8 : Hid (Fr V4 W (fun b => b = db)) := Lib.hid (HF7.out.trans j3 (fun b hb => by rcases hb with h | h; exact .inr (by omega); exact .inl h))
            have MK8 : Hid (Marks db W ({ target := .collected V6.heap.size, args := #[] } :: ds)) := Lib.hid ⟨⟨V6.heap.size, rfl, by omega, hD, fun d hd r hr => by have := ML7.out d hd r hr; omega⟩, MK7.out.keepD fun d hd r hr h1 h2 => j3.block r h2 (by have := ML7.out d hd r hr; omega)⟩
            have ML8 : Hid (∀ d, d ∈ ({ target := .collected V6.heap.size, args := #[] } :: ds : List Deferred) → ∀ r, d.target = .collected r → r < W.heap.size) := Lib.hid fun d hd r hr => by
              rcases List.mem_cons.1 hd with rfl | hd
              · injection hr with hr
                have := (Array.getElem?_eq_some_iff.1 hD).1
                omega
              · have := ML7.out d hd r hr; omega
            clear j1 j2 j3 j4 hD hT
            go_wp2_with fail
            refine ⟨N - (a + 1), by omega, hJ _ _ _ _ rfl ⟨a + 1, ⟨rfl, rfl, rfl, rfl, rfl, rfl, ?_⟩, by omega, Nat.le_refl _, HD8, HF8, MK8, ML8⟩⟩
            show Value.int .i64 ((a : Int) + 1) = .int .i64 ((a + 1 : Nat) : Int)
            norm_cast
        · obtain rfl : a = N := by omega
          have d0 := HD.out.cell 0
          have ld := HD.out.lt
          have s0 := KS6.out.cell 0
          have ls := KS6.out.lt
          rw [HSE.out] at d0
          have hen : ((3 * n : Nat) : Int) = 3 * (n : Int) := by omega
          simp only [List.getElem?_toArray, List.getElem?_cons_zero, hen] at d0 s0
          have KR6 := Lib.hid (HF.out.blk KR5.out (by omega))
          have B6 := Lib.hid (B5.out.trans (HF.out.below (B := w.heap.size) B5.out.size (fun k h => by omega)))
          clear hen HD
          go_wp2_with fail
          refine (edges_is t D _ X Y O n ao cap hn HWS.out wr2 HS6.out).mono ?_
          rintro e V7 ⟨rfl, hb7⟩
          have KR7 := Lib.hid (KR6.out.of hb7)
          have B7 := Lib.hid (B6.out.trans (hb7.mono B6.out.size))
          have MK7 := Lib.hid (HMK.out.keep fun r _ h2 => hb7.block r h2)
          have ML7 : Hid (∀ d, d ∈ ds → ∀ r, d.target = .collected r → r < V7.heap.size) := Lib.hid fun d hd r hr => Nat.lt_of_lt_of_le (HML.out d hd r hr) hb7.size
          have lr := KR7.out.lt
          have fr := KR7.out.free 0
          have r0 := KR7.out.cell 0
          simp only [List.getElem?_toArray, List.getElem?_cons_zero] at r0
          clear hb7 KR6 B6 HMK HML HF KS6 HS6 d0 ld s0 ls
          go_wp2
          have B8 : Below w.heap.size w (V7.setCell ⟨rb, 0, none⟩ (.bool true)) := B7.out.setCell (p := ⟨rb, 0, none⟩) (by show w.heap.size ≤ rb; omega) (.bool true)
          have KR8 := KR7.out.put 0 (.bool true)
          have hz8 : (V7.setCell ⟨rb, 0, none⟩ (.bool true)).heap.size = V7.heap.size := by simp [World.setCell]
          have hz7 := B7.out.size
          have MK8 : Marks db (V7.setCell ⟨rb, 0, none⟩ (.bool true)) ds := MK7.out.keep fun r h1 h2 => Below.heap_setCell V7 ⟨rb, 0, none⟩ _ r (by show r ≠ rb; omega)
          have MG := marks_gt MK7.out
          refine leaves_marks (B := w.heap.size) (y := db) (by omega) (fun g => g = rb) _ _ (by omega) MK8 (fun d hd r hr => by have := MG d hd r hr; omega) fun w' hb => ?_
          have c4 := (show Blk w' rb _ _ from (hb.2 rb rfl (by omega)).trans KR8).cell 0
          simp at c4
          exact ⟨_, by simp [results, Try.results26, go_sem, c4], rfl, B8.trans hb.1⟩
end Go.Proofs.Ytdlpfiiakmhnlaa

namespace Go.Proofs.Ytdlpfiiakmhnlaa
open Go.RowKit

/-- a triangulation, as a list of triangles -/
structure RT (N : Nat) (X Y : Nat → Int) (L : List Tri3) (H : List Nat) : Prop where
  lt : ∀ x, x ∈ L → x.1 < N ∧ x.2.1 < N ∧ x.2.2 < N
  pos : ∀ x, x ∈ L → 0 < wy X Y x.1 x.2.1 x.2.2
  emp : ∀ x, x ∈ L → ∀ k, k < N → k ≠ x.1 → k ≠ x.2.1 → k ≠ x.2.2 → inT X Y (X k) (Y k) x < 0
  nom : ∀ (i k : Nat) (x y : Tri3), k < i → L[i]? = some x → L[k]? = some y → NoM X Y x y
  use : ∀ k, k < N → ∃ x, x ∈ L ∧ (k = x.1 ∨ k = x.2.1 ∨ k = x.2.2)
  area : arT X Y L = fanS X Y H (H.length - 2)
/-- a sum in a variable, its digits above B -/
def SumF (w : World) (B b : Nat) (z : Int) : Prop := ∃ neg a l c, Blk w b #[.bool neg, .slice a l c] 109 ∧ Big w (.agg #[.bool neg, .slice a l c]) z 12 ∧ (a = none ∨ ∃ g, a = some ⟨g, 0, none⟩ ∧ B ≤ g)
theorem SumF.of {w w' : World} {B b : Nat} {z : Int} (h : SumF w B b z) (hb : Below w.heap.size w w') : SumF w' B b z := by
  obtain ⟨neg, a, l, c, h1, h2, h3⟩ := h
  exact ⟨neg, a, l, c, h1.of hb, h2.of hb, h3⟩
theorem SumF.fr {w w' : World} {B b : Nat} {z : Int} {S : Nat → Prop} (h : SumF w B b z) (hf : Fr w w' S) (hS : ∀ k, S k → k < B ∧ k ≠ b) : SumF w' B b z := by
  obtain ⟨neg, a, l, c, h1, ⟨n2, ao, bd, cap, ds, e, hs, r⟩, h3⟩ := h
  refine ⟨neg, a, l, c, hf.blk h1 (fun h => (hS _ h).2 rfl), ⟨n2, ao, bd, cap, ds, e, ⟨hs.ptr, hs.nil, hs.capl, hs.len, hs.capb, fun i hi => ?_, fun h => Nat.lt_of_lt_of_le (hs.blk h) hf.size⟩, r⟩, h3⟩
  injection e with e; injection e with e
  simp at e
  have hp := hs.ptr (by omega)
  have hbd : B ≤ bd := by
    rcases h3 with h3 | ⟨g, h3, hg⟩
    · rw [h3] at e
      rw [← e.2.1] at hp; cases hp
    · rw [h3] at e
      rw [← e.2.1] at hp
      injection hp with hp; injection hp with hp
      omega
  exact (hf.cell (p := ⟨bd, i, none⟩) (hs.blk (by omega)) (fun h => by have := (hS _ h).1; simp only [] at this; omega)).trans (hs.cell i hi)
theorem make_intsN (k : Nat) (hk : k ≤ 1000000) : ∃ MC : Array Value, (∀ w, Sem.run Try.prog (Instr.makeSlice 29 (.int .i64 (k : Nat)) (.int .i64 (k : Nat))) w = .ok (.slice (some ⟨w.heap.size, 0, none⟩) k k) (w.alloc (.cells MC 3))) ∧ MC.size = k ∧ ∀ j, j < k → MC[j]? = some (.int .i64 0) := by
  obtain ⟨i0, hi, hz0, hz1, hz2⟩ := info_parts info_int
  refine ⟨madeCells (Value.int .i64 0).cells (k * 1), fun w => ?_, ?_, fun j hj => ?_⟩
  · have := run_makeSlice (P := Try.prog) w 29 3 i0 (.int .i64 0) Try.underlying29 hi hz0 .i64 .i64 (k : Nat) (k : Nat) (by omega) (Int.le_refl _) (by rw [hz1]; simp; omega) (by rw [hz2]; omega) (by omega)
    rw [hz1] at this
    simpa using this
  · unfold madeCells
    simp [Value.cells]
  · unfold madeCells
    simp [Value.cells, hj, Nat.mod_one]
/-- what is counted of the first triangles' corners -/
def US (N : Nat) (L : List Tri3) (i B : Nat) (f : Nat → Int) : Prop := (∀ j, j < N → 0 ≤ f j ∧ f j ≤ (B : Int)) ∧ ∀ (j : Nat) (y : Tri3), j < i → L[j]? = some y → 1 ≤ f y.1 ∧ 1 ≤ f y.2.1 ∧ 1 ≤ f y.2.2
theorem US.inc {N : Nat} {L : List Tri3} {i B : Nat} {f : Nat → Int} (h : US N L i B f) (a : Nat) : US N L i (B + 1) (fun j => if j = a then f a + 1 else f j) := by
  refine ⟨fun j hj => ?_, fun j y hj hy => ?_⟩
  · have := h.1 j hj
    show 0 ≤ (if j = a then f a + 1 else f j) ∧ (if j = a then f a + 1 else f j) ≤ _
    split
    · rename_i e; subst e; omega
    · omega
  · obtain ⟨h1, h2, h3⟩ := h.2 j y hj hy
    have key : ∀ z, 1 ≤ f z → 1 ≤ (if z = a then f a + 1 else f z) := fun z hz => by
      split
      · rename_i e; subst e; omega
      · exact hz
    exact ⟨key _ h1, key _ h2, key _ h3⟩
theorem inc_ge {f : Nat → Int} {a z : Nat} (h : z = a → 0 ≤ f a) (h2 : z ≠ a → 1 ≤ f z) : 1 ≤ (if z = a then f a + 1 else f z) := by
  split
  · rename_i e; have := h e; omega
  · rename_i e; exact h2 e
theorem neI {k a : Nat} (h : k ≠ a) : (((k : Nat) : Int) != ((a : Nat) : Int)) = true ∧ (k != a) = true ∧ decide (k = a) = false ∧ (((k : Nat) : Int) == ((a : Nat) : Int)) = false ∧ (k == a) = false := ⟨by simp; omega, by simpa using h, by simpa using h, by simp; omega, by simpa using h⟩
theorem eqI {k a : Nat} (h : k = a) : (((k : Nat) : Int) != ((a : Nat) : Int)) = false ∧ (k != a) = false ∧ decide (k = a) = true ∧ (((k : Nat) : Int) == ((a : Nat) : Int)) = true ∧ (k == a) = true := by subst h; exact ⟨by simp, by simp, by simp, by simp, by simp⟩
theorem arT_take {X Y : Nat → Int} {L : List Tri3} {i : Nat} {x : Tri3} (hx : L[i]? = some x) : arT X Y (L.take (i + 1)) = arT X Y (L.take i) + gT X Y x.1 x.2.1 x.2.2 := by
  rw [List.take_add_one, hx, arT_app]
  unfold arT; simp
theorem arT_bd {N : Nat} {X Y : Nat → Int} (hg : allC N X Y = true) : ∀ (L : List Tri3), (∀ x, x ∈ L → x.1 < N ∧ x.2.1 < N ∧ x.2.2 < N) → -(38685626227668133590597632 * (L.length : Int)) ≤ arT X Y L ∧ arT X Y L ≤ 38685626227668133590597632 * (L.length : Int)
  | [], _ => by unfold arT; simp
  | x :: l, h => by
    have h1 := arT_bd hg l fun y hy => h y (List.mem_cons_of_mem _ hy)
    obtain ⟨a, b, c⟩ := h x (List.mem_cons_self ..)
    have h2 := gT_bd hg a b c
    have e : arT X Y (x :: l) = gT X Y x.1 x.2.1 x.2.2 + arT X Y l := by unfold arT; simp
    have e2 : ((x :: l).length : Int) = (l.length : Int) + 1 := by simp
    rw [e, e2]; omega
set_option maxRecDepth 100000 in
set_option maxHeartbeats 8000000 in
theorem Right_is (po : Option Addr) (N pc : Nat) (X Y : Nat → Int) (ao : Option Addr) (cap : Nat) (L : List Tri3) (n : Nat) (H : List Nat) (r : Nat) (w : World) (hP : Pts w po N pc X Y) (hN : N ≤ 24) (hg : allC N X Y = true) (hT : Trs w ao cap L) (hn : L.length = n) (hn60 : n ≤ 60)
    (hR : RT N X Y L H) (hC : RC N X Y H) (hH : H.length = r + 2) (hf : ∃ i, 2 ≤ i ∧ i < N ∧ wy X Y 0 1 i ≠ 0) :
    Calls Try.prog 25 #[.slice po N pc, .slice ao n cap] w fun e w' => e = .returned (.bool true) ∧ Below w.heap.size w w' := by
  have HP := Lib.hid hP
  have HG := Lib.hid hg
  have HT := Lib.hid hT
  have HLN := Lib.hid hn
  have HR := Lib.hid hR
  have HC := Lib.hid hC
  have HH := Lib.hid hH
  have HFL := Lib.hid hf
  have hpcl := hP.capl
  have hpcb := hP.capb
  have hcl := hT.capl
  have hcb := hT.capb
  rw [hn] at hcl
  clear hP hg hT hn hR hC hH hf
  go_enter Try.func25, Try.ntmps25
  go_wp2_with fail
  refine (Flat_is po N pc X Y w HP.out (by omega)).mono ?_
  rintro e W1 ⟨b, rfl, hfb, hb1⟩
  obtain rfl : b = false := by
    cases b with
    | false => rfl
    | true =>
      obtain ⟨i, h1, h2, h3⟩ := HFL.out
      exact absurd (hfb.1 rfl i h1 h2) h3
  have B1 := Lib.hid hb1
  clear hfb hb1
  obtain ⟨MC, hmk, hms, hmz⟩ := make_intsN N (by omega)
  have HMZ := Lib.hid (And.intro hms hmz)
  clear hms hmz
  go_wp2_with fail
  refine name_world ?_
  intro V hV
  have hb0 : Below W1.heap.size W1 V := by rw [hV]; exact below_a2 _ _ _
  have ku : Blk V W1.heap.size MC 3 := by rw [hV]; exact (Blk.new _ _ _).of (below_a1 _ _)
  have ks : Blk V (W1.heap.size + 1) #[.bool false, .slice none 0 0] 109 := by rw [hV]; have := Blk.new (W1.alloc (.cells MC 3)) #[.bool false, .slice none 0 0] 109; simpa using this
  obtain ⟨ub, eub⟩ : ∃ b, W1.heap.size = b := ⟨_, rfl⟩
  obtain ⟨sb, esb⟩ : ∃ b, W1.heap.size + 1 = b := ⟨_, rfl⟩
  have hwu : w.heap.size ≤ ub := by have := B1.out.size; omega
  rw [esb] at ks
  rw [eub] at ku
  rw [esb, eub]
  have BV := Lib.hid (B1.out.trans (hb0.mono B1.out.size))
  have KS0 : Hid (SumF V (sb + 1) sb (arT X Y (L.take 0))) := Lib.hid ⟨false, none, 0, 0, ks, Big.zero _ _, .inl rfl⟩
  have KU0 : Hid (RowI V ub N N (fun _ => 0)) := Lib.hid ⟨MC, ku, Nat.le_refl _, by unfold maxLen; omega, HMZ.out.1, fun k hk => HMZ.out.2 k hk⟩
  have hus : ub < sb := by omega
  have hsV : sb < V.heap.size := ks.lt
  clear hV hb0 ku ks eub esb hmk HMZ B1
  go_wp2_with fail
  go_loopg [7] n (fun gk s7 wr => ∃ (i : Nat) (f : Nat → Int), s7 = .int .i64 (i : Nat) ∧ i ≤ n ∧ n - i ≤ gk ∧ Hid (SumF wr (sb + 1) sb (arT X Y (L.take i))) ∧ Hid (RowI wr ub N N f) ∧ Hid (US N L i (3 * i) f) ∧ Hid (Below w.heap.size w wr) ∧ sb < wr.heap.size)
  case atStart => exact ⟨0, _, rfl, by omega, by omega, KS0, KU0, Lib.hid ⟨fun j _ => ⟨Int.le_refl _, by show (0 : Int) ≤ ((3 * 0 : Nat) : Int); omega⟩, fun j y h => by omega⟩, BV, hsV⟩
  case round =>
    clear BV KS0 KU0 hsV
    obtain ⟨i, f, rfl, hi, hgi, KS, KU, HU, HB, hsw⟩ := hrel
    by_cases hlt : i < n
    · obtain ⟨⟨a, b, c⟩, hx⟩ : ∃ x, L[i]? = some x := ⟨_, List.getElem?_eq_getElem (show i < L.length by rw [HLN.out]; exact hlt)⟩
      have hmem := List.mem_iff_getElem?.2 ⟨i, hx⟩
      obtain ⟨haN, hbN, hcN⟩ := HR.out.lt _ hmem
      have hpos := HR.out.pos _ hmem
      simp only [] at haN hbN hcN hpos
      have HX := Lib.hid (And.intro hx hmem)
      obtain ⟨g, rfl, hgw, hcell⟩ := (HT.out.of HB.out).ptr (by rw [HLN.out]; omega)
      obtain ⟨p0, p1, p2⟩ := hcell i _ hx
      simp only [] at p0 p1 p2
      clear hx hmem hcell
      go_wp2_with fail
      refine name_world ?_
      intro W hW
      have hbW : Below wr.heap.size wr W := by rw [hW]; exact below_a1 _ _
      have kt : Blk W wr.heap.size #[.int .i64 (a : Nat), .int .i64 (b : Nat), .int .i64 (c : Nat)] 35 := by rw [hW]; exact Blk.new _ _ _
      obtain ⟨tb, etb⟩ : ∃ b, wr.heap.size = b := ⟨_, rfl⟩
      rw [etb] at kt ⊢
      have hst : sb < tb := by omega
      have htW : tb < W.heap.size := kt.lt
      have KT := Lib.hid kt
      have KSW := Lib.hid (KS.out.of hbW)
      have KUW : Hid (RowI W ub N N f) := by
        obtain ⟨cur, h1, h2⟩ := KU.out
        exact Lib.hid ⟨cur, (hbW.block ub (by omega)).trans h1, h2⟩
      have HBW := Lib.hid (HB.out.trans (hbW.mono HB.out.size))
      clear hW hbW kt p0 p1 p2 hgw KS KU HB hsw etb
      go_wp2_with fail
      go_loopg [9] 3 (fun gk s9 wr => ∃ (k : Nat) (f : Nat → Int), s9 = .int .i64 (k : Nat) ∧ k ≤ 3 ∧ 3 - k ≤ gk ∧ Hid (RowI wr ub N N f) ∧ Hid (US N L i (3 * i + k) f) ∧ Hid ((0 < k → 1 ≤ f a) ∧ (1 < k → 1 ≤ f b) ∧ (2 < k → 1 ≤ f c)) ∧ Hid (Fr W wr (fun b => b = ub)))
      case atStart => exact ⟨0, f, rfl, by omega, by omega, KUW, HU, Lib.hid ⟨fun h => by omega, fun h => by omega, fun h => by omega⟩, Lib.hid ⟨rfl, rfl, rfl, Nat.le_refl _, fun _ _ _ => rfl⟩⟩
      case round =>
        clear KUW HU
        obtain ⟨k, f, rfl, hk, hgk, KU, HU, HE, HF⟩ := hrel
        have hzF := HF.out.size
        have kT := HF.out.blk KT.out (by omega)
        have k0 := kT.cell 0
        have k1 := kT.cell 1
        have k2 := kT.cell 2
        have lt := kT.lt
        simp only [List.getElem?_toArray, List.getElem?_cons_zero, List.getElem?_cons_succ] at k0 k1 k2
        have KT2 := Lib.hid kT
        clear kT
        rcases (show k = 0 ∨ k = 1 ∨ k = 2 ∨ k = 3 by omega) with rfl | rfl | rfl | rfl
        · have u0 := KU.out.cell haN
          have uf := KU.out.free a
          have lu : ub < wr.heap.size := by omega
          have hu0 := HU.out.1 a haN
          obtain ⟨q, hq⟩ : ∃ q, f a = q := ⟨_, rfl⟩
          have HQ := Lib.hid hq
          rw [hq] at u0 hu0
          have hq1 : -9223372036854775808 ≤ q + 1 ∧ q + 1 ≤ 9223372036854775807 := by omega
          have h1 : ¬ ((N : Int) ≤ ((a : Nat) : Int)) := by omega
          clear hq
          go_wp2_with fail
          go_roundg (3 - (0 + 1))
          case measure => omega
          case rel =>
            rw [← HQ.out] at hu0
            refine ⟨0 + 1, _, by rfl, by omega, Nat.le_refl _, Lib.hid (KU.out.set haN _), Lib.hid ?_, Lib.hid ?_, Lib.hid ?_⟩
            · have := HU.out.inc a
              rw [HQ.out] at this
              exact this
            · rw [← HQ.out]
              exact ⟨fun _ => inc_ge (fun _ => hu0.1) (fun e => absurd rfl e), fun h => by omega, fun h => by omega⟩
            · exact HF.out.trans (S' := fun b => b = ub) ⟨rfl, rfl, rfl, by simp [World.setCell], fun g _ hn => Below.heap_setCell _ ⟨ub, a, none⟩ _ g hn⟩ (fun _ h => .inl h)
        · have u0 := KU.out.cell hbN
          have uf := KU.out.free b
          have lu : ub < wr.heap.size := by omega
          have hu0 := HU.out.1 b hbN
          obtain ⟨q, hq⟩ : ∃ q, f b = q := ⟨_, rfl⟩
          have HQ := Lib.hid hq
          rw [hq] at u0 hu0
          have hq1 : -9223372036854775808 ≤ q + 1 ∧ q + 1 ≤ 9223372036854775807 := by omega
          have h1 : ¬ ((N : Int) ≤ ((b : Nat) : Int)) := by omega
          clear hq
          go_wp2_with fail
          go_roundg (3 - (1 + 1))
          case measure => omega
          case rel =>
            rw [← HQ.out] at hu0
            refine ⟨1 + 1, _, by rfl, by omega, Nat.le_refl _, Lib.hid (KU.out.set hbN _), Lib.hid ?_, Lib.hid ?_, Lib.hid ?_⟩
            · have := HU.out.inc b
              rw [HQ.out] at this
              exact this
            · rw [← HQ.out]
              exact ⟨fun _ => inc_ge (fun _ => hu0.1) (fun _ => HE.out.1 (by omega)), fun _ => inc_ge (fun _ => hu0.1) (fun e => absurd rfl e), fun h => by omega⟩
            · exact HF.out.trans (S' := fun b => b = ub) ⟨rfl, rfl, rfl, by simp [World.setCell], fun g _ hn => Below.heap_setCell _ ⟨ub, b, none⟩ _ g hn⟩ (fun _ h => .inl h)
        · have u0 := KU.out.cell hcN
          have uf := KU.out.free c
          have lu : ub < wr.heap.size := by omega
          have hu0 := HU.out.1 c hcN
          obtain ⟨q, hq⟩ : ∃ q, f c = q := ⟨_, rfl⟩
          have HQ := Lib.hid hq
          rw [hq] at u0 hu0
          have hq1 : -9223372036854775808 ≤ q + 1 ∧ q + 1 ≤ 9223372036854775807 := by omega
          have h1 : ¬ ((N : Int) ≤ ((c : Nat) : Int)) := by omega
          clear hq
          go_wp2_with fail
          go_roundg (3 - (2 + 1))
          case measure => omega
          case rel =>
            rw [← HQ.out] at hu0
            refine ⟨2 + 1, _, by rfl, by omega, Nat.le_refl _, Lib.hid (KU.out.set hcN _), Lib.hid ?_, Lib.hid ?_, Lib.hid ?_⟩
            · have := HU.out.inc c
              rw [HQ.out] at this
              exact this
            · rw [← HQ.out]
              exact ⟨fun _ => inc_ge (fun _ => hu0.1) (fun _ => HE.out.1 (by omega)), fun _ => inc_ge (fun _ => hu0.1) (fun _ => HE.out.2.1 (by omega)), fun _ => inc_ge (fun _ => hu0.1) (fun e => absurd rfl e)⟩
            · exact HF.out.trans (S' := fun b => b = ub) ⟨rfl, rfl, rfl, by simp [World.setCell], fun g _ hn => Below.heap_setCell _ ⟨ub, c, none⟩ _ g hn⟩ (fun _ h => .inl h)
        · have HB2 := Lib.hid (HBW.out.trans (HF.out.below (B := w.heap.size) HBW.out.size (fun k h => by omega)))
          have KS2 := Lib.hid (KSW.out.fr HF.out (fun k hk => by omega))
          have HU2 : Hid (US N L (i + 1) (3 * (i + 1)) f) := by
            refine Lib.hid ⟨fun j hj => by have := HU.out.1 j hj; omega, fun j y hj hy => ?_⟩
            rcases Nat.lt_or_ge j i with h | h
            · exact HU.out.2 j y h hy
            · have e : j = i := by omega
              subst e
              rw [HX.out.1] at hy
              injection hy with hy
              subst hy
              exact ⟨HE.out.1 (by omega), HE.out.2.1 (by omega), HE.out.2.2 (by omega)⟩
          clear HU HE HF KSW HBW k0 k1 k2 lt KT
          have f0 : ∀ u : UpTo wr.heap.size wr, u.w.cell? ⟨tb, 0, none⟩ = some (.int .i64 (a : Nat)) := fun u => (KT2.out.of u.below).cell 0
          have f1 : ∀ u : UpTo wr.heap.size wr, u.w.cell? ⟨tb, 1, none⟩ = some (.int .i64 (b : Nat)) := fun u => (KT2.out.of u.below).cell 1
          have f2 : ∀ u : UpTo wr.heap.size wr, u.w.cell? ⟨tb, 2, none⟩ = some (.int .i64 (c : Nat)) := fun u => (KT2.out.of u.below).cell 2
          have ltb := KT2.out.lt
          obtain ⟨pb, epb, hpt⟩ := (HP.out.of HB2.out).atP (by omega)
          first | subst epb | (injection epb with epb; subst epb)
          have qa := hpt a haN
          have qb := hpt b hbN
          have qc := hpt c hcN
          have qa0 := fun u => (qa u).1
          have qa1 := fun u => (qa u).2
          have qb0 := fun u => (qb u).1
          have qb1 := fun u => (qb u).2
          have qc0 := fun u => (qc u).1
          have qc1 := fun u => (qc u).2
          clear qa qb qc hpt
          have hw1 : way (X a) (Y a) (X b) (Y b) (X c) (Y c) = 1 := by
            have h : 0 < wy X Y a b c := hpos
            rcases wy_cases X Y a b c with e | e | e
            · omega
            · omega
            · exact e
          have HW1 := Lib.hid hw1
          clear hw1
          go_wp2_with fail
          refine wp_region_up wr.heap.size 15 [(true, 0), (true, 1), (true, 2), (true, 3), (true, 4), (true, 5), (true, 6), (true, 7), (true, 8), (true, 9), (true, 10), (true, 11), (true, 12), (true, 13), (true, 14)] (by kernel_rfl) (by kernel_rfl) (fun _ _ d _ _ h => by cases d <;> exact h) ?_
          have hb : Below wr.heap.size wr wr.drew := (Below.refl _ _).drew
          iterate 15
            refine wpS_takeL rfl rfl ?_
            go_big_quiet_step (rfl)
            refine wpQuiet_nil ?_
          refine wpS_nil ?_
          simp only [List.drop_succ_cons, List.drop_zero]
          go_wp2_with fail
          refine (rWy_is (X a) (Y a) (X b) (Y b) (X c) (Y c) 1 HW1.out _).mono ?_
          rintro e w2 ⟨rfl, hn⟩
          replace hb := hb.trans (hn.mono hb.size)
          clear hn f0 f1 f2 ltb qa0 qa1 qb0 qb1 qc0 qc1 HW1
          have HB3 := Lib.hid (HB2.out.trans (hb.mono HB2.out.size))
          have KS3 := Lib.hid (KS2.out.of hb)
          have KU3 : Hid (RowI w2 ub N N f) := by
            obtain ⟨cur, h1, h2⟩ := KU.out
            exact Lib.hid ⟨cur, (hb.block ub (by omega)).trans h1, h2⟩
          have KT3 := Lib.hid (KT2.out.of hb)
          have hz3 : tb < w2.heap.size := KT3.out.lt
          clear hb HB2 KS2 KU KT2
          go_wp2_with fail
          go_loopg [10] N (fun gk s10 wr => ∃ k : Nat, s10 = .int .i64 (k : Nat) ∧ k ≤ N ∧ N - k ≤ gk ∧ Hid (Below w2.heap.size w2 wr))
          case atStart => exact ⟨0, rfl, by omega, by omega, Lib.hid (Below.refl _ _)⟩
          case round =>
            obtain ⟨k, rfl, hk, hgk, HV⟩ := hrel
            by_cases hkN : k < N
            · have HKT := Lib.hid (KT3.out.of HV.out)
              have HBK := Lib.hid (HB3.out.trans (HV.out.mono HB3.out.size))
              have f0 : ∀ u : UpTo wr.heap.size wr, u.w.cell? ⟨tb, 0, none⟩ = some (.int .i64 (a : Nat)) := fun u => (HKT.out.of u.below).cell 0
              have f1 : ∀ u : UpTo wr.heap.size wr, u.w.cell? ⟨tb, 1, none⟩ = some (.int .i64 (b : Nat)) := fun u => (HKT.out.of u.below).cell 1
              have f2 : ∀ u : UpTo wr.heap.size wr, u.w.cell? ⟨tb, 2, none⟩ = some (.int .i64 (c : Nat)) := fun u => (HKT.out.of u.below).cell 2
              have ltb := HKT.out.lt
              by_cases ea : k = a
              · obtain ⟨e1, e2, e3, e4, e5⟩ := eqI ea
                clear ea
                go_wp2_with fail
                refine wp_region_up wr.heap.size 36 [(true, 0), (true, 1), (true, 2), (true, 3), (true, 4), (true, 5), (true, 6), (true, 7), (true, 8), (true, 9), (true, 10), (true, 11), (true, 12), (true, 13), (true, 14), (true, 15), (true, 16), (true, 17), (true, 18), (true, 19), (true, 20), (true, 21), (true, 22), (true, 23), (true, 24), (true, 25), (true, 26), (true, 27), (true, 28), (true, 29), (true, 30), (true, 31), (true, 32), (true, 33), (true, 34), (true, 35)] (by kernel_rfl) (by kernel_rfl) (fun _ _ d _ _ h => by cases d <;> exact h) ?_
                have hb : Below wr.heap.size wr wr.drew := (Below.refl _ _).drew
                iterate 36
                  refine wpS_takeL rfl rfl ?_
                  go_big_quiet_step (rfl)
                  refine wpQuiet_nil ?_
                refine wpS_nil ?_
                simp only [List.drop_succ_cons, List.drop_zero]
                have HKW := HKT.out.of hb
                have k0 := HKW.cell 0
                have k1 := HKW.cell 1
                have k2 := HKW.cell 2
                have ltw := HKW.lt
                simp only [List.getElem?_toArray, List.getElem?_cons_zero, List.getElem?_cons_succ] at k0 k1 k2
                have HV9 := Lib.hid (HV.out.trans (hb.mono HV.out.size))
                clear f0 f1 f2 ltb HKW
                go_wp2_with fail
                go_roundg (N - (k + 1))
                case measure => omega
                case rel => exact ⟨k + 1, by norm_cast, by omega, Nat.le_refl _, HV9⟩
              · obtain ⟨e1, e2, e3, e4, e5⟩ := neI ea
                by_cases eb : k = b
                · obtain ⟨g1, g2, g3, g4, g5⟩ := eqI eb
                  clear ea eb
                  go_wp2_with fail
                  refine wp_region_up wr.heap.size 36 [(true, 0), (true, 1), (true, 2), (true, 3), (true, 4), (true, 5), (true, 6), (true, 7), (true, 8), (true, 9), (true, 10), (true, 11), (true, 12), (true, 13), (true, 14), (true, 15), (true, 16), (true, 17), (true, 18), (true, 19), (true, 20), (true, 21), (true, 22), (true, 23), (true, 24), (true, 25), (true, 26), (true, 27), (true, 28), (true, 29), (true, 30), (true, 31), (true, 32), (true, 33), (true, 34), (true, 35)] (by kernel_rfl) (by kernel_rfl) (fun _ _ d _ _ h => by cases d <;> exact h) ?_
                  have hb : Below wr.heap.size wr wr.drew := (Below.refl _ _).drew
                  iterate 36
                    refine wpS_takeL rfl rfl ?_
                    go_big_quiet_step (rfl)
                    refine wpQuiet_nil ?_
                  refine wpS_nil ?_
                  simp only [List.drop_succ_cons, List.drop_zero]
                  have HKW := HKT.out.of hb
                  have k0 := HKW.cell 0
                  have k1 := HKW.cell 1
                  have k2 := HKW.cell 2
                  have ltw := HKW.lt
                  simp only [List.getElem?_toArray, List.getElem?_cons_zero, List.getElem?_cons_succ] at k0 k1 k2
                  have HV9 := Lib.hid (HV.out.trans (hb.mono HV.out.size))
                  clear f0 f1 f2 ltb HKW
                  go_wp2_with fail
                  go_roundg (N - (k + 1))
                  case measure => omega
                  case rel => exact ⟨k + 1, by norm_cast, by omega, Nat.le_refl _, HV9⟩
                · obtain ⟨g1, g2, g3, g4, g5⟩ := neI eb
                  by_cases ec : k = c
                  · obtain ⟨j1, j2, j3, j4, j5⟩ := eqI ec
                    clear ea eb ec
                    go_wp2_with fail
                    refine wp_region_up wr.heap.size 36 [(true, 0), (true, 1), (true, 2), (true, 3), (true, 4), (true, 5), (true, 6), (true, 7), (true, 8), (true, 9), (true, 10), (true, 11), (true, 12), (true, 13), (true, 14), (true, 15), (true, 16), (true, 17), (true, 18), (true, 19), (true, 20), (true, 21), (true, 22), (true, 23), (true, 24), (true, 25), (true, 26), (true, 27), (true, 28), (true, 29), (true, 30), (true, 31), (true, 32), (true, 33), (true, 34), (true, 35)] (by kernel_rfl) (by kernel_rfl) (fun _ _ d _ _ h => by cases d <;> exact h) ?_
                    have hb : Below wr.heap.size wr wr.drew := (Below.refl _ _).drew
                    iterate 36
                      refine wpS_takeL rfl rfl ?_
                      go_big_quiet_step (rfl)
                      refine wpQuiet_nil ?_
                    refine wpS_nil ?_
                    simp only [List.drop_succ_cons, List.drop_zero]
                    have HKW := HKT.out.of hb
                    have k0 := HKW.cell 0
                    have k1 := HKW.cell 1
                    have k2 := HKW.cell 2
                    have ltw := HKW.lt
                    simp only [List.getElem?_toArray, List.getElem?_cons_zero, List.getElem?_cons_succ] at k0 k1 k2
                    have HV9 := Lib.hid (HV.out.trans (hb.mono HV.out.size))
                    clear f0 f1 f2 ltb HKW
                    go_wp2_with fail
                    go_roundg (N - (k + 1))
                    case measure => omega
                    case rel => exact ⟨k + 1, by norm_cast, by omega, Nat.le_refl _, HV9⟩
                  · obtain ⟨j1, j2, j3, j4, j5⟩ := neI ec
                    have hin := HR.out.emp _ HX.out.2 k hkN ea eb ec
                    obtain ⟨q, hq⟩ : ∃ q, inW (X a) (Y a) (X b) (Y b) (X c) (Y c) (X k) (Y k) = q := ⟨_, rfl⟩
                    have hq0 : q < 0 := by rw [← hq]; exact hin
                    have hq1 : decide ((0 : Int) ≤ q) = false := by simp; omega
                    have HQ := Lib.hid hq
                    clear ea eb ec hin hq
                    obtain ⟨pb, epb, hpt⟩ := (HP.out.of HBK.out).atP (by omega)
                    first | subst epb | (injection epb with epb; subst epb)
                    have qa := hpt a haN
                    have qb := hpt b hbN
                    have qc := hpt c hcN
                    have qa0 := fun u => (qa u).1
                    have qa1 := fun u => (qa u).2
                    have qb0 := fun u => (qb u).1
                    have qb1 := fun u => (qb u).2
                    have qc0 := fun u => (qc u).1
                    have qc1 := fun u => (qc u).2
                    have qk := hpt k hkN
                    have qk0 := fun u => (qk u).1
                    have qk1 := fun u => (qk u).2
                    clear qa qb qc qk hpt
                    go_wp2_with fail
                    refine wp_region_up wr.heap.size 36 [(true, 0), (true, 1), (true, 2), (true, 3), (true, 4), (true, 5), (true, 6), (true, 7), (true, 8), (true, 9), (true, 10), (true, 11), (true, 12), (true, 13), (true, 14), (true, 15), (true, 16), (true, 17), (true, 18), (true, 19), (true, 20), (true, 21), (true, 22), (true, 23), (true, 24), (true, 25), (true, 26), (true, 27), (true, 28), (true, 29), (true, 30), (true, 31), (true, 32), (true, 33), (true, 34), (true, 35)] (by kernel_rfl) (by kernel_rfl) (fun _ _ d _ _ h => by cases d <;> exact h) ?_
                    have hb : Below wr.heap.size wr wr.drew := (Below.refl _ _).drew
                    iterate 36
                      refine wpS_takeL rfl rfl ?_
                      go_big_quiet_step (rfl)
                      refine wpQuiet_nil ?_
                    refine wpS_nil ?_
                    simp only [List.drop_succ_cons, List.drop_zero]
                    go_wp2_with fail
                    refine (rInT_is X Y (X k) (Y k) (X a) (Y a) (X b) (Y b) (X c) (Y c) q HQ.out _).mono ?_
                    rintro e w3 ⟨rfl, hn⟩
                    replace hb := hb.trans (hn.mono hb.size)
                    clear hn qa0 qa1 qb0 qb1 qc0 qc1 qk0 qk1
                    have HKW := HKT.out.of hb
                    have k0 := HKW.cell 0
                    have k1 := HKW.cell 1
                    have k2 := HKW.cell 2
                    have ltw := HKW.lt
                    simp only [List.getElem?_toArray, List.getElem?_cons_zero, List.getElem?_cons_succ] at k0 k1 k2
                    have HV9 := Lib.hid (HV.out.trans (hb.mono HV.out.size))
                    clear f0 f1 f2 ltb HKW
                    go_wp2_with fail
                    go_roundg (N - (k + 1))
                    case measure => omega
                    case rel => exact ⟨k + 1, by norm_cast, by omega, Nat.le_refl _, HV9⟩
            · have ekN : N = k := by omega
              subst ekN
              have HB4 := Lib.hid (HB3.out.trans (HV.out.mono HB3.out.size))
              have KS4 := Lib.hid (KS3.out.of HV.out)
              have KU4 : Hid (RowI wr ub N N f) := by
                obtain ⟨cur, h1, h2⟩ := KU3.out
                exact Lib.hid ⟨cur, (HV.out.block ub (by omega)).trans h1, h2⟩
              have KT4 := Lib.hid (KT3.out.of HV.out)
              have hz4 : tb < wr.heap.size := KT4.out.lt
              clear HV HB3 KS3 KU3 KT3 hz3
              have f0 : ∀ u : UpTo wr.heap.size wr, u.w.cell? ⟨tb, 0, none⟩ = some (.int .i64 (a : Nat)) := fun u => (KT4.out.of u.below).cell 0
              have f1 : ∀ u : UpTo wr.heap.size wr, u.w.cell? ⟨tb, 1, none⟩ = some (.int .i64 (b : Nat)) := fun u => (KT4.out.of u.below).cell 1
              have f2 : ∀ u : UpTo wr.heap.size wr, u.w.cell? ⟨tb, 2, none⟩ = some (.int .i64 (c : Nat)) := fun u => (KT4.out.of u.below).cell 2
              have ltb := KT4.out.lt
              obtain ⟨pb, epb, hpt⟩ := (HP.out.of HB4.out).atP (by omega)
              first | subst epb | (injection epb with epb; subst epb)
              have qa := hpt a haN
              have qb := hpt b hbN
              have qc := hpt c hcN
              have qa0 := fun u => (qa u).1
              have qa1 := fun u => (qa u).2
              have qb0 := fun u => (qb u).1
              have qb1 := fun u => (qb u).2
              have qc0 := fun u => (qc u).1
              have qc1 := fun u => (qc u).2
              obtain ⟨neg, da, dl, dc, ks, hz, hfr⟩ := KS4.out
              have HZ := Lib.hid hz
              have HKS := Lib.hid ks
              have s0 : ∀ u : UpTo wr.heap.size wr, u.w.cell? ⟨sb, 0, none⟩ = some (.bool neg) := fun u => (ks.of u.below).cell 0
              have s1 : ∀ u : UpTo wr.heap.size wr, u.w.cell? ⟨sb, 1, none⟩ = some (.slice da dl dc) := fun u => (ks.of u.below).cell 1
              have ls := ks.lt
              obtain ⟨t, ht⟩ : ∃ t, trn (X a) (Y a) (X b) (Y b) (X c) (Y c) = t := ⟨_, rfl⟩
              have HTT := Lib.hid ht
              have HCA := Lib.hid (allC_co HG.out haN)
              have HCB := Lib.hid (allC_co HG.out hbN)
              have HCC := Lib.hid (allC_co HG.out hcN)
              clear qa qb qc hpt ks hz hfr ht
              go_wp2_with fail
              refine wp_region_up wr.heap.size 17 [(true, 0), (true, 1), (true, 2), (true, 3), (true, 4), (true, 5), (true, 6), (true, 7), (true, 8), (true, 9), (true, 10), (true, 11), (true, 12), (true, 13), (true, 14), (true, 15), (false, 16)] (by kernel_rfl) (by kernel_rfl) (fun _ _ d _ _ h => by cases d <;> exact h) ?_
              have hb : Below wr.heap.size wr wr.drew := (Below.refl _ _).drew
              iterate 16
                refine wpS_takeL rfl rfl ?_
                go_big_quiet_step (rfl)
                refine wpQuiet_nil ?_
              refine wpS_doL rfl ?_
              intro K hK
              go_wp2_with ((go_at_call 57; (with_reducible refine (rTurn_v (X a) (Y a) (X b) (Y b) (X c) (Y c) t HTT.out HCA.out.1 HCA.out.2 HCB.out.1 HCB.out.2 HCC.out.1 HCC.out.2 _).mono ?_); rintro e w2 ⟨v_, rfl, hbm, hn⟩; have HB9 := Lib.hid hbm; have hvm := hbm.shape; clear hbm; obtain ⟨bn1, ba1, bl1, bc1, rfl⟩ := hvm))
              replace hb := hb.trans (hn.mono hb.size)
              refine hK.out _ _ (up_iff.2 hb) ?_
              clear hK K
              clear hn
              refine wpS_nil ?_
              simp only [List.drop_succ_cons, List.drop_zero]
              clear f0 f1 f2 ltb qa0 qa1 qb0 qb1 qc0 qc1 s0 s1 ls
              go_wp2_with fail
              refine (bigAdd_F _ _ (arT X Y (L.take i)) t 12 _ (HZ.out.of hb) HB9.out (by decide)).mono ?_
              rintro e W9 ⟨⟨v9, rfl, hv9, hn9⟩, hfr9⟩
              obtain ⟨nn, na, nl, nc, rfl⟩ := hv9.shape
              have hbw := hb.trans (hn9.mono hb.size)
              have e1 : arT X Y (L.take (i + 1)) = arT X Y (L.take i) + t := by
                rw [arT_take HX.out.1, ← HTT.out]; rfl
              have Hv : Hid (Big W9 (.agg #[.bool nn, .slice na nl nc]) (arT X Y (L.take (i + 1))) 12) := by
                refine Lib.hid ?_
                have bd := arT_bd HG.out (L.take (i + 1)) fun x hx => HR.out.lt x (List.mem_of_mem_take hx)
                have hl : (L.take (i + 1)).length = i + 1 := by rw [List.length_take, HLN.out]; omega
                rw [hl] at bd
                have hk60 : ((i + 1 : Nat) : Int) ≤ 60 := by omega
                have p12 : P15 12 = 1532495540865888858358347027150309183618739122183602176 := by decide
                rw [← e1] at hv9
                refine hv9.fit ?_
                rw [p12]; omega
              have Hfr : Hid (na = none ∨ ∃ g, na = some ⟨g, 0, none⟩ ∧ sb + 1 ≤ g) := by
                refine Lib.hid ?_
                rcases hfr9.neg with h | ⟨g, h1, h2⟩
                · exact .inl h
                · exact .inr ⟨g, h1, by have := hb.size; omega⟩
              have HKS9 := Lib.hid (HKS.out.of hbw)
              have KU9 : Hid (RowI W9 ub N N f) := by
                obtain ⟨cur, h1, h2⟩ := KU4.out
                exact Lib.hid ⟨cur, (hbw.block ub (by omega)).trans h1, h2⟩
              have KT9 := Lib.hid (KT4.out.of hbw)
              have HB9' := Lib.hid (HB4.out.trans (hbw.mono HB4.out.size))
              have hz9 : tb < W9.heap.size := KT9.out.lt
              have c0 := HKS9.out.cell 0
              have c1 := HKS9.out.cell 1
              have f0 := HKS9.out.free 0
              have f1 := HKS9.out.free 1
              have ls9 := HKS9.out.lt
              clear hb hbw hv9 hn9 hfr9 HZ HKS HB9 KS4 KU4 KT4 HB4 hz4 e1 HTT HCA HCB HCC
              go_wp2_with fail
              refine name_world ?_
              intro Wa hWa
              have KSa : Hid (SumF Wa (sb + 1) sb (arT X Y (L.take (i + 1)))) := by rw [hWa]; exact Lib.hid ⟨nn, na, nl, nc, HKS9.out.put2 _ _, Hv.out.set2 (HKS9.out.cell 0) _ _, Hfr.out⟩
              have hWb : ∀ g, g ≠ sb → Wa.heap[g]? = W9.heap[g]? := fun g hg => by rw [hWa]; exact (Below.heap_setCell _ ⟨sb, 1, none⟩ _ g hg).trans (Below.heap_setCell _ ⟨sb, 0, none⟩ _ g hg)
              have KUa : Hid (RowI Wa ub N N f) := by
                obtain ⟨cur, h1, h2⟩ := KU9.out
                exact Lib.hid ⟨cur, (hWb ub (by omega)).trans h1, h2⟩
              have KTa : Hid (Blk Wa tb #[.int .i64 (a : Nat), .int .i64 (b : Nat), .int .i64 (c : Nat)] 35) := Lib.hid ((hWb tb (by omega)).trans KT9.out)
              have HBa : Hid (Below w.heap.size w Wa) := by rw [hWa]; exact Lib.hid ((HB9'.out.setCell (p := ⟨sb, 0, none⟩) (by show w.heap.size ≤ sb; omega) _).setCell (p := ⟨sb, 1, none⟩) (by show w.heap.size ≤ sb; omega) _)
              have hza : tb < Wa.heap.size := KTa.out.lt
              clear hWa hWb c0 c1 f0 f1 ls9 Hv Hfr HKS9 KU9 KT9 HB9' hz9
              go_wp2_with fail
              go_loopg [11] i (fun gk s11 wr => ∃ k : Nat, s11 = .int .i64 (k : Nat) ∧ k ≤ i ∧ i - k ≤ gk ∧ Hid (Below Wa.heap.size Wa wr))
              case atStart => exact ⟨0, rfl, by omega, by omega, Lib.hid (Below.refl _ _)⟩
              case round =>
                obtain ⟨k2, rfl, hk2, hgk2, HV⟩ := hrel
                by_cases hki : k2 < i
                · obtain ⟨⟨y0, y1, y2⟩, hy⟩ : ∃ x, L[k2]? = some x := ⟨_, List.getElem?_eq_getElem (show k2 < L.length by rw [HLN.out]; omega)⟩
                  have HM := Lib.hid (HR.out.nom i k2 _ _ hki HX.out.1 hy)
                  obtain ⟨hy0, hy1, hy2⟩ := HR.out.lt _ (List.mem_iff_getElem?.2 ⟨k2, hy⟩)
                  simp only [] at hy0 hy1 hy2
                  have HBb := Lib.hid (HBa.out.trans (HV.out.mono HBa.out.size))
                  have HKb := Lib.hid (KTa.out.of HV.out)
                  obtain ⟨gy, egy, hgy, hcell⟩ := (HT.out.of HBb.out).up (by rw [HLN.out]; omega)
                  injection egy with egy; injection egy with egy; subst egy
                  have p0 := fun u => (hcell k2 _ hy u).1
                  have p1 := fun u => (hcell k2 _ hy u).2.1
                  have p2 := fun u => (hcell k2 _ hy u).2.2
                  simp only [] at p0 p1 p2
                  have f0 : ∀ u : UpTo wr.heap.size wr, u.w.cell? ⟨tb, 0, none⟩ = some (.int .i64 (a : Nat)) := fun u => (HKb.out.of u.below).cell 0
                  have f1 : ∀ u : UpTo wr.heap.size wr, u.w.cell? ⟨tb, 1, none⟩ = some (.int .i64 (b : Nat)) := fun u => (HKb.out.of u.below).cell 1
                  have f2 : ∀ u : UpTo wr.heap.size wr, u.w.cell? ⟨tb, 2, none⟩ = some (.int .i64 (c : Nat)) := fun u => (HKb.out.of u.below).cell 2
                  have ltb := HKb.out.lt
                  clear hcell hy
                  go_wp2_with fail
                  refine wp_region_up wr.heap.size 6 [(true, 0), (true, 1), (true, 2), (true, 3), (true, 4), (true, 5)] (by kernel_rfl) (by kernel_rfl) (fun _ _ d _ _ h => by cases d <;> exact h) ?_
                  have hb : Below wr.heap.size wr wr.drew := (Below.refl _ _).drew
                  iterate 6
                    refine wpS_takeL rfl rfl ?_
                    go_big_quiet_step (rfl)
                    refine wpQuiet_nil ?_
                  refine wpS_nil ?_
                  simp only [List.drop_succ_cons, List.drop_zero]
                  go_wp2_with fail
                  refine (meet_no _ N pc X Y a b c y0 y1 y2 _ (HP.out.of (HBb.out.trans (hb.mono HBb.out.size))) (by omega) haN hbN hcN hy0 hy1 hy2 HM.out).mono ?_
                  rintro e w3 ⟨rfl, hn⟩
                  have HVc := Lib.hid (HV.out.trans ((hb.trans (hn.mono hb.size)).mono HV.out.size))
                  clear hb hn f0 f1 f2 ltb p0 p1 p2
                  go_wp2_with fail
                  go_roundg (i - (k2 + 1))
                  case measure => omega
                  case rel => exact ⟨k2 + 1, by norm_cast, by omega, Nat.le_refl _, HVc⟩
                · have HBc := Lib.hid (HBa.out.trans (HV.out.mono HBa.out.size))
                  have KSc := Lib.hid (KSa.out.of HV.out)
                  have KUc : Hid (RowI wr ub N N f) := by
                    obtain ⟨cur, h1, h2⟩ := KUa.out
                    exact Lib.hid ⟨cur, (HV.out.block ub (by omega)).trans h1, h2⟩
                  have hzc := HV.out.size
                  have hsc : sb < wr.heap.size := by omega
                  clear HV HBa KSa KUa KTa
                  have hk3 : ¬ ((k2 : Nat) : Int) < ((i : Nat) : Int) := by omega
                  go_wp2_with fail
                  go_roundg (n - (i + 1))
                  case measure => omega
                  case rel => exact ⟨i + 1, f, by norm_cast, by omega, Nat.le_refl _, KSc, KUc, HU2, HBc, hsc⟩

    · have ein : i = n := by omega
      have hfr : ∀ k, k < N → 1 ≤ f k := fun k hk => by
        obtain ⟨x, hx, h⟩ := HR.out.use k hk
        obtain ⟨j, hj⟩ := List.mem_iff_getElem?.1 hx
        obtain ⟨h1, h2, h3⟩ := HU.out.2 j x (by have := (List.getElem?_eq_some_iff.1 hj).1; rw [HLN.out] at this; omega) hj
        rcases h with h | h | h <;> rw [h] <;> assumption
      have HFR := Lib.hid hfr
      have HAR : Hid (arT X Y (L.take i) = fanS X Y H r) := by
        have := HR.out.area
        rw [HH.out] at this
        rw [ein, ← HLN.out, List.take_length]
        exact Lib.hid this
      clear hfr
      go_wp2_with fail
      go_loopg [12] N (fun gk s12 wr2 => ∃ k : Nat, s12 = .int .i64 (k : Nat) ∧ k ≤ N ∧ N - k ≤ gk ∧ wr2 = wr)
      case atStart => exact ⟨0, rfl, by omega, by omega, rfl⟩
      case round =>
        obtain ⟨k, rfl, hk, hgk, rfl⟩ := hrel
        by_cases hkN : k < N
        · have u0 := KU.out.cell hkN
          have lu : ub < wr.heap.size := by omega
          obtain ⟨q, hq⟩ : ∃ q, f k = q := ⟨_, rfl⟩
          have hq1 := HFR.out k hkN
          rw [hq] at u0 hq1
          have hq0 : (q == 0) = false := by simp; omega
          clear hq
          go_wp2_with fail
          go_roundg (N - (k + 1))
          case measure => omega
          case rel => exact ⟨k + 1, by norm_cast, by omega, Nat.le_refl _, rfl⟩
        · obtain ⟨neg, da, dl, dc, ks, hz, _⟩ := KS.out
          rw [HAR.out] at hz
          have HZ := Lib.hid hz
          have s0 : ∀ u : UpTo wr.heap.size wr, u.w.cell? ⟨sb, 0, none⟩ = some (.bool neg) := fun u => (ks.of u.below).cell 0
          have s1 : ∀ u : UpTo wr.heap.size wr, u.w.cell? ⟨sb, 1, none⟩ = some (.slice da dl dc) := fun u => (ks.of u.below).cell 1
          have ls := ks.lt
          have hr60 : r ≤ 60 := by have := HC.out.len; rw [HH.out] at this; omega
          clear ks hz
          go_wp2_with fail
          refine wp_region_up wr.heap.size 5 [(true, 0), (true, 1), (true, 2), (false, 3), (false, 4)] (by kernel_rfl) (by kernel_rfl) (fun _ _ d _ _ h => by cases d <;> exact h) ?_
          have hb : Below wr.heap.size wr wr.drew := (Below.refl _ _).drew
          iterate 3
            refine wpS_takeL rfl rfl ?_
            go_big_quiet_step (rfl)
            refine wpQuiet_nil ?_
          refine wpS_doL rfl ?_
          intro K hK
          go_wp2_with ((go_at_call 16; (with_reducible refine (rHull_is po N pc X Y _ (HP.out.of (HB.out.trans (hb.mono HB.out.size))) (by omega) H HC.out).mono ?_); rintro e w2 ⟨vh, rfl, hnl, hn⟩; have HNL := Lib.hid hnl; clear hnl))
          replace hb := hb.trans (hn.mono hb.size)
          refine hK.out _ _ (up_iff.2 hb) ?_
          clear hK K
          clear hn
          refine wpS_doL rfl ?_
          intro K hK
          go_wp2_with ((go_at_call 60; (refine (Area_is po N pc X Y H _ vh r _ (HP.out.of (HB.out.trans (hb.mono HB.out.size))) HG.out HNL.out HH.out hr60 HC.out.lt).mono ?_); rintro e w2 ⟨v_, rfl, hbm, hn⟩; have HB9 := Lib.hid hbm; have hvm := hbm.shape; clear hbm; obtain ⟨bn1, ba1, bl1, bc1, rfl⟩ := hvm))
          replace hb := hb.trans (hn.mono hb.size)
          refine hK.out _ _ (up_iff.2 hb) ?_
          clear hK K
          clear hn
          refine wpS_nil ?_
          simp only [List.drop_succ_cons, List.drop_zero]
          clear s0 s1 ls
          go_wp2_with fail
          refine (bigCmp_is0 _ _ (fanS X Y H r) (fanS X Y H r) 12 12 rfl _ (HZ.out.of hb) HB9.out).mono ?_
          rintro e w3 ⟨rfl, hn⟩
          have HBF := Lib.hid (HB.out.trans ((hb.trans (hn.mono hb.size)).mono HB.out.size))
          clear hb hn
          go_wp2
          go_ret
          exact ⟨rfl, HBF.out⟩
end Go.Proofs.Ytdlpfiiakmhnlaa

