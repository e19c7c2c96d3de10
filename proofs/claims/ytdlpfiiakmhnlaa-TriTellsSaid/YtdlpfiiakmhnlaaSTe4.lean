/- My texts TrBc, TrBd, TrBe, TrBf, AvRB, TrBg, TrAl, TrBi, TrBj, TrBk, TrBl, TrBr, TrBm, TrBn, TrBo, TrAm, TrBs, TrBu, TrAb, TrAf, TrAgd, TrAh, TrAi, TrAr, TrAj, TrAs, joined: what the last one needs of them. Conditions: as each lemma says. -/
import Derived.Test.YtdlpfiiakmhnlaaSTe3
import Derived.KernelRfl
import Derived.StillTail
import Derived.OrdersHeld
import Derived.Deep.Quiet
import Derived.Below
import Derived.WalkKit
import Derived.Test.YtdlpfiiakmhnlaaProg
import Derived.WalkSpells
import Derived.StillTactics
import Derived.Laws.Pointers
import Derived.Deep.RegionHeld3
import Derived.RowKit3
import Derived.Deep.QuietTactic
import Derived.BigQuiet
import Derived.BigRegion
import Derived.Lib.Hide
import Derived.WalkSmall
import Derived.Laws.BitsAllLaws
import Derived.IntWalk
import Derived.Deep.OwnRows
import Derived.Deep.LoopGhost
import Derived.Shelf.Bits.Mul64
import Derived.ProofKit
import Derived.OpenShut
import Derived.ShutString
import Derived.ChangeOld
import Derived.Lib.SmallJoins
import Derived.Laws.IdiomArrays
import Derived.Laws.CopyOwn
import Derived.Laws.AppendOwn
import Derived.Deep.DeepAppendRoom
import Derived.Lib.AppendZerosOnto
import Derived.Lib.Overlaps
import Derived.Deep.RegionLaw
import Derived.Shelf.RegionOpenPlain
import Derived.Deep.RegionWith
import Derived.Sort.LoopGhostIn
import Derived.RangeFuncNested
import Derived.RangeFuncBound
import Derived.RangeFuncCalls
import Derived.RangeFuncLeaves
import Derived.OwnWalk
import Derived.OwnWalkIn
import Derived.TacticsInMore
import Derived.LoopNIn
import Derived.LoopIn
import Derived.Deep.DeepFit
import Derived.Deep.DeepCutAuto
import Derived.Shelf.Abstract
import Derived.Shelf.RegionOpen
import Derived.Maps.OwnIn
import Derived.WalkMore
import Derived.Deep.SlicePairs
namespace Go.Proofs.Ytdlpfiiakmhnlaa
open Go.RowKit
attribute [local go_sem] undef

theorem Merge_n (ga oa gb ob ac bc p q : Nat) (la lb : List Nat) (w : World) (ha : Nb w.heap.size w ga oa ac la) (hb_ : Nb w.heap.size w gb ob bc lb) (hp : la.length = p) (hq : lb.length = q) (hla : p ≤ 40000) (hlb : q ≤ 40000) :
    Calls Try.prog 99 #[.slice (some ⟨ga, oa, none⟩) p ac, .slice (some ⟨gb, ob, none⟩) q bc, cmpF] w fun e w' => ∃ v, e = .returned v ∧ NL w' w.heap.size v (mrg la lb) ∧ Below w.heap.size w w' := by
  subst hp
  subst hq
  exact Merge_is ga oa gb ob ac bc la lb w ha hb_ hla hlb
theorem srcNL {w : World} {base g r k : Nat} {M : List Nat} (h : NL w base (.slice (some ⟨g, 0, none⟩) r k) M) (j : Nat) (u : Value) (hj : (nI M)[j]? = some u) : w.cell? ((⟨g, 0, none⟩ : Addr).add j) = some u := by
  have hjl : j < M.length := by rw [← nI_len]; exact (List.getElem?_eq_some_iff.1 hj).1
  obtain ⟨ao, cap, e, _, _, h3⟩ := h.val
  injection e with e1 _ _
  obtain ⟨g', e4, _, _, hcell⟩ := h3 (by omega)
  rw [← e1] at e4
  injection e4 with e4
  injection e4 with e4 _ _
  subst e4
  have e2 : (⟨g, 0, none⟩ : Addr).add j = ⟨g, j, none⟩ := by unfold Addr.add; split <;> simp_all
  rw [e2]
  unfold nI at hj
  rw [List.getElem?_map, Option.map_eq_some_iff] at hj
  obtain ⟨x, hx, rfl⟩ := hj
  exact hcell j x hx
theorem Merge_v (ga oa gb ob ac bc p q r : Nat) (la lb : List Nat) (w w0 : World) (ha : Nb w0.heap.size w0 ga oa ac la) (hb_ : Nb w0.heap.size w0 gb ob bc lb) (hw : Below w0.heap.size w0 w) (hs : w.heap.size = w0.heap.size) (hp : la.length = p) (hq : lb.length = q) (hr : p + q = r) (h0 : 0 < r) (hla : p ≤ 40000) (hlb : q ≤ 40000) :
    Calls Try.prog 99 #[.slice (some ⟨ga, oa, none⟩) p ac, .slice (some ⟨gb, ob, none⟩) q bc, cmpF] w fun e w' => ∃ g3 k3, e = .returned (.slice (some ⟨g3, 0, none⟩) r k3) ∧ NL w' w0.heap.size (.slice (some ⟨g3, 0, none⟩) r k3) (mrg la lb) ∧ Below w.heap.size w w' := by
  refine (Merge_n ga oa gb ob ac bc p q la lb w (by rw [hs]; exact ha.of hw) (by rw [hs]; exact hb_.of hw) hp hq hla hlb).mono ?_
  rintro e w' ⟨v, rfl, h1, h2⟩
  have hl : (mrg la lb).length = r := by rw [mrg_len _ _ _ (Nat.le_refl _), hp, hq, hr]
  obtain ⟨ao, cap, e, _, _, h3⟩ := h1.val
  rw [hl] at h3 e
  obtain ⟨g3, hg, _⟩ := h3 h0
  subst hg
  subst e
  rw [hs] at h1
  exact ⟨g3, cap, rfl, h1, h2⟩
theorem CloneI_n (ao : Option Addr) (cap n : Nat) (L : List Nat) (w : World) (h : Ns w ao cap L) (hn : L.length = n) (hn2 : n ≤ 1000000) :
    Calls Try.prog 98 #[.slice ao n cap] w fun e w' => ∃ v, e = .returned v ∧ NL w' w.heap.size v L ∧ Below w.heap.size w w' := by
  subst hn
  exact CloneI_is ao cap L w h hn2
theorem cut_nb {B : Nat} {w : World} {base g cc n : Nat} {R : List Nat} (h : NL w base (.slice (some ⟨g, 0, none⟩) n cc) R) (hB : g < B) {a b o : Nat} (hab : a ≤ b) (hb : b ≤ R.length) (ho : o = a ∨ a = b) : Nb B w g o (cc - a) (cut R a b) := by
  obtain ⟨ao, cap, e, h1, h2, h3⟩ := h.val
  injection e with e1 e2 e3
  subst e3
  have hlt : g < w.heap.size := (h.own rfl).2
  refine ⟨hlt, hB, fun j x hx => ?_, by rw [cut_len hb]; omega, by omega⟩
  have hc := cut_at hx
  have hlen : (cut R a b).length = b - a := cut_len hb
  have hj : j < (cut R a b).length := (List.getElem?_eq_some_iff.1 hx).1
  obtain ⟨g', e4, _, _, hcell⟩ := h3 (by omega)
  rw [← e1] at e4
  injection e4 with e4
  injection e4 with e4 _ _
  subst e4
  rcases ho with rfl | rfl
  · exact hcell _ x hc
  · omega
set_option maxRecDepth 100000 in
set_option maxHeartbeats 8000000 in
theorem Sort_is (ao : Option Addr) (cap : Nat) (L : List Nat) (w : World) (h : Ns w ao cap L) (hn : L.length ≤ 40000) :
    Calls Try.prog 88 #[.slice ao L.length cap, cmpF] w fun e w' => ∃ v R, e = .returned v ∧ NL w' w.heap.size v R ∧ Asc R ∧ (∀ z, z ∈ R ↔ z ∈ L) ∧ R.length = L.length ∧ Below w.heap.size w w' := by
  have HP := Lib.hid h
  obtain ⟨i0, hi, hz0, hz1, hz2⟩ := info_parts info_int
  obtain ⟨n, hnn⟩ : ∃ n, L.length = n := ⟨_, rfl⟩
  have HN := Lib.hid hnn
  rw [hnn] at hn ⊢
  clear h hnn
  go_enter Try.func88, Try.ntmps88
  go_wp2_with fail
  refine (CloneI_n ao cap n L w HP.out HN.out (by omega)).mono ?_
  rintro e V ⟨v, rfl, nl, hb⟩
  obtain ⟨co, cc, e, _⟩ := nl.val
  rw [HN.out] at e
  subst e
  have NV := Lib.hid nl
  have BV := Lib.hid hb
  clear nl hb
  go_wp2_with fail
  go_loopg [5, 6] n (fun gk s5 s6 wr => ∃ (s : Nat) (co : Option Addr) (cc : Nat) (R : List Nat), s5 = .slice co n cc ∧ s6 = .int .i64 (s : Nat) ∧ 1 ≤ s ∧ s ≤ 80000 ∧ n - s ≤ gk ∧ Hid (R.length = n ∧ Pcs s R ∧ ∀ z, z ∈ R ↔ z ∈ L) ∧ Hid (NL wr w.heap.size (.slice co n cc) R) ∧ Hid (Below w.heap.size w wr))
  case atStart => exact ⟨1, co, cc, L, rfl, rfl, by omega, by omega, by omega, Lib.hid ⟨HN.out, pcs_one L, fun z => Iff.rfl⟩, NV, BV⟩
  case round =>
    clear NV BV
    obtain ⟨s, co, cc, R, rfl, rfl, hs1, hs2, hgk, HR, NR, HW⟩ := hrel
    by_cases hlt : s < n
    · obtain ⟨co', cc', e, hcc, hcb, hptr⟩ := NR.out.val
      obtain ⟨g, hg, hgB, hgl, _⟩ := hptr (by rw [HR.out.1]; omega)
      injection e with e1 e2 e3
      subst e1
      subst e3
      subst hg
      rw [HR.out.1] at hcc
      clear hptr e2
      go_wp2_with fail
      obtain ⟨W1, hW1⟩ : ∃ W, W = wr := ⟨_, rfl⟩
      rw [← hW1] at NR HW hgl ⊢
      have hsz1 := HW.out.size
      go_loopg [7, 8] n (fun gk s7 s8 wr => ∃ (j a c : Nat) (po : Option Addr) (pc : Nat) (X : List Nat), s7 = .slice po c pc ∧ s8 = .int .i64 (a : Nat) ∧ a < n + 2 * s ∧ c = min a n ∧ n - a ≤ gk ∧ Hid (a = j * (2 * s)) ∧ Hid (X.length = c ∧ Pcs (2 * s) X ∧ ∀ z, z ∈ X ↔ z ∈ R.take c) ∧ Hid (NL wr W1.heap.size (.slice po c pc) X) ∧ Hid (Below W1.heap.size W1 wr))
      case atStart => exact ⟨0, 0, 0, none, 0, [], rfl, rfl, by omega, by omega, by omega, Lib.hid (by omega), Lib.hid ⟨rfl, fun k => by simp [Asc], fun z => by simp⟩, Lib.hid NL.none, by exact Lib.hid (by first | exact Below.refl _ _ | (rw [← hW1]; exact Below.refl _ _))⟩
      case round =>
        clear hW1
        obtain ⟨j, a, c, po, pc, X, rfl, rfl, ha2, hc, hgk2, HJ, HX, NX, HWr⟩ := hrel
        by_cases hat : a < n
        · have hca : c = a := by omega
          subst hca
          have NRw := Lib.hid (NR.out.of HWr.out)
          have hca2 : ¬ cc = c := by omega
          clear hc
          rcases Nat.lt_or_ge n (c + s) with g1 | g1
          · rcases Nat.lt_or_ge n cc with g3 | g3
            · have k1 : ¬ ((c : Int) + (s : Int) ≤ (n : Int)) := by omega
              have k2 : ¬ ((c : Int) + 2 * (s : Int) ≤ (n : Int)) := by omega
              have k3 : ¬ cc = n := by omega
              go_wp2_with fail
              have hgw : g < wr.heap.size := (NRw.out.own rfl).2
              have hRl := HR.out.1
              have NA := Lib.hid (cut_nb NRw.out hgw (a := c) (b := n) (o := c) (by omega) (by rw [hRl]; omega) (.inl rfl))
              have NB : Hid (Nb wr.heap.size wr g n (cc - n) (cut R n n)) := by
                have := cut_nb NRw.out hgw (a := n) (b := n) (o := n) (by omega) (by rw [hRl]; omega) (.inl rfl)
                first | exact Lib.hid this | (rw [Nat.sub_self] at this; exact Lib.hid this)
              have hla : (cut R c n).length = n - c := cut_len (by rw [hRl]; omega)
              have hlb : (cut R n n).length = 0 := (cut_len (by rw [hRl]; omega)).trans (by omega)
              have hr : (n - c) + 0 = n - c := by omega
              have HLA := Lib.hid (And.intro hla (And.intro hlb hr))
              clear hla hlb hr hRl
              
              refine wp_region_up wr.heap.size 11 [(true, 0), (true, 1), (true, 2), (true, 3), (true, 4), (true, 5), (true, 6), (true, 7), (true, 8), (true, 9), (false, 10)] (by kernel_rfl) (by kernel_rfl) (fun _ _ d _ _ h => by cases d <;> exact h) ?_
              have hb : Below wr.heap.size wr wr.drew := (Below.refl _ _).drew
              iterate 10
                refine wpS_takeL rfl rfl ?_
                go_big_quiet_step (rfl)
                refine wpQuiet_nil ?_
              refine wpS_doL rfl ?_
              intro K hK
              go_wp2_with ((go_at_call 99; go_loud (refine (Merge_v g c g n (cc - c) (cc - n) (n - c) 0 (n - c) _ _ _ wr NA.out NB.out hb rfl HLA.out.1 HLA.out.2.1 HLA.out.2.2 (by omega) (by omega) (by omega)).mono ?_); rintro e w2 ⟨g3, k3_, rfl, nlM, hn⟩))
              replace hb := hb.trans (hn.mono hb.size)
              refine hK.out _ _ (up_iff.2 hb) ?_
              clear hK K
              clear hn
              refine wpS_nil ?_
              simp only [List.drop_succ_cons, List.drop_zero]
              have NX2 := Lib.hid (NX.out.of hb)
              have NM := Lib.hid nlM
              have HW2 := Lib.hid (HWr.out.trans (hb.mono HWr.out.size))
              have hs2 := HW2.out.size
              have hPP := pass_one hs1 HR.out.1 HR.out.2.1 HJ.out hat (mid := n) (en := n) (by omega) (by omega) HX.out.1 HX.out.2.1 HX.out.2.2
              have PP := Lib.hid hPP
              have hlM : (nI (mrg (cut R c n) (cut R n n))).length = (n - c) * 1 := by have h1 := nI_len (mrg (cut R c n) (cut R n n)); have h2 := PP.out.1; omega
              have hX1 := HX.out.1
              have hb1 : X.length + (n - c) ≤ maxLen := by unfold maxLen; omega
              have hb2 : (X.length + (n - c)) * 8 ≤ 140737488355328 := by omega
              clear hPP nlM hb NA NB HLA NX HWr hgw
              go_wp2_with (at_builtin; go_loud (refine wpList_append_lies _ rfl _ _ 29 rfl W1.heap.size 3 i0 (.int .i64 0) 1 8 Try.underlying29 hi hz0 hz1 hz2 rfl (by decide) (.slice po c pc) X.length (nI X) rfl NX2.out ⟨g3, 0, none⟩ (n - c) k3_ (nI (mrg (cut R c n) (cut R n n))) rfl hlM (srcNL NM.out) (nI_one _) hb1 hb2 hs2 ?_))
              intro v3 w3 own3 gr3 _
              have NX3 : NL w3 W1.heap.size v3 (X ++ mrg (cut R c n) (cut R n n)) := by
                unfold NL
                rw [List.length_append, List.map_append, PP.out.1, HX.out.1]; exact own3
              obtain ⟨po3, pc3, e3, _⟩ := NX3.val
              have hl3 : (X ++ mrg (cut R c n) (cut R n n)).length = n := by rw [List.length_append, PP.out.1, HX.out.1]; exact Nat.add_sub_of_le (by omega)
              rw [hl3] at e3
              subst e3
              have NX4 := Lib.hid NX3
              have hW3 : Below W1.heap.size w2 w3 := ⟨gr3.os, gr3.tape, gr3.output, gr3.size, fun g hg => gr3.block g (by omega) (fun e => by have := (NX2.out.own e.symm).1; omega)⟩
              have HW3 := Lib.hid (HW2.out.trans hW3)
              have HX3 := Lib.hid (And.intro hl3 PP.out.2)
              have HJ3 : Hid (c + 2 * s = (j + 1) * (2 * s)) := by rw [Nat.add_mul, Nat.one_mul, ← HJ.out]; exact Lib.hid rfl
              clear own3 gr3 NX3 hl3 hW3 NX2 HW2 PP NM hX1 hb1 hb2 hlM NRw
              go_wp2_with fail
              go_roundg (n - (c + 2 * s))
              case measure => omega
              case rel => exact ⟨j + 1, c + 2 * s, n, po3, pc3, _, rfl, by first | rfl | (rw [← hea]; rfl) | (norm_cast; done) | (congr 1; omega), by omega, by omega, Nat.le_refl _, HJ3, HX3, NX4, HW3⟩
            · have g4 : n = cc := by omega
              subst g4
              have k1 : ¬ ((c : Int) + (s : Int) ≤ (n : Int)) := by omega
              have k2 : ¬ ((c : Int) + 2 * (s : Int) ≤ (n : Int)) := by omega
              go_wp2_with fail
              have hgw : g < wr.heap.size := (NRw.out.own rfl).2
              have hRl := HR.out.1
              have NA := Lib.hid (cut_nb NRw.out hgw (a := c) (b := n) (o := c) (by omega) (by rw [hRl]; omega) (.inl rfl))
              have NB : Hid (Nb wr.heap.size wr g 0 0 (cut R n n)) := by
                have := cut_nb NRw.out hgw (a := n) (b := n) (o := 0) (by omega) (by rw [hRl]; omega) (.inr rfl)
                first | exact Lib.hid this | (rw [Nat.sub_self] at this; exact Lib.hid this)
              have hla : (cut R c n).length = n - c := cut_len (by rw [hRl]; omega)
              have hlb : (cut R n n).length = 0 := (cut_len (by rw [hRl]; omega)).trans (by omega)
              have hr : (n - c) + 0 = n - c := by omega
              have HLA := Lib.hid (And.intro hla (And.intro hlb hr))
              clear hla hlb hr hRl
              
              refine wp_region_up wr.heap.size 11 [(true, 0), (true, 1), (true, 2), (true, 3), (true, 4), (true, 5), (true, 6), (true, 7), (true, 8), (true, 9), (false, 10)] (by kernel_rfl) (by kernel_rfl) (fun _ _ d _ _ h => by cases d <;> exact h) ?_
              have hb : Below wr.heap.size wr wr.drew := (Below.refl _ _).drew
              iterate 10
                refine wpS_takeL rfl rfl ?_
                go_big_quiet_step (rfl)
                refine wpQuiet_nil ?_
              refine wpS_doL rfl ?_
              intro K hK
              go_wp2_with ((go_at_call 99; go_loud (refine (Merge_v g c g 0 (n - c) 0 (n - c) 0 (n - c) _ _ _ wr NA.out NB.out hb rfl HLA.out.1 HLA.out.2.1 HLA.out.2.2 (by omega) (by omega) (by omega)).mono ?_); rintro e w2 ⟨g3, k3_, rfl, nlM, hn⟩))
              replace hb := hb.trans (hn.mono hb.size)
              refine hK.out _ _ (up_iff.2 hb) ?_
              clear hK K
              clear hn
              refine wpS_nil ?_
              simp only [List.drop_succ_cons, List.drop_zero]
              have NX2 := Lib.hid (NX.out.of hb)
              have NM := Lib.hid nlM
              have HW2 := Lib.hid (HWr.out.trans (hb.mono HWr.out.size))
              have hs2 := HW2.out.size
              have hPP := pass_one hs1 HR.out.1 HR.out.2.1 HJ.out hat (mid := n) (en := n) (by omega) (by omega) HX.out.1 HX.out.2.1 HX.out.2.2
              have PP := Lib.hid hPP
              have hlM : (nI (mrg (cut R c n) (cut R n n))).length = (n - c) * 1 := by have h1 := nI_len (mrg (cut R c n) (cut R n n)); have h2 := PP.out.1; omega
              have hX1 := HX.out.1
              have hb1 : X.length + (n - c) ≤ maxLen := by unfold maxLen; omega
              have hb2 : (X.length + (n - c)) * 8 ≤ 140737488355328 := by omega
              clear hPP nlM hb NA NB HLA NX HWr hgw
              go_wp2_with (at_builtin; go_loud (refine wpList_append_lies _ rfl _ _ 29 rfl W1.heap.size 3 i0 (.int .i64 0) 1 8 Try.underlying29 hi hz0 hz1 hz2 rfl (by decide) (.slice po c pc) X.length (nI X) rfl NX2.out ⟨g3, 0, none⟩ (n - c) k3_ (nI (mrg (cut R c n) (cut R n n))) rfl hlM (srcNL NM.out) (nI_one _) hb1 hb2 hs2 ?_))
              intro v3 w3 own3 gr3 _
              have NX3 : NL w3 W1.heap.size v3 (X ++ mrg (cut R c n) (cut R n n)) := by
                unfold NL
                rw [List.length_append, List.map_append, PP.out.1, HX.out.1]; exact own3
              obtain ⟨po3, pc3, e3, _⟩ := NX3.val
              have hl3 : (X ++ mrg (cut R c n) (cut R n n)).length = n := by rw [List.length_append, PP.out.1, HX.out.1]; exact Nat.add_sub_of_le (by omega)
              rw [hl3] at e3
              subst e3
              have NX4 := Lib.hid NX3
              have hW3 : Below W1.heap.size w2 w3 := ⟨gr3.os, gr3.tape, gr3.output, gr3.size, fun g hg => gr3.block g (by omega) (fun e => by have := (NX2.out.own e.symm).1; omega)⟩
              have HW3 := Lib.hid (HW2.out.trans hW3)
              have HX3 := Lib.hid (And.intro hl3 PP.out.2)
              have HJ3 : Hid (c + 2 * s = (j + 1) * (2 * s)) := by rw [Nat.add_mul, Nat.one_mul, ← HJ.out]; exact Lib.hid rfl
              clear own3 gr3 NX3 hl3 hW3 NX2 HW2 PP NM hX1 hb1 hb2 hlM NRw
              go_wp2_with fail
              go_roundg (n - (c + 2 * s))
              case measure => omega
              case rel => exact ⟨j + 1, c + 2 * s, n, po3, pc3, _, rfl, by first | rfl | (rw [← hea]; rfl) | (norm_cast; done) | (congr 1; omega), by omega, by omega, Nat.le_refl _, HJ3, HX3, NX4, HW3⟩
          · rcases Nat.lt_or_ge n (c + 2 * s) with g2 | g2
            · rcases (show (n < cc ∨ c + s < n) ∨ (n = cc ∧ c + s = n) by omega) with g3 | g3
              · obtain ⟨mid, hmid⟩ : ∃ m, c + s = m := ⟨_, rfl⟩
                have hma : (c : Int) + (s : Int) = (mid : Int) := by omega
                have k0 : (mid : Int) ≤ (n : Int) := by omega
                have k1 : (c : Int) + (s : Int) ≤ (n : Int) := by omega
                have k2 : ¬ ((c : Int) + 2 * (s : Int) ≤ (n : Int)) := by omega
                have k3 : ¬ cc = mid := by omega
                go_wp2_with fail
                have hgw : g < wr.heap.size := (NRw.out.own rfl).2
                have hRl := HR.out.1
                have NA := Lib.hid (cut_nb NRw.out hgw (a := c) (b := mid) (o := c) (by omega) (by rw [hRl]; omega) (.inl rfl))
                have NB : Hid (Nb wr.heap.size wr g mid (cc - mid) (cut R mid n)) := by
                  have := cut_nb NRw.out hgw (a := mid) (b := n) (o := mid) (by omega) (by rw [hRl]; omega) (.inl rfl)
                  first | exact Lib.hid this | (rw [Nat.sub_self] at this; exact Lib.hid this)
                have hla : (cut R c mid).length = mid - c := cut_len (by rw [hRl]; omega)
                have hlb : (cut R mid n).length = (n - mid) := (cut_len (by rw [hRl]; omega)).trans (by omega)
                have hr : (mid - c) + (n - mid) = n - c := by omega
                have HLA := Lib.hid (And.intro hla (And.intro hlb hr))
                clear hla hlb hr hRl
                
                refine wp_region_up wr.heap.size 11 [(true, 0), (true, 1), (true, 2), (true, 3), (true, 4), (true, 5), (true, 6), (true, 7), (true, 8), (true, 9), (false, 10)] (by kernel_rfl) (by kernel_rfl) (fun _ _ d _ _ h => by cases d <;> exact h) ?_
                have hb : Below wr.heap.size wr wr.drew := (Below.refl _ _).drew
                iterate 10
                  refine wpS_takeL rfl rfl ?_
                  go_big_quiet_step (rfl)
                  refine wpQuiet_nil ?_
                refine wpS_doL rfl ?_
                intro K hK
                go_wp2_with ((go_at_call 99; go_loud (refine (Merge_v g c g mid (cc - c) (cc - mid) (mid - c) (n - mid) (n - c) _ _ _ wr NA.out NB.out hb rfl HLA.out.1 HLA.out.2.1 HLA.out.2.2 (by omega) (by omega) (by omega)).mono ?_); rintro e w2 ⟨g3, k3_, rfl, nlM, hn⟩))
                replace hb := hb.trans (hn.mono hb.size)
                refine hK.out _ _ (up_iff.2 hb) ?_
                clear hK K
                clear hn
                refine wpS_nil ?_
                simp only [List.drop_succ_cons, List.drop_zero]
                have NX2 := Lib.hid (NX.out.of hb)
                have NM := Lib.hid nlM
                have HW2 := Lib.hid (HWr.out.trans (hb.mono HWr.out.size))
                have hs2 := HW2.out.size
                have hPP := pass_one hs1 HR.out.1 HR.out.2.1 HJ.out hat (mid := mid) (en := n) (by omega) (by omega) HX.out.1 HX.out.2.1 HX.out.2.2
                have PP := Lib.hid hPP
                have hlM : (nI (mrg (cut R c mid) (cut R mid n))).length = (n - c) * 1 := by have h1 := nI_len (mrg (cut R c mid) (cut R mid n)); have h2 := PP.out.1; omega
                have hX1 := HX.out.1
                have hb1 : X.length + (n - c) ≤ maxLen := by unfold maxLen; omega
                have hb2 : (X.length + (n - c)) * 8 ≤ 140737488355328 := by omega
                clear hPP nlM hb NA NB HLA NX HWr hgw
                go_wp2_with (at_builtin; go_loud (refine wpList_append_lies _ rfl _ _ 29 rfl W1.heap.size 3 i0 (.int .i64 0) 1 8 Try.underlying29 hi hz0 hz1 hz2 rfl (by decide) (.slice po c pc) X.length (nI X) rfl NX2.out ⟨g3, 0, none⟩ (n - c) k3_ (nI (mrg (cut R c mid) (cut R mid n))) rfl hlM (srcNL NM.out) (nI_one _) hb1 hb2 hs2 ?_))
                intro v3 w3 own3 gr3 _
                have NX3 : NL w3 W1.heap.size v3 (X ++ mrg (cut R c mid) (cut R mid n)) := by
                  unfold NL
                  rw [List.length_append, List.map_append, PP.out.1, HX.out.1]; exact own3
                obtain ⟨po3, pc3, e3, _⟩ := NX3.val
                have hl3 : (X ++ mrg (cut R c mid) (cut R mid n)).length = n := by rw [List.length_append, PP.out.1, HX.out.1]; exact Nat.add_sub_of_le (by omega)
                rw [hl3] at e3
                subst e3
                have NX4 := Lib.hid NX3
                have hW3 : Below W1.heap.size w2 w3 := ⟨gr3.os, gr3.tape, gr3.output, gr3.size, fun g hg => gr3.block g (by omega) (fun e => by have := (NX2.out.own e.symm).1; omega)⟩
                have HW3 := Lib.hid (HW2.out.trans hW3)
                have HX3 := Lib.hid (And.intro hl3 PP.out.2)
                have HJ3 : Hid (c + 2 * s = (j + 1) * (2 * s)) := by rw [Nat.add_mul, Nat.one_mul, ← HJ.out]; exact Lib.hid rfl
                clear own3 gr3 NX3 hl3 hW3 NX2 HW2 PP NM hX1 hb1 hb2 hlM NRw
                go_wp2_with fail
                go_roundg (n - (c + 2 * s))
                case measure => omega
                case rel => exact ⟨j + 1, c + 2 * s, n, po3, pc3, _, rfl, by first | rfl | (rw [← hea]; rfl) | (norm_cast; done) | (congr 1; omega), by omega, by omega, Nat.le_refl _, HJ3, HX3, NX4, HW3⟩
              · obtain ⟨g4, g5⟩ := g3
                subst g4
                have hma : (c : Int) + (s : Int) = (n : Int) := by omega
                have k1 : (c : Int) + (s : Int) ≤ (n : Int) := by omega
                have k2 : ¬ ((c : Int) + 2 * (s : Int) ≤ (n : Int)) := by omega
                go_wp2_with fail
                have hgw : g < wr.heap.size := (NRw.out.own rfl).2
                have hRl := HR.out.1
                have NA := Lib.hid (cut_nb NRw.out hgw (a := c) (b := n) (o := c) (by omega) (by rw [hRl]; omega) (.inl rfl))
                have NB : Hid (Nb wr.heap.size wr g 0 0 (cut R n n)) := by
                  have := cut_nb NRw.out hgw (a := n) (b := n) (o := 0) (by omega) (by rw [hRl]; omega) (.inr rfl)
                  first | exact Lib.hid this | (rw [Nat.sub_self] at this; exact Lib.hid this)
                have hla : (cut R c n).length = n - c := cut_len (by rw [hRl]; omega)
                have hlb : (cut R n n).length = 0 := (cut_len (by rw [hRl]; omega)).trans (by omega)
                have hr : (n - c) + 0 = n - c := by omega
                have HLA := Lib.hid (And.intro hla (And.intro hlb hr))
                clear hla hlb hr hRl
                
                refine wp_region_up wr.heap.size 11 [(true, 0), (true, 1), (true, 2), (true, 3), (true, 4), (true, 5), (true, 6), (true, 7), (true, 8), (true, 9), (false, 10)] (by kernel_rfl) (by kernel_rfl) (fun _ _ d _ _ h => by cases d <;> exact h) ?_
                have hb : Below wr.heap.size wr wr.drew := (Below.refl _ _).drew
                iterate 10
                  refine wpS_takeL rfl rfl ?_
                  go_big_quiet_step (rfl)
                  refine wpQuiet_nil ?_
                refine wpS_doL rfl ?_
                intro K hK
                go_wp2_with ((go_at_call 99; go_loud (refine (Merge_v g c g 0 (n - c) 0 (n - c) 0 (n - c) _ _ _ wr NA.out NB.out hb rfl HLA.out.1 HLA.out.2.1 HLA.out.2.2 (by omega) (by omega) (by omega)).mono ?_); rintro e w2 ⟨g3, k3_, rfl, nlM, hn⟩))
                replace hb := hb.trans (hn.mono hb.size)
                refine hK.out _ _ (up_iff.2 hb) ?_
                clear hK K
                clear hn
                refine wpS_nil ?_
                simp only [List.drop_succ_cons, List.drop_zero]
                have NX2 := Lib.hid (NX.out.of hb)
                have NM := Lib.hid nlM
                have HW2 := Lib.hid (HWr.out.trans (hb.mono HWr.out.size))
                have hs2 := HW2.out.size
                have hPP := pass_one hs1 HR.out.1 HR.out.2.1 HJ.out hat (mid := n) (en := n) (by omega) (by omega) HX.out.1 HX.out.2.1 HX.out.2.2
                have PP := Lib.hid hPP
                have hlM : (nI (mrg (cut R c n) (cut R n n))).length = (n - c) * 1 := by have h1 := nI_len (mrg (cut R c n) (cut R n n)); have h2 := PP.out.1; omega
                have hX1 := HX.out.1
                have hb1 : X.length + (n - c) ≤ maxLen := by unfold maxLen; omega
                have hb2 : (X.length + (n - c)) * 8 ≤ 140737488355328 := by omega
                clear hPP nlM hb NA NB HLA NX HWr hgw
                go_wp2_with (at_builtin; go_loud (refine wpList_append_lies _ rfl _ _ 29 rfl W1.heap.size 3 i0 (.int .i64 0) 1 8 Try.underlying29 hi hz0 hz1 hz2 rfl (by decide) (.slice po c pc) X.length (nI X) rfl NX2.out ⟨g3, 0, none⟩ (n - c) k3_ (nI (mrg (cut R c n) (cut R n n))) rfl hlM (srcNL NM.out) (nI_one _) hb1 hb2 hs2 ?_))
                intro v3 w3 own3 gr3 _
                have NX3 : NL w3 W1.heap.size v3 (X ++ mrg (cut R c n) (cut R n n)) := by
                  unfold NL
                  rw [List.length_append, List.map_append, PP.out.1, HX.out.1]; exact own3
                obtain ⟨po3, pc3, e3, _⟩ := NX3.val
                have hl3 : (X ++ mrg (cut R c n) (cut R n n)).length = n := by rw [List.length_append, PP.out.1, HX.out.1]; exact Nat.add_sub_of_le (by omega)
                rw [hl3] at e3
                subst e3
                have NX4 := Lib.hid NX3
                have hW3 : Below W1.heap.size w2 w3 := ⟨gr3.os, gr3.tape, gr3.output, gr3.size, fun g hg => gr3.block g (by omega) (fun e => by have := (NX2.out.own e.symm).1; omega)⟩
                have HW3 := Lib.hid (HW2.out.trans hW3)
                have HX3 := Lib.hid (And.intro hl3 PP.out.2)
                have HJ3 : Hid (c + 2 * s = (j + 1) * (2 * s)) := by rw [Nat.add_mul, Nat.one_mul, ← HJ.out]; exact Lib.hid rfl
                clear own3 gr3 NX3 hl3 hW3 NX2 HW2 PP NM hX1 hb1 hb2 hlM NRw
                go_wp2_with fail
                go_roundg (n - (c + 2 * s))
                case measure => omega
                case rel => exact ⟨j + 1, c + 2 * s, n, po3, pc3, _, rfl, by first | rfl | (rw [← hea]; rfl) | (norm_cast; done) | (congr 1; omega), by omega, by omega, Nat.le_refl _, HJ3, HX3, NX4, HW3⟩
            · obtain ⟨mid, hmid⟩ : ∃ m, c + s = m := ⟨_, rfl⟩
              have hma : (c : Int) + (s : Int) = (mid : Int) := by omega
              have k0 : (mid : Int) ≤ (n : Int) := by omega
              obtain ⟨en, hen⟩ : ∃ m, c + 2 * s = m := ⟨_, rfl⟩
              have hea : (c : Int) + 2 * (s : Int) = (en : Int) := by omega
              have k1 : (c : Int) + (s : Int) ≤ (n : Int) := by omega
              have k2 : (c : Int) + 2 * (s : Int) ≤ (n : Int) := by omega
              have k4 : (en : Int) ≤ (n : Int) := by omega
              have k3 : ¬ cc = mid := by omega
              go_wp2_with fail
              have hgw : g < wr.heap.size := (NRw.out.own rfl).2
              have hRl := HR.out.1
              have NA := Lib.hid (cut_nb NRw.out hgw (a := c) (b := mid) (o := c) (by omega) (by rw [hRl]; omega) (.inl rfl))
              have NB : Hid (Nb wr.heap.size wr g mid (cc - mid) (cut R mid en)) := by
                have := cut_nb NRw.out hgw (a := mid) (b := en) (o := mid) (by omega) (by rw [hRl]; omega) (.inl rfl)
                first | exact Lib.hid this | (rw [Nat.sub_self] at this; exact Lib.hid this)
              have hla : (cut R c mid).length = mid - c := cut_len (by rw [hRl]; omega)
              have hlb : (cut R mid en).length = (en - mid) := (cut_len (by rw [hRl]; omega)).trans (by omega)
              have hr : (mid - c) + (en - mid) = en - c := by omega
              have HLA := Lib.hid (And.intro hla (And.intro hlb hr))
              clear hla hlb hr hRl
              
              refine wp_region_up wr.heap.size 11 [(true, 0), (true, 1), (true, 2), (true, 3), (true, 4), (true, 5), (true, 6), (true, 7), (true, 8), (true, 9), (false, 10)] (by kernel_rfl) (by kernel_rfl) (fun _ _ d _ _ h => by cases d <;> exact h) ?_
              have hb : Below wr.heap.size wr wr.drew := (Below.refl _ _).drew
              iterate 10
                refine wpS_takeL rfl rfl ?_
                go_big_quiet_step (rfl)
                refine wpQuiet_nil ?_
              refine wpS_doL rfl ?_
              intro K hK
              go_wp2_with ((go_at_call 99; go_loud (refine (Merge_v g c g mid (cc - c) (cc - mid) (mid - c) (en - mid) (en - c) _ _ _ wr NA.out NB.out hb rfl HLA.out.1 HLA.out.2.1 HLA.out.2.2 (by omega) (by omega) (by omega)).mono ?_); rintro e w2 ⟨g3, k3_, rfl, nlM, hn⟩))
              replace hb := hb.trans (hn.mono hb.size)
              refine hK.out _ _ (up_iff.2 hb) ?_
              clear hK K
              clear hn
              refine wpS_nil ?_
              simp only [List.drop_succ_cons, List.drop_zero]
              have NX2 := Lib.hid (NX.out.of hb)
              have NM := Lib.hid nlM
              have HW2 := Lib.hid (HWr.out.trans (hb.mono HWr.out.size))
              have hs2 := HW2.out.size
              have hPP := pass_one hs1 HR.out.1 HR.out.2.1 HJ.out hat (mid := mid) (en := en) (by omega) (by omega) HX.out.1 HX.out.2.1 HX.out.2.2
              have PP := Lib.hid hPP
              have hlM : (nI (mrg (cut R c mid) (cut R mid en))).length = (en - c) * 1 := by have h1 := nI_len (mrg (cut R c mid) (cut R mid en)); have h2 := PP.out.1; omega
              have hX1 := HX.out.1
              have hb1 : X.length + (en - c) ≤ maxLen := by unfold maxLen; omega
              have hb2 : (X.length + (en - c)) * 8 ≤ 140737488355328 := by omega
              clear hPP nlM hb NA NB HLA NX HWr hgw
              go_wp2_with (at_builtin; go_loud (refine wpList_append_lies _ rfl _ _ 29 rfl W1.heap.size 3 i0 (.int .i64 0) 1 8 Try.underlying29 hi hz0 hz1 hz2 rfl (by decide) (.slice po c pc) X.length (nI X) rfl NX2.out ⟨g3, 0, none⟩ (en - c) k3_ (nI (mrg (cut R c mid) (cut R mid en))) rfl hlM (srcNL NM.out) (nI_one _) hb1 hb2 hs2 ?_))
              intro v3 w3 own3 gr3 _
              have NX3 : NL w3 W1.heap.size v3 (X ++ mrg (cut R c mid) (cut R mid en)) := by
                unfold NL
                rw [List.length_append, List.map_append, PP.out.1, HX.out.1]; exact own3
              obtain ⟨po3, pc3, e3, _⟩ := NX3.val
              have hl3 : (X ++ mrg (cut R c mid) (cut R mid en)).length = en := by rw [List.length_append, PP.out.1, HX.out.1]; exact Nat.add_sub_of_le (by omega)
              rw [hl3] at e3
              subst e3
              have NX4 := Lib.hid NX3
              have hW3 : Below W1.heap.size w2 w3 := ⟨gr3.os, gr3.tape, gr3.output, gr3.size, fun g hg => gr3.block g (by omega) (fun e => by have := (NX2.out.own e.symm).1; omega)⟩
              have HW3 := Lib.hid (HW2.out.trans hW3)
              have HX3 := Lib.hid (And.intro hl3 PP.out.2)
              have HJ3 : Hid (c + 2 * s = (j + 1) * (2 * s)) := by rw [Nat.add_mul, Nat.one_mul, ← HJ.out]; exact Lib.hid rfl
              clear own3 gr3 NX3 hl3 hW3 NX2 HW2 PP NM hX1 hb1 hb2 hlM NRw
              go_wp2_with fail
              go_roundg (n - (c + 2 * s))
              case measure => omega
              case rel => exact ⟨j + 1, c + 2 * s, en, po3, pc3, _, rfl, by first | rfl | (rw [← hea]; rfl) | (norm_cast; done) | (congr 1; omega), by omega, by omega, Nat.le_refl _, HJ3, HX3, NX4, HW3⟩
        · have hcn : c = n := by omega
          clear hc
          subst hcn
          have HR2 : Hid (X.length = c ∧ Pcs (s * 2) X ∧ ∀ z, z ∈ X ↔ z ∈ L) := by
            refine Lib.hid ⟨HX.out.1, by rw [Nat.mul_comm]; exact HX.out.2.1, fun z => ?_⟩
            rw [HX.out.2.2, List.take_of_length_le (by rw [HR.out.1]; exact Nat.le_refl _)]
            exact HR.out.2.2 z
          have NX2 := Lib.hid (NX.out.low2 hsz1)
          have HW2 := Lib.hid (HW.out.trans (HWr.out.mono hsz1))
          clear HX NX HWr HW
          go_wp2_with fail
          go_roundg (c - s * 2)
          case measure => omega
          case rel => exact ⟨s * 2, po, pc, X, rfl, by first | rfl | norm_cast, by omega, by omega, Nat.le_refl _, HR2, NX2, HW2⟩
    · have hR := pcs_end HR.out.2.1 (by rw [HR.out.1]; omega)
      have HAA := Lib.hid hR
      clear hR
      go_wp2
      go_ret
      exact ⟨_, R, rfl, NR.out, HAA.out, HR.out.2.2, HR.out.1, HW.out⟩
end Go.Proofs.Ytdlpfiiakmhnlaa

namespace Go.Proofs.Ytdlpfiiakmhnlaa
open Go.RowKit Go.Shelf

/-- the iterator g (captured: lb) tells encs 0, encs 1, .. up to N, as far as it is asked; it turns nothing below B; a round keeps what lies at or above B; it asks Kp between two rounds -/
def TellsV (P : Program) (gf : Nat) (lb : Array Value) (N : Nat) (E : Nat → Value → World → Prop) (B : Nat) (Kp : World → Prop) : Prop :=
  ∀ (m lid : Nat) (I : (Nat → Prop) → Nat → World → Prop) (Ix : Nat → World → Prop), (∀ G k W, I G k W → Kp W) → (∀ G k W, I G k W → ∀ g, G g → B ≤ g ∧ g < W.heap.size) → (∀ G k W W', I G k W → BelowX B G W W' → I G k W') → (∀ k W W', Ix k W → Below B W W' → Ix k W') →
    (∀ G k v W, k < N → I G k W → E k v W → YieldAt Fence.wide m P lid #[v] W fun e W' => ((e = .returned (.bool true) ∧ ∃ G', (∀ g, G' g → G g ∨ W.heap.size ≤ g) ∧ I G' (k + 1) W') ∨ (e = .returned (.bool false) ∧ Ix (k + 1) W')) ∧ AboveX B G W W') →
    ∀ W, B ≤ W.heap.size → I (fun _ => False) 0 W → CallsIn Fence.wide (m + 1) P gf (#[.func (.yield lid) #[] #[]] ++ lb) W fun e W' => (∃ v, e = .returned v) ∧ ((∃ G, I G N W') ∨ ∃ k, k ≤ N ∧ Ix k W')
set_option maxHeartbeats 1000000 in
theorem wpIn_rangeV {P : Program} {g : Operand} {ps : Array Tmp} {assign body : Code} {Q : Exit → Act → World → Prop} {a : Act} {w : World} {m : Nat} {gf : Nat} {lb : Array Value} {N : Nat} {E : Nat → Value → World → Prop} {Kp : World → Prop}
    (hg : a.eval g = .func (.func gf) #[] lb) (eg : ∀ args w, (callFunc gf args).run P w = .ok (.enter gf args) w)
    (hT : TellsV P gf lb N E (w.heap.size + 2) Kp) (hps : ps.size = 1)
    (J : (Nat → Prop) → Nat → World → Prop) (Jx : Code → Nat → World → Prop) (hG : ∀ G k W, J G k W → ∀ g, G g → w.heap.size + 2 ≤ g ∧ g < W.heap.size) (hst : ∀ G k W W', J G k W → BelowX w.heap.size G W W' → J G k W') (hxst : ∀ c k W W', Jx c k W → Below w.heap.size W W' → Jx c k W')
    (hKp : ∀ G k W, J G k W → Kp W) (h0 : J (fun _ => False) 0 w)
    (hround : ∀ (lid D k : Nat) (v : Value) (G : Nat → Prop) (W : World), k < N → J G k W → E k v W → lid = w.heap.size + 1 → D = w.heap.size → lid < W.heap.size → D < W.heap.size →
      assign.wpIn (Fence.wide.inRound lid) m P (Exit.then (fun a₁ w₁ => (Fix2 lid D W w₁ ∧ AboveX (w.heap.size + 2) G W w₁) ∧ ∀ w₂, OutL [lid] w₁ w₂ → body.wpIn (Fence.wide.inRound lid) m P (rPostX (w.heap.size + 2) lid D w₂ J Jx G k) a₁ w₂) (fun _ _ _ => False))
        { tmps := (ps.zip #[v]).foldl (fun t (p, v) => t.setIfInBounds p v) a.tmps, defers := [] } W)
    (hdone : ∀ D G W, D = w.heap.size → J G N W → W.heap[D]? = some (.deferred (some [])) → Q .normal { a with defers := { target := .collected D, args := #[] } :: a.defers } W)
    (hstop : ∀ D c k W, D = w.heap.size → Jx c k W → W.heap[D]? = some (.deferred (some [])) → c.wpIn Fence.wide (m + 2) P Q { a with defers := { target := .collected D, args := #[] } :: a.defers } W) :
    (Code.rangeFunc g ps assign body).wpIn Fence.wide (m + 2) P Q a w := by
  refine wpIn_rangeFunc ?_
  intro fn hfn
  obtain ⟨rec, hrec⟩ : ∃ rec : LoopState → Option Code → Loop, rec = fun st pe => { state := st, pending := pe, fn, tmps := a.tmps, params := ps, assign, body, defers := w.heap.size } := ⟨_, rfl⟩
  obtain ⟨W1, hW1⟩ : ∃ W1, (w.alloc (.deferred (some []))).alloc (.loop (rec .ready none)) = W1 := ⟨_, rfl⟩
  have hL1 : W1.heap[w.heap.size + 1]? = some (.loop (rec .ready none)) := by
    rw [← hW1]; have := World.alloc_heap_new (w.alloc (.deferred (some []))) (.loop (rec .ready none)); rwa [World.size_alloc] at this
  have hK1 : W1.heap[w.heap.size]? = some (.deferred (some [])) := by
    rw [← hW1]; exact (Below.heap_alloc _ _ _ (by simp)).trans (World.alloc_heap_new w _)
  have hb1 : Below w.heap.size w W1 := by rw [← hW1]; exact below_a2 _ _ _
  have hsz : W1.heap.size = w.heap.size + 2 := by rw [← hW1]; simp
  refine ⟨w.heap.size + 1, [{ target := .collected w.heap.size, args := #[] }], W1, { target := .fn (.func gf) lb, args := #[.func (.yield (w.heap.size + 1)) #[] #[]] }, W1, gf,
    #[.func (.yield (w.heap.size + 1)) #[] #[]] ++ lb, W1, ?_, ?_, ?_, ?_, fun h => absurd h (by decide), ?_⟩
  · rw [← hW1, hrec]; exact run_enterLoop_outer _ _ _ _ _
  · simp only [resolve, hg]
    simp [go_sem]
  · intro f' hf'; trivial
  · simp [invoke, go_sem, eg]
  · refine (hT m (w.heap.size + 1)
      (fun G k W => J G k W ∧ W.heap[w.heap.size + 1]? = some (.loop (rec .ready none)) ∧ W.heap[w.heap.size]? = some (.deferred (some [])))
      (fun k W => ∃ c, Jx c k W ∧ W.heap[w.heap.size + 1]? = some (.loop (rec .done (some c))) ∧ W.heap[w.heap.size]? = some (.deferred (some [])))
      (fun G k W h => hKp G k W h.1) (fun G k W h => hG G k W h.1) (fun G k W W' h hb => ⟨hst G k W W' h.1 (hb.mono (by omega)), (hb.1.block _ (by omega)).trans h.2.1, (hb.1.block _ (by omega)).trans h.2.2⟩)
      (fun k W W' h hb => by obtain ⟨c, h1, h2, h3⟩ := h; exact ⟨c, hxst c k W W' h1 (hb.mono (by omega)), (hb.block _ (by omega)).trans h2, (hb.block _ (by omega)).trans h3⟩)
      ?_ W1 (by omega) ⟨hst _ 0 _ _ h0 ⟨hb1, fun g hg => hg.elim⟩, hL1, hK1⟩).mono ?_
    · rintro G k v W hk ⟨hi, hl, hd⟩ hE
      have hlt : w.heap.size + 1 < W.heap.size := (Array.getElem?_eq_some_iff.1 hl).1
      have hy := run_yield (P := P) (args := #[v]) hl (by rw [hrec]; exact hps.symm)
      rw [hrec] at hy
      refine ⟨fn, _, assign, body, hy, roundIn_of_wpIn trivial (wpIn_mono (hround _ _ k v G W hk hi hE rfl rfl hlt (by omega)) ?_)⟩
      rintro e a1 w1 he
      cases e with
      | normal =>
        obtain ⟨⟨hf1, hab1⟩, hbody⟩ := he
        have hl1 : w1.heap[w.heap.size + 1]? = some (.loop (rec .ready none)) := hf1.1.trans hl
        have hd1 : w1.heap[w.heap.size]? = some (.deferred (some [])) := hf1.2.trans hd
        have hlt1 : w.heap.size + 1 < w1.heap.size := (Array.getElem?_eq_some_iff.1 hl1).1
        refine ⟨_, run_beginRound hl1 (by rw [hrec]), wpIn_mono (hbody _ (putObj_out _ _ _)) ?_⟩
        have hl2 : (w1.putObj (w.heap.size + 1) (.loop { rec .ready none with state := .busy })).heap[w.heap.size + 1]? = some (.loop { rec .ready none with state := .busy }) := World.putObj_heap_same hlt1
        have hd2 : (w1.putObj (w.heap.size + 1) (.loop { rec .ready none with state := .busy })).heap[w.heap.size]? = some (.deferred (some [])) := (World.putObj_heap_other (by omega)).trans hd1
        have fin : ∀ (jump : Option Code) (W3 : World), Fix2 (w.heap.size + 1) w.heap.size (w1.putObj (w.heap.size + 1) (.loop { rec .ready none with state := .busy })) W3 →
            (Instr.endRound (w.heap.size + 1) jump).run P W3 = .ok (.bool jump.isNone) (W3.putObj (w.heap.size + 1) (.loop (rec (if jump.isNone then .ready else .done) jump))) ∧
            (W3.putObj (w.heap.size + 1) (.loop (rec (if jump.isNone then .ready else .done) jump))).heap[w.heap.size + 1]? = some (.loop (rec (if jump.isNone then .ready else .done) jump)) ∧
            (W3.putObj (w.heap.size + 1) (.loop (rec (if jump.isNone then .ready else .done) jump))).heap[w.heap.size]? = some (.deferred (some [])) := fun jump W3 hk3 => by
          have hl3 := hk3.1.trans hl2
          have := run_endRound (P := P) jump hl3
          rw [hrec] at this ⊢
          exact ⟨this, World.putObj_heap_same (Array.getElem?_eq_some_iff.1 hl3).1, (World.putObj_heap_other (by omega)).trans (hk3.2.trans hd2)⟩
        have pb : ∀ (W3 : World) (o : Obj), w.heap.size ≤ W3.heap.size → Below w.heap.size W3 (W3.putObj (w.heap.size + 1) o) := fun W3 o h => (putObj_out W3 _ o).below h (by simp)
        have sz3 : ∀ W3 : World, Fix2 (w.heap.size + 1) w.heap.size (w1.putObj (w.heap.size + 1) (.loop { rec .ready none with state := .busy })) W3 → w.heap.size ≤ W3.heap.size := fun W3 h => by
          have := (Array.getElem?_eq_some_iff.1 (h.1.trans hl2)).1; omega
        rintro e a3 W3 hp
        have abv : ∀ o : Obj, AboveX (w.heap.size + 2) G (w1.putObj (w.heap.size + 1) (.loop { rec .ready none with state := .busy })) W3 → AboveX (w.heap.size + 2) G W (W3.putObj (w.heap.size + 1) o) := fun o h => ((hab1.trans (.ofAbove (.putObj _ (by omega) _))).trans h).trans (.ofAbove (.putObj _ (by omega) _))
        cases e with
        | normal =>
          obtain ⟨⟨hf3, G', hG', hJ3⟩, hab⟩ := hp
          obtain ⟨hr, hl4, hk4⟩ := fin none W3 hf3
          have hgg := hG _ _ _ hJ3
          refine ⟨_, _, hr, .inl ⟨rfl, G', fun g hg => ?_, hst _ _ _ _ hJ3 ⟨pb _ _ (sz3 _ hf3), fun g hg _ => World.putObj_heap_other (by have := hgg g hg; omega)⟩, hl4, hk4⟩, abv _ hab⟩
          rcases hG' g hg with h | h
          · exact .inl h
          · refine .inr (Nat.le_trans hab1.size ?_)
            simpa using h
        | ret =>
          obtain ⟨hp, hab⟩ := hp
          obtain ⟨hr, hl4, hk4⟩ := fin (some .ret) W3 hp.1
          exact ⟨_, _, hr, .inr ⟨rfl, .ret, hxst _ _ _ _ hp.2 (pb _ _ (sz3 _ hp.1)), hl4, hk4⟩, abv _ hab⟩
        | exit id =>
          obtain ⟨hp, hab⟩ := hp
          obtain ⟨hr, hl4, hk4⟩ := fin (some (.exit id)) W3 hp.1
          exact ⟨_, _, hr, .inr ⟨rfl, .exit id, hxst _ _ _ _ hp.2 (pb _ _ (sz3 _ hp.1)), hl4, hk4⟩, abv _ hab⟩
        | goto t =>
          obtain ⟨hp, hab⟩ := hp
          obtain ⟨hr, hl4, hk4⟩ := fin (some (.goto t)) W3 hp.1
          exact ⟨_, _, hr, .inr ⟨rfl, .goto t, hxst _ _ _ _ hp.2 (pb _ _ (sz3 _ hp.1)), hl4, hk4⟩, abv _ hab⟩
        | panic ch => exact hp.elim
        | outgrown => exact hp.elim
      | exit id => exact he.elim
      | goto t => exact he.elim
      | ret => exact he.elim
      | panic c => exact he.elim
      | outgrown => exact he.elim
    · rintro e W2 ⟨⟨v, rfl⟩, (⟨G, hi, hl, hd⟩ | ⟨k, _, c, hi, hl, hd⟩)⟩
      · have hlt : w.heap.size + 1 < W2.heap.size := (Array.getElem?_eq_some_iff.1 hl).1
        exact ⟨none, _, by have := run_endLoop (P := P) hl (by rw [hrec]; simp); rw [hrec] at this; exact this, hdone _ _ _ rfl (hst _ _ _ _ hi ⟨(putObj_out _ _ _).below (by omega) (by simp), fun g hg _ => World.putObj_heap_other (by have := hG _ _ _ hi g hg; omega)⟩) ((World.putObj_heap_other (by omega)).trans hd)⟩
      · have hlt : w.heap.size + 1 < W2.heap.size := (Array.getElem?_eq_some_iff.1 hl).1
        exact ⟨some c, _, by have := run_endLoop (P := P) hl (by rw [hrec]; simp); rw [hrec] at this; exact this, hstop _ c k _ rfl (hxst _ _ _ _ hi ((putObj_out _ _ _).below (by omega) (by simp))) ((World.putObj_heap_other (by omega)).trans hd)⟩
end Go.Proofs.Ytdlpfiiakmhnlaa

namespace Go.Proofs.Ytdlpfiiakmhnlaa
open Go.RowKit

/-- one of each run of things alike -/
def dd : List Nat → List Nat
  | [] => []
  | [x] => [x]
  | x :: y :: l => if x = y then dd (y :: l) else x :: dd (y :: l)
/-- one more thing -/
theorem dd_snoc : ∀ (l : List Nat) (x y : Nat), dd (l ++ [x, y]) = if x = y then dd (l ++ [x]) else dd (l ++ [x]) ++ [y]
  | [], x, y => by
    by_cases h : x = y
    · subst h; simp [dd]
    · simp [dd, h]
  | [a], x, y => by
    show dd (a :: x :: [y]) = _
    by_cases h1 : a = x <;> by_cases h : x = y <;> simp [dd, h1, h]
  | a :: b :: l, x, y => by
    have ih := dd_snoc (b :: l) x y
    show dd (a :: b :: (l ++ [x, y])) = if x = y then dd (a :: b :: (l ++ [x])) else dd (a :: b :: (l ++ [x])) ++ [y]
    have ih2 : dd (b :: (l ++ [x, y])) = if x = y then dd (b :: (l ++ [x])) else dd (b :: (l ++ [x])) ++ [y] := ih
    rw [dd, dd]
    by_cases h1 : a = b
    · rw [if_pos h1, if_pos h1]; exact ih2
    · rw [if_neg h1, if_neg h1, ih2]
      by_cases h : x = y <;> simp [h]
theorem dd_mem : ∀ (l : List Nat) (z : Nat), z ∈ dd l ↔ z ∈ l
  | [], z => by simp [dd]
  | [x], z => by simp [dd]
  | x :: y :: l, z => by
    have ih := dd_mem (y :: l) z
    unfold dd
    by_cases h : x = y
    · subst h
      rw [if_pos rfl, ih]
      simp
    · rw [if_neg h, List.mem_cons, ih]
      simp only [List.mem_cons]
theorem dd_up : ∀ (l : List Nat), Asc l → (dd l).Pairwise (· < ·)
  | [], _ => by simp [dd]
  | [x], _ => by simp [dd]
  | x :: y :: l, h => by
    have hc := List.pairwise_cons.1 h
    have ih := dd_up (y :: l) hc.2
    unfold dd
    by_cases e : x = y
    · rw [if_pos e]; exact ih
    · rw [if_neg e]
      refine List.pairwise_cons.2 ⟨fun z hz => ?_, ih⟩
      have h1 := (dd_mem (y :: l) z).1 hz
      have h2 := hc.1 z h1
      have h3 := hc.1 y (List.mem_cons_self ..)
      rcases List.mem_cons.1 h1 with rfl | h1
      · omega
      · have := (List.pairwise_cons.1 hc.2).1 z h1
        have h4 : y ≤ z := this
        omega
theorem dd_len : ∀ (l : List Nat), (dd l).length ≤ l.length
  | [] => by simp [dd]
  | [x] => by simp [dd]
  | x :: y :: l => by
    have ih := dd_len (y :: l)
    unfold dd
    split
    · simp only [List.length_cons] at ih ⊢; omega
    · simp only [List.length_cons] at ih ⊢; omega
/-- the state behind i things: k runs are whole, the one that began at f goes on -/
def RunAt (L : List Nat) (f i k : Nat) : Prop := ∃ D x, dd (L.take i) = D ++ [x] ∧ D.length = k ∧ L[i - 1]? = some x ∧ L[f]? = some x ∧ f < i
theorem run_0 {L : List Nat} (h : 0 < L.length) : RunAt L 0 1 0 := by
  obtain ⟨x, hx⟩ : ∃ x, L[0]? = some x := ⟨_, List.getElem?_eq_getElem h⟩
  refine ⟨[], x, ?_, rfl, hx, hx, by omega⟩
  cases L with
  | nil => simp at h
  | cons y l => simp at hx; subst hx; simp [dd]
theorem take_two {L : List Nat} {i x y : Nat} (h0 : 0 < i) (hx : L[i - 1]? = some x) (hy : L[i]? = some y) : L.take i = L.take (i - 1) ++ [x] ∧ L.take (i + 1) = L.take (i - 1) ++ [x, y] := by
  have e : L.take i = L.take (i - 1) ++ [x] := by
    conv => lhs; rw [show i = i - 1 + 1 by omega]
    rw [List.take_add_one, hx]; rfl
  refine ⟨e, ?_⟩
  rw [List.take_add_one, hy, e]; simp
theorem run_same {L : List Nat} {f i k x : Nat} (h : RunAt L f i k) (h0 : 0 < i) (hx : L[i - 1]? = some x) (hy : L[i]? = some x) : RunAt L f (i + 1) k := by
  obtain ⟨D, x', h1, h2, h3, h4, h5⟩ := h
  rw [hx] at h3
  injection h3 with h3
  subst h3
  obtain ⟨e1, e2⟩ := take_two h0 hx hy
  refine ⟨D, x, ?_, h2, by simpa using hy, h4, by omega⟩
  rw [e2, dd_snoc, if_pos rfl, ← e1]; exact h1
theorem run_new {L : List Nat} {f i k x y : Nat} (h : RunAt L f i k) (h0 : 0 < i) (hx : L[i - 1]? = some x) (hy : L[i]? = some y) (hne : x ≠ y) : RunAt L i (i + 1) (k + 1) := by
  obtain ⟨D, x', h1, h2, h3, h4, h5⟩ := h
  obtain ⟨e1, e2⟩ := take_two h0 hx hy
  refine ⟨D ++ [x'], y, ?_, by simp [h2], by simpa using hy, hy, by omega⟩
  rw [e2, dd_snoc, if_neg hne, ← e1, h1]
theorem run_end {L : List Nat} {f k : Nat} (h : RunAt L f L.length k) : k + 1 = (dd L).length := by
  obtain ⟨D, x, h1, h2, _⟩ := h
  rw [List.take_of_length_le (Nat.le_refl _)] at h1
  rw [h1, List.length_append, h2]; rfl
theorem dd_app : ∀ (A B : List Nat) (x y : Nat), x ≠ y → dd (A ++ [x] ++ y :: B) = dd (A ++ [x]) ++ dd (y :: B)
  | [], B, x, y, h => by simp [dd, h]
  | [a], B, x, y, h => by
    show dd (a :: x :: y :: B) = dd [a, x] ++ _
    by_cases h1 : a = x <;> simp [dd, h1, h]
  | a :: b :: A, B, x, y, h => by
    have ih := dd_app (b :: A) B x y h
    show dd (a :: b :: (A ++ [x] ++ y :: B)) = dd (a :: b :: (A ++ [x])) ++ _
    have ih2 : dd (b :: (A ++ [x] ++ y :: B)) = dd (b :: (A ++ [x])) ++ dd (y :: B) := ih
    rw [dd, dd]
    by_cases h1 : a = b
    · rw [if_pos h1, if_pos h1]; exact ih2
    · rw [if_neg h1, if_neg h1, ih2]; rfl
/-- what is told at the end of a run -/
theorem run_tell {L : List Nat} {f i k : Nat} (h : RunAt L f i k) (h0 : 0 < i) (hb : i = L.length ∨ ∃ x y, L[i - 1]? = some x ∧ L[i]? = some y ∧ x ≠ y) : (dd L)[k]? = L[f]? ∧ k < (dd L).length := by
  obtain ⟨D, x, h1, h2, h3, h4, h5⟩ := h
  rcases hb with rfl | ⟨x', y, hx, hy, hne⟩
  · rw [List.take_of_length_le (Nat.le_refl _)] at h1
    rw [h1, h4, ← h2]
    simp
  · rw [hx] at h3
    injection h3 with h3
    subst h3
    obtain ⟨e1, _⟩ := take_two h0 hx hy
    have hil : i < L.length := (List.getElem?_eq_some_iff.1 hy).1
    have hL : L = L.take (i - 1) ++ [x'] ++ y :: L.drop (i + 1) := by
      rw [← e1]
      conv => lhs; rw [← List.take_append_drop i L]
      rw [List.drop_eq_getElem_cons hil, (List.getElem?_eq_some_iff.1 hy).2]
    have hd : dd L = D ++ [x'] ++ dd (y :: L.drop (i + 1)) := by
      conv => lhs; rw [hL]
      rw [dd_app _ _ _ _ hne, ← e1, h1]
    rw [hd, h4, ← h2]
    constructor
    · rw [List.append_assoc, List.getElem?_append_right (Nat.le_refl _), Nat.sub_self]; rfl
    · simp
end Go.Proofs.Ytdlpfiiakmhnlaa

namespace Go.Proofs.Ytdlpfiiakmhnlaa
open Go.RowKit Go.Shelf
attribute [local go_sem] Oper.semAt_some undef

theorem Same_is (ob : Nat) (x y : Int) (w : World) (hb : Blk w ob #[cmpF] 120) : Calls Try.prog 89 #[.int .i64 x, .int .i64 y, ptr ob 0] w fun e w' => e = .returned (.bool (x == y)) ∧ Below w.heap.size w w' := by
  have c0 := hb.cell 0
  simp only [List.getElem?_toArray, List.getElem?_cons_zero] at c0
  obtain ⟨r, hr⟩ : ∃ r, cmpI x y = r := ⟨_, rfl⟩
  have HR := Lib.hid hr
  have he : (r == 0) = (x == y) := by
    rw [← hr]
    unfold cmpI
    by_cases h1 : x < y
    · have : ¬ x = y := by omega
      simp [h1, this]
    · by_cases h2 : y < x
      · have : ¬ x = y := by omega
        simp [h1, h2, this]
      · have : x = y := by omega
        simp [this]
  clear hr
  go_enter Try.func89, Try.ntmps89
  go_wp2_with fail
  refine (CmpI_is x y r HR.out w).mono ?_
  rintro e w2 ⟨rfl, h⟩
  have HH := Lib.hid h
  have HE := Lib.hid he
  clear h he
  go_wp2
  go_ret
  exact ⟨by rw [← HE.out]; rfl, HH.out⟩
abbrev smF (ob : Nat) : Value := .func (.func 89) #[] #[ptr ob 0]
theorem Runs_is (ao : Option Addr) (n c ob : Nat) (w : World) : Calls Try.prog 87 #[.slice ao n c, smF ob] w fun e w' => e = .returned (.func (.func 97) #[] #[ptr w.heap.size 0, ptr (w.heap.size + 1) 0]) ∧ Blk w' w.heap.size #[.slice ao n c] 29 ∧ Blk w' (w.heap.size + 1) #[smF ob] 118 ∧ Below w.heap.size w w' := by
  go_enter Try.func87, Try.ntmps87
  go_wp2
  go_ret
  exact ⟨rfl, (Blk.new _ _ _).alloc _, Blk.new1 _ _ _ _, below_a2 _ _ _⟩
/-- what the iterator tells: fresh slices that begin with one of each run -/
def rnE (B : Nat) (L : List Nat) (k : Nat) (v : Value) (W : World) : Prop := ∃ M, NL W B v M ∧ M[0]? = (dd L)[k]? ∧ k < (dd L).length
theorem Ns.cut {w : World} {g o cc : Nat} {L : List Nat} (h : Ns w (some ⟨g, o, none⟩) cc L) {f i : Nat} (hf : f < i) (hi : i ≤ L.length) : Ns w (some ⟨g, o + f, none⟩) (cc - f) (cut L f i) := by
  have hc := h.capl
  have hcb := h.capb
  have hl := cut_len (a := f) hi
  refine ⟨fun _ => ?_, by omega, by omega⟩
  obtain ⟨g', o', e, hg, hcell⟩ := h.ptr (by omega)
  injection e with e
  injection e with e1 e2 _
  subst e1
  subst e2
  refine ⟨g, o + f, rfl, hg, fun j x hx => ?_⟩
  rw [Nat.add_assoc]
  exact hcell _ x (cut_at hx)
structure RnK (b1 b2 ob n cc : Nat) (ao : Option Addr) (L : List Nat) (W : World) : Prop where
  l : Blk W b1 #[.slice ao n cc] 29
  s : Blk W b2 #[smF ob] 118
  o : Blk W ob #[cmpF] 120
  ns : Ns W ao cc L
theorem RnK.of {b1 b2 ob n cc : Nat} {ao : Option Addr} {L : List Nat} {W W' : World} (h : RnK b1 b2 ob n cc ao L W) (hb : Below W.heap.size W W') : RnK b1 b2 ob n cc ao L W' := ⟨h.l.of hb, h.s.of hb, h.o.of hb, h.ns.of hb⟩
set_option maxRecDepth 100000 in
set_option maxHeartbeats 4000000 in
theorem Runs1_any (m lid b1 b2 ob B n cc : Nat) (ao : Option Addr) (L : List Nat) (hL : L.length = n) (hn4 : n ≤ 40000) (I : (Nat → Prop) → Nat → World → Prop) (Ix : Nat → World → Prop)
    (hm : ∀ G k W, I G k W → RnK b1 b2 ob n cc ao L W) (hst : ∀ G k W W', I G k W → BelowX B G W W' → I G k W')
    (hY : ∀ G k v W, k < (dd L).length → I G k W → rnE B L k v W → YieldAt Fence.wide m Try.prog lid #[v] W fun e W' => ((e = .returned (.bool true) ∧ ∃ G', (∀ g, G' g → G g ∨ W.heap.size ≤ g) ∧ I G' (k + 1) W') ∨ (e = .returned (.bool false) ∧ Ix (k + 1) W')) ∧ AboveX B G W W')
    (W : World) (hB : B ≤ W.heap.size) (h0 : I (fun _ => False) 0 W) :
    CallsIn Fence.wide (m + 1) Try.prog 97 #[.func (.yield lid) #[] #[], ptr b1 0, ptr b2 0] W fun e W' => (∃ v, e = .returned v) ∧ ((∃ G, I G (dd L).length W') ∨ ∃ k, k ≤ (dd L).length ∧ Ix k W') := by
  refine callsIn_of_wp Try.func97 rfl trivial ?_ rfl
  simp only [Try.ntmps97, List.size_toArray, List.length_cons, List.length_nil, Nat.reduceAdd, Nat.reduceSub, Array.replicate_succ, Array.replicate_zero, List.push_toArray, List.append_toArray, List.nil_append, List.cons_append]
  have HH := Lib.hid (And.intro hm (And.intro hst hY))
  have H0 := Lib.hid h0
  have HL := Lib.hid hL
  obtain ⟨N, hN⟩ : ∃ N, (dd L).length = N := ⟨_, rfl⟩
  have HNN := Lib.hid hN
  clear hm hst hY h0 hL hN
  gi_wp2_with fail
  gi_loopg [4, 5] (n + 1) (fun gk s4 s5 wr => ∃ f i k : Nat, s4 = .int .i64 (f : Nat) ∧ s5 = .int .i64 (i : Nat) ∧ 1 ≤ i ∧ i ≤ n + 1 ∧ n + 1 - i ≤ gk ∧ Hid ((i ≤ n → RunAt L f i k) ∧ (i = n + 1 → k = (dd L).length)) ∧ Hid (∃ G, I G k wr) ∧ B ≤ wr.heap.size)
  case atStart =>
    refine ⟨0, 1, 0, rfl, rfl, by omega, by omega, by omega, Lib.hid ⟨fun h => run_0 (by rw [HL.out]; omega), fun h => ?_⟩, Lib.hid ⟨_, H0.out⟩, hB⟩
    have : n = 0 := by omega
    rw [List.eq_nil_of_length_eq_zero (HL.out.trans this)]; rfl
  case round =>
    clear H0 hB
    obtain ⟨f, i, k, rfl, rfl, hi1, hi2, hgk, HRUN, HI, hB⟩ := hrel
    obtain ⟨G, hI⟩ := HI.out
    have HIG := Lib.hid hI
    have KK := HH.out.1 _ _ _ hI
    have HKK := Lib.hid KK
    have r1 := KK.l.cell 0
    have r2 := KK.s.cell 0
    have l1 := KK.l.lt
    have l2 := KK.s.lt
    have cc1 := KK.ns.capl
    have cc2 := KK.ns.capb
    rw [HL.out] at cc1
    simp only [List.getElem?_toArray, List.getElem?_cons_zero] at r1 r2
    clear hI KK HI
    by_cases hin : i ≤ n
    · have RUN := Lib.hid (HRUN.out.1 hin)
      obtain ⟨D_, x_, _, _, _, hxf, hfi⟩ := RUN.out
      clear hxf HRUN
      obtain ⟨g, o, hao, hg, hcell⟩ := HKK.out.ns.ptr (by rw [HL.out]; omega)
      subst hao
      by_cases hlt : i < n
      · obtain ⟨x, hx⟩ : ∃ x, L[i - 1]? = some x := ⟨_, List.getElem?_eq_getElem (show i - 1 < L.length by rw [HL.out]; omega)⟩
        obtain ⟨y, hy⟩ : ∃ y, L[i]? = some y := ⟨_, List.getElem?_eq_getElem (show i < L.length by rw [HL.out]; omega)⟩
        have q1 := hcell _ x hx
        have q2 := hcell _ y hy
        have HXY := Lib.hid (And.intro hx hy)
        obtain ⟨j, hj⟩ : ∃ j, i = j + 1 := ⟨i - 1, by omega⟩
        subst hj
        rw [show j + 1 - 1 = j by omega] at q1
        have hij : ((j + 1 : Nat) : Int) - 1 = (j : Int) := by omega
        have hgt1 : ((j + 1 : Nat) : Int) < (n : Int) := by omega
        have hgt2 : (j : Int) + 1 < (n : Int) := by omega
        clear hx hy hcell
        gi_wp2_with fail
        refine wpIn_wide.2 ?_
        refine wp_region_up wr.heap.size 15 [(true, 0), (true, 1), (false, 2), (true, 3), (true, 4), (true, 5), (true, 6), (true, 7), (true, 8), (true, 9), (true, 10), (true, 11), (true, 12), (true, 13), (true, 14)] (by kernel_rfl) (by kernel_rfl) (fun _ _ d _ _ h => by cases d <;> exact h) ?_
        have hb : Below wr.heap.size wr wr.drew := (Below.refl _ _).drew
        iterate 2
          refine wpS_takeL rfl rfl ?_
          go_big_quiet_step (rfl)
          refine wpQuiet_nil ?_
        refine wpS_doL rfl ?_
        intro K hK
        go_wp2_with ((go_at_call 89; go_loud (refine (Same_is ob (x : Nat) (y : Nat) _ (HKK.out.o.of hb)).mono ?_); rintro e w2 ⟨rfl, hn⟩))
        try replace hb := hb.trans (hn.mono hb.size)
        refine hK.out _ _ (up_iff.2 hb) ?_
        clear hK K
        try clear hn
        iterate 12
          refine wpS_takeL rfl rfl ?_
          go_big_quiet_step (rfl)
          refine wpQuiet_nil ?_
        refine wpS_nil ?_
        simp only [List.drop_succ_cons, List.drop_zero]
        go_wp2_with fail
        refine (Same_is ob (x : Nat) (y : Nat) _ (HKK.out.o.of hb)).mono ?_
        rintro e V2 ⟨rfl, hn2⟩
        have hb2 := hb.trans (hn2.mono hb.size)
        have HI2 := Lib.hid (HH.out.2.1 _ k wr V2 HIG.out (.all hb2 hB))
        have HKK2 := Lib.hid (HKK.out.of hb2)
        have hB2 : B ≤ V2.heap.size := Nat.le_trans hB hb2.size
        clear hb hn2 hb2 HIG HKK r1 r2 l1 l2 q1 q2 hg hB
        have l1 := HKK2.out.l.lt
        by_cases hxy : x = y
        · have he : ((x : Int) == (y : Int)) = true := by rw [hxy]; simp
          have HR2 : Hid ((j + 1 + 1 ≤ n → RunAt L f (j + 1 + 1) k) ∧ (j + 1 + 1 = n + 1 → k = (dd L).length)) := Lib.hid ⟨fun _ => run_same RUN.out (by omega) HXY.out.1 (by rw [hxy]; exact HXY.out.2), fun h => absurd h (by omega)⟩
          have HI3 : Hid (∃ G, I G k V2) := Lib.hid ⟨_, HI2.out⟩
          clear RUN HI2 HKK2 l1
          go_wp2_with fail
          gi_wp2_with fail
          gi_roundg (n + 1 - (j + 1 + 1))
          case measure => omega
          case rel => exact ⟨f, j + 1 + 1, k, rfl, by first | rfl | norm_cast, by omega, by omega, Nat.le_refl _, HR2, HI3, hB2⟩
        · have he : ((x : Int) == (y : Int)) = false := by simp; omega
          go_wp2_with fail
          obtain ⟨htell, hkN⟩ := run_tell RUN.out (by omega) (.inr ⟨x, y, HXY.out.1, HXY.out.2, hxy⟩)
          have NSC := (HKK2.out.ns.cut (f := f) (i := j + 1) hfi (by rw [HL.out]; omega))
          have r3 := HKK2.out.l.cell 0
          simp only [List.getElem?_toArray, List.getElem?_cons_zero] at r3
          have hccf : ¬ cc = f := by omega
          have b1f : (f : Int) ≤ ((j + 1 : Nat) : Int) := by omega
          have b2f : ((j + 1 : Nat) : Int) ≤ (cc : Int) := by omega
          have hclen : (cut L f (j + 1)).length = j + 1 - f := cut_len (by rw [HL.out]; omega)
          gi_wp2_with fail
          refine ⟨trivial, callsIn_wide.2 ?_⟩
          refine (CloneI_n _ _ (j + 1 - f) _ V2 NSC hclen (by omega)).mono ?_
          rintro e V3 ⟨v3, rfl, nl3, hb3⟩
          have hI3 := HH.out.2.1 _ k V2 V3 HI2.out (.all hb3 hB2)
          have hB3 : B ≤ V3.heap.size := Nat.le_trans hB2 hb3.size
          have hfl : (cut L f (j + 1))[0]? = (dd L)[k]? := by
            rw [htell]
            unfold cut
            rw [List.getElem?_take_of_lt (by omega), List.getElem?_drop, Nat.add_zero]
          have hE : rnE B L k v3 V3 := ⟨_, nl3.low2 hB2, hfl, hkN⟩
          obtain ⟨fn, tmps, assign, body, hy, hR⟩ := HH.out.2.2 _ k v3 _ hkN hI3 hE
          obtain ⟨va, vc, hv3, _⟩ := nl3.val
          subst hv3
          have HKN := Lib.hid hkN
          have HB3 := Lib.hid hB3
          clear htell NSC r3 nl3 hb3 hI3 hE HI2 HKK2 hfl hkN hclen hB3
          gi_wp2
          refine hR.mono ?_
          rintro e V4 ⟨(⟨rfl, G4, _, hI4⟩ | ⟨rfl, hx4⟩), hab⟩
          · have HI4 : Hid (∃ G, I G (k + 1) V4) := Lib.hid ⟨_, hI4⟩
            have hB4 : B ≤ V4.heap.size := Nat.le_trans HB3.out hab.size
            have HR4 : Hid ((j + 1 + 1 ≤ n → RunAt L (j + 1) (j + 1 + 1) (k + 1)) ∧ (j + 1 + 1 = n + 1 → k + 1 = (dd L).length)) := Lib.hid ⟨fun _ => run_new RUN.out (by omega) HXY.out.1 HXY.out.2 hxy, fun h => absurd h (by omega)⟩
            clear hI4 hab hy hR RUN HB3
            gi_wp2_with fail
            gi_roundg (n + 1 - (j + 1 + 1))
            case measure => omega
            case rel => exact ⟨j + 1, j + 1 + 1, k + 1, rfl, by first | rfl | norm_cast, by omega, by omega, Nat.le_refl _, HR4, HI4, hB4⟩
          · have HX := Lib.hid hx4
            clear hx4 hab hy hR
            gi_wp2
            refine bodyPost_ret (results_none rfl _ _ _) rfl ?_
            exact ⟨⟨_, rfl⟩, .inr ⟨k + 1, HKN.out, HX.out⟩⟩
      · have hie : i = n := by omega
        have hnl : ¬ (i : Int) < (n : Int) := by omega
        have hi4 : (i : Int) ≤ 40000 := by omega
        have HIE := Lib.hid hie
        clear hie
        clear hcell
        gi_wp2_with fail
        refine wpIn_wide.2 ?_
        refine wp_region_up wr.heap.size 15 [(true, 0), (true, 1), (false, 2), (true, 3), (true, 4), (true, 5), (true, 6), (true, 7), (true, 8), (true, 9), (true, 10), (true, 11), (true, 12), (true, 13), (true, 14)] (by kernel_rfl) (by kernel_rfl) (fun _ _ d _ _ h => by cases d <;> exact h) ?_
        have hb : Below wr.heap.size wr wr.drew := (Below.refl _ _).drew
        iterate 2
          refine wpS_takeL rfl rfl ?_
          go_big_quiet_step (rfl)
          refine wpQuiet_nil ?_
        refine wpS_doL rfl ?_
        intro K hK
        go_wp2_with (fail)
        try replace hb := hb.trans (hn.mono hb.size)
        refine hK.out _ _ (up_iff.2 hb) ?_
        clear hK K
        try clear hn
        iterate 12
          refine wpS_takeL rfl rfl ?_
          go_big_quiet_step (rfl)
          refine wpQuiet_nil ?_
        refine wpS_nil ?_
        simp only [List.drop_succ_cons, List.drop_zero]

        go_wp2_with fail
        refine nameIn ?_
        intro V2 hV2
        have hb2 : Below wr.heap.size wr V2 := by rw [hV2]; exact hb
        have HI2 := Lib.hid (HH.out.2.1 _ k wr V2 HIG.out (.all hb2 hB))
        have HKK2 := Lib.hid (HKK.out.of hb2)
        have hB2 : B ≤ V2.heap.size := Nat.le_trans hB hb2.size
        clear hb hV2 hb2 HIG HKK r1 r2 l1 l2 hg hB
        have l1 := HKK2.out.l.lt
        obtain ⟨htell, hkN⟩ := run_tell RUN.out (by omega) (.inl (by rw [HL.out]; exact HIE.out))
        have NSC := (HKK2.out.ns.cut (f := f) (i := i) hfi (by rw [HL.out]; omega))
        have r3 := HKK2.out.l.cell 0
        simp only [List.getElem?_toArray, List.getElem?_cons_zero] at r3
        have hccf : ¬ cc = f := by omega
        have b1f : (f : Int) ≤ ((i : Nat) : Int) := by omega
        have b2f : ((i : Nat) : Int) ≤ (cc : Int) := by omega
        have hclen : (cut L f (i)).length = i - f := cut_len (by rw [HL.out]; omega)
        gi_wp2_with fail
        refine ⟨trivial, callsIn_wide.2 ?_⟩
        refine (CloneI_n _ _ (i - f) _ V2 NSC hclen (by omega)).mono ?_
        rintro e V3 ⟨v3, rfl, nl3, hb3⟩
        have hI3 := HH.out.2.1 _ k V2 V3 HI2.out (.all hb3 hB2)
        have hB3 : B ≤ V3.heap.size := Nat.le_trans hB2 hb3.size
        have hfl : (cut L f (i))[0]? = (dd L)[k]? := by
          rw [htell]
          unfold cut
          rw [List.getElem?_take_of_lt (by omega), List.getElem?_drop, Nat.add_zero]
        have hE : rnE B L k v3 V3 := ⟨_, nl3.low2 hB2, hfl, hkN⟩
        obtain ⟨fn, tmps, assign, body, hy, hR⟩ := HH.out.2.2 _ k v3 _ hkN hI3 hE
        obtain ⟨va, vc, hv3, _⟩ := nl3.val
        subst hv3
        have HKN := Lib.hid hkN
        have HB3 := Lib.hid hB3
        clear htell NSC r3 nl3 hb3 hI3 hE HI2 HKK2 hfl hkN hclen hB3
        gi_wp2
        refine hR.mono ?_
        rintro e V4 ⟨(⟨rfl, G4, _, hI4⟩ | ⟨rfl, hx4⟩), hab⟩
        · have HI4 : Hid (∃ G, I G (k + 1) V4) := Lib.hid ⟨_, hI4⟩
          have hB4 : B ≤ V4.heap.size := Nat.le_trans HB3.out hab.size
          have HR4 : Hid ((i + 1 ≤ n → RunAt L (i) (i + 1) (k + 1)) ∧ (i + 1 = n + 1 → k + 1 = (dd L).length)) := Lib.hid ⟨fun h => absurd h (by omega), fun _ => run_end (by rw [HL.out, ← HIE.out]; exact RUN.out)⟩
          clear hI4 hab hy hR RUN HB3
          gi_wp2_with fail
          gi_roundg (n + 1 - (i + 1))
          case measure => omega
          case rel => exact ⟨i, i + 1, k + 1, rfl, by first | rfl | norm_cast, by omega, by omega, Nat.le_refl _, HR4, HI4, hB4⟩
        · have HX := Lib.hid hx4
          clear hx4 hab hy hR
          gi_wp2
          refine bodyPost_ret (results_none rfl _ _ _) rfl ?_
          exact ⟨⟨_, rfl⟩, .inr ⟨k + 1, HKN.out, HX.out⟩⟩
    · have hie : i = n + 1 := by omega
      have HF := Lib.hid (show ∃ G, I G (dd L).length wr by rw [← HRUN.out.2 hie]; exact ⟨G, HIG.out⟩)
      clear HIG
      gi_wp2
      go_end0
      exact ⟨⟨_, rfl⟩, .inl HF.out⟩
theorem Runs1_tells (b1 b2 ob n cc : Nat) (ao : Option Addr) (L : List Nat) (hL : L.length = n) (hn : n ≤ 40000) (B : Nat) :
    TellsV Try.prog 97 #[ptr b1 0, ptr b2 0] (dd L).length (rnE B L) B (RnK b1 b2 ob n cc ao L) :=
  fun m lid I Ix hK _ hst _ hY W hB h0 => Runs1_any m lid b1 b2 ob B n cc ao L hL hn I Ix hK hst hY W hB h0
end Go.Proofs.Ytdlpfiiakmhnlaa

namespace Go.Proofs.Ytdlpfiiakmhnlaa
open Go.RowKit Go.Shelf
section
variable {P : Program} {ops : Array Oper} {Q : Exit → Act → World → Prop} {md : Region.Mode} {m : Nat} {lid : Nat}

theorem upon_in {o : Oper} {a : Act} {next : Act → World → Prop} {r : Result Next} (h : o.upon P a next Q r) : o.uponIn (Fence.wide.inRound lid) m P a next Q r := by
  cases r with
  | ok n w' =>
    cases n <;> first
      | exact h
      | exact ⟨fun h => absurd (show false = true from h) (by decide), CallsIn.inRound lid (callsIn_wide.2 (show Calls P _ _ _ _ from h))⟩
      | exact ⟨fun h => absurd (show false = true from h) (by decide), fun c cs _ => let ⟨v, w'', r, s⟩ := (show Rows P _ _ _ _ from h) c cs; ⟨v, w'', r, stepsIn_wide.2 s⟩⟩
      | exact h.elim
  | halt x w' => cases x <;> exact h
def noDefer (ops : Array Oper) : Bool := ops.all fun o => match o.op with | .defer _ => false | _ => true
theorem noDefer_at {i : Nat} {o : Oper} (h : noDefer ops = true) (ho : ops[i]? = some o) : ∀ c, o.op ≠ .defer c := by
  intro c hc
  unfold noDefer at h
  rw [Array.all_eq_true] at h
  obtain ⟨hi, e⟩ := Array.getElem?_eq_some_iff.1 ho
  have := h i hi
  rw [e, hc] at this
  cases this
theorem wpOp_in {i : Nat} {K : Act → World → Prop} {a : Act} {w : World} (hd : noDefer ops = true) (hq : ∀ a w, ¬ Q .outgrown a w) (h : wpOp P ops Q i K a w) : wpOpIn (Fence.wide.inRound lid) m P ops Q i K a w := by
  unfold wpOp at h
  unfold wpOpIn
  cases ho : ops[i]? with
  | none => rw [ho] at h; exact h
  | some o =>
    rw [ho] at h
    simp only at h ⊢
    split
    · rename_i hw
      rw [if_pos hw] at h
      rcases h with h | ⟨_, a0, w0, hq0⟩
      · refine ⟨fun _ _ => trivial, ?_⟩
        rw [show (Fence.wide.inRound lid).round = some lid from rfl, Oper.semAt_some lid _ o (noDefer_at hd ho)]
        exact upon_in h
      · exact absurd hq0 (hq a0 w0)
    · rename_i hw
      rw [if_neg hw] at h
      exact ⟨fun _ _ => trivial, h⟩
theorem wpAny_in (hd : noDefer ops = true) (hq : ∀ a w, ¬ Q .outgrown a w) : ∀ (fuel : Nat) (listed : Array Bool) (a : Act) (w : World), wpAny P md ops Q fuel listed a w → wpAnyIn (Fence.wide.inRound lid) m P md ops Q fuel listed a w
  | 0, _, _, _, h => h
  | fuel + 1, _, _, _, h => ⟨h.1, fun i hi => wpOpIn_mono (fun a' w' h' => wpAny_in hd hq fuel _ a' w' h') (wpOp_in hd hq (h.2 i hi))⟩

theorem wpIn_region_sched {id : Nat} {a : Act} {w : World} {l : List Oper} (n : Nat) (σ : List (Bool × Nat)) (C : World → Prop) (hm : P.follows .mixedOrders = true)
    (hB : (Region.noSelect l.toArray && headB .any l.toArray n && decide (σ.length = n) && decide (n ≤ l.length) && schedB .any l.toArray n σ (Array.replicate l.length false)) = true)
    (hd : noDefer l.toArray = true) (hq : ∀ a w, ¬ Q .outgrown a w)
    (hQ : ∀ c a d v w, Q (.panic c) (Act.put a d v) w → Q (.panic c) a w) (hC : C { w with drawn := w.drawn + 1 })
    (h : wpS P l.toArray C Q (fun a' w' => wpList P l.toArray Q (l.drop n) a' w') σ a { w with drawn := w.drawn + 1 }) : (Code.region id l.toArray true).wpIn (Fence.wide.inRound lid) m P Q a w := by
  simp only [Bool.and_eq_true, decide_eq_true_eq] at hB
  obtain ⟨⟨⟨⟨hsel, hh⟩, hlen⟩, hn⟩, hs⟩ := hB
  have hdl : (l.drop n).length = l.toArray.size - n := by simp
  have hrep : (Array.replicate l.length false) = Array.replicate l.toArray.size false := by simp
  rw [hrep] at hs
  have inv0 : HeadInv .any l.toArray n (Array.replicate l.toArray.size false) :=
    ⟨by simp, fun j oj _ hl => (by rw [getD_replicate_false] at hl; cases hl), fun t _ ht => getD_in (by simpa using ht) (getD_replicate_false _ _)⟩
  have H := wpAnyHL_of_sched (P := P) (C := C) hsel hh hQ σ _ a _ inv0 hs hC h
  refine wpIn_region_any hm (wpAny_in hd hq _ _ _ _ ?_)
  have := wpAny_of_headH (g := l.toArray.size - n) (fun listed a' w' hL => by
    have := wpAny_of_seq (md := .any) (Q' := Q) (l.drop n) n listed a' w' (fun j => by simp [List.getElem?_drop]) (by rw [hdl]; exact hL.1) hL.2
    rwa [hdl] at this) _ _ _ _ H
  have e : σ.length + (l.toArray.size - n) = l.toArray.size := by simp; omega
  rw [e] at this
  exact this
theorem wpIn_region_up {id : Nat} {a : Act} {w : World} {l : List Oper} (B n : Nat) (σ : List (Bool × Nat)) (hm : P.follows .mixedOrders = true)
    (hB : (Region.noSelect l.toArray && headB .any l.toArray n && decide (σ.length = n) && decide (n ≤ l.length) && schedB .any l.toArray n σ (Array.replicate l.length false)) = true)
    (hd : noDefer l.toArray = true) (hq : ∀ a w, ¬ Q .outgrown a w)
    (hQ : ∀ c a d v w, Q (.panic c) (Act.put a d v) w → Q (.panic c) a w)
    (h : wpS P l.toArray (fun w' => ∃ u : UpTo B w, w' = u.w) Q (fun a' w' => wpList P l.toArray Q (l.drop n) a' w') σ a w.drew) : (Code.region id l.toArray true).wpIn (Fence.wide.inRound lid) m P Q a w :=
  wpIn_region_sched n σ _ hm hB hd hq hQ (up_iff.2 (Below.refl B w).drew) h
end
end Go.Proofs.Ytdlpfiiakmhnlaa

namespace Go.Proofs.Ytdlpfiiakmhnlaa
open Go.RowKit Go.Shelf
attribute [local go_sem] Oper.semAt_some undef

theorem drewB {w : World} {b : Nat} {c : Array Value} {t : TypeId} (h : Blk w b c t) : Blk w.drew b c t := h
theorem Sort_n (ao : Option Addr) (cap n : Nat) (L : List Nat) (w : World) (h : Ns w ao cap L) (hl : L.length = n) (hn : n ≤ 40000) :
    Calls Try.prog 88 #[.slice ao n cap, cmpF] w fun e w' => ∃ v R, e = .returned v ∧ NL w' w.heap.size v R ∧ Asc R ∧ (∀ z, z ∈ R ↔ z ∈ L) ∧ R.length = n ∧ Below w.heap.size w w' := by
  subst hl
  exact Sort_is ao cap L w h hn
set_option maxRecDepth 100000 in
set_option maxHeartbeats 4000000 in
theorem Once_is (ao : Option Addr) (cap n : Nat) (L : List Nat) (w : World) (h : Ns w ao cap L) (hl : L.length = n) (hn4 : n ≤ 40000) :
    Calls Try.prog 65 #[.slice ao n cap, cmpF] w fun e w' => ∃ v R, e = .returned v ∧ NL w' w.heap.size v R ∧ R.Pairwise (· < ·) ∧ (∀ z, z ∈ R ↔ z ∈ L) ∧ Below w.heap.size w w' := by
  have HP := Lib.hid h
  have HLN := Lib.hid hl
  obtain ⟨i0, hi, hz0, hz1, hz2⟩ := info_parts info_int
  clear h hl
  refine (callsIn_wide (n := 3)).1 ?_
  refine callsIn_of_wp_marks Try.func65 rfl trivial ?_ rfl
  simp only [Try.ntmps65, List.size_toArray, List.length_cons, List.length_nil, Nat.reduceAdd, Nat.reduceSub, Array.replicate_succ, Array.replicate_zero, List.push_toArray, List.append_toArray, List.nil_append, List.cons_append]
  gi_wp2_with fail
  refine ⟨trivial, callsIn_wide.2 ?_⟩
  refine calls_w ?_
  intro V hV
  have kB : Hid (Blk V w.heap.size #[cmpF] 120) := by rw [hV]; exact Lib.hid ((Blk.new w _ _).alloc _)
  have kO : Hid (Blk V (w.heap.size + 1) #[.slice none 0 0] 29) := by rw [hV]; exact Lib.hid (Blk.new1 w _ _ _)
  have bV : Hid (Below w.heap.size w V) := by rw [hV]; exact Lib.hid (below_a2 _ _ _)
  have hsV : V.heap.size = w.heap.size + 2 := by rw [hV]; simp
  obtain ⟨ob, eob⟩ : ∃ b, w.heap.size = b := ⟨_, rfl⟩
  obtain ⟨out, eout⟩ : ∃ b, w.heap.size + 1 = b := ⟨_, rfl⟩
  rw [eout] at kO ⊢
  rw [eob] at kB ⊢
  have o1 : ob < out := by omega
  have o2 : w.heap.size ≤ ob := by omega
  have o3 : out < V.heap.size := by omega
  clear hV eob eout
  refine (Sort_n ao cap n L V (HP.out.of bV.out) HLN.out hn4).mono ?_
  rintro e V2 ⟨v, S, rfl, nl, asc, mem, len, hb⟩
  obtain ⟨so, sc, e, hsc1, hsc2, _⟩ := nl.val
  rw [len] at e hsc1
  subst e
  have NS := Lib.hid nl
  have ASC := Lib.hid asc
  have MEM := Lib.hid mem
  have LEN := Lib.hid len
  have kB2 := Lib.hid (kB.out.of hb)
  have kO2 := Lib.hid (kO.out.of hb)
  have b2 := Lib.hid (bV.out.trans (hb.mono bV.out.size))
  have hs2 := hb.size
  clear nl asc mem len hb kB kO bV
  gi_wp2_with fail
  refine ⟨trivial, callsIn_wide.2 ?_⟩
  refine (Runs_is so n sc ob V2).mono ?_
  rintro e V3 ⟨rfl, k1, k2, hb⟩
  have K1 := Lib.hid k1
  have K2 := Lib.hid k2
  have kB3 := Lib.hid (kB2.out.of hb)
  have kO3 := Lib.hid (kO2.out.of hb)
  have NS3 := Lib.hid (NS.out.of hb)
  have b3 := Lib.hid (b2.out.trans (hb.mono b2.out.size))
  have hs3 := k2.lt
  obtain ⟨rb, erb⟩ : ∃ b, V2.heap.size = b := ⟨_, rfl⟩
  obtain ⟨rs, ers⟩ : ∃ b, V2.heap.size + 1 = b := ⟨_, rfl⟩
  rw [ers] at K2 ⊢
  rw [erb] at K1 ⊢
  have o4 : out < rb := by omega
  have o5 : rb < rs := by omega
  have o6 : rs < V3.heap.size := by omega
  clear hb k1 k2 kB2 kO2 b2 erb ers hs3 NS
  gi_wp2_with fail
  obtain ⟨N, hN⟩ : ∃ N, (dd S).length = N := ⟨_, rfl⟩
  have HNN := Lib.hid hN
  have hN4 : N ≤ 40000 := by have := dd_len S; rw [hN, LEN.out] at this; omega
  have hT := Runs1_tells rb rs ob n sc so S LEN.out hn4 (V3.heap.size + 2)
  rw [hN] at hT
  clear hN
  have stF : ∀ W W', Fr V3 W (fun b => b = out) → Below V3.heap.size W W' → Blk W out #[.slice none 0 0] 29 → True := fun _ _ _ _ _ => trivial
  refine wpIn_rangeV (m := 1) (gf := 97) (lb := #[ptr rb 0, ptr rs 0]) (N := N) (E := rnE (V3.heap.size + 2) S) (Kp := RnK rb rs ob n sc so S) rfl (fun args w => by go_simp) hT rfl
    (fun G k W => ∃ v, Blk W out #[v] 29 ∧ NL W (V3.heap.size + 2) v ((dd S).take k) ∧ Fr V3 W (fun b => b = out) ∧ ∀ g, G g ↔ v.ownBlock = some g)
    (fun _ _ _ => False) ?hg ?stable (fun _ _ _ _ h _ => h.elim) ?keeps ?start ?round ?done (fun _ _ _ _ _ h _ => h.elim)
  case hg =>
    rintro G k W ⟨v, j1, j2, j3, j4⟩ g hg
    exact j2.own ((j4 g).1 hg)
  case stable =>
    rintro G k W W' ⟨v, j1, j2, j3, j4⟩ ⟨hbl, hbg⟩
    exact ⟨v, j1.below hbl (by omega), j2.keep fun g hg => hbg g ((j4 g).2 hg) (j2.own hg).2, j3.trans (S' := fun b => V3.heap.size ≤ b) ⟨hbl.os, hbl.tape, hbl.output, hbl.size, fun k _ hk => hbl.block k (by omega)⟩ (fun _ h => .inr h), j4⟩
  case keeps =>
    rintro G k W ⟨v, j1, j2, j3, j4⟩
    refine ⟨j3.blk K1.out (by omega), j3.blk K2.out (by omega), j3.blk kB3.out (by omega), ?_⟩
    have hk := NS3.out.keep fun g hg => j3.block g (NS3.out.own hg).2 (by have := (NS3.out.own hg).1; omega)
    obtain ⟨ao', c', e, hns⟩ := Ns.ofNL hk
    injection e with e1 e2 e3
    rw [e1, e3]; exact hns
  case start => exact ⟨_, kO3.out, NL.none, ⟨rfl, rfl, rfl, Nat.le_refl _, fun _ _ _ => rfl⟩, fun g => ⟨fun h => h.elim, fun h => by cases h⟩⟩
  case round =>
    rintro l2 D2 k ve G W2 hk ⟨v, j1, j2, j3, j4⟩ hE g1 g2 g3 g4
    obtain ⟨M, hnm, hm0, hkN⟩ := hE
    obtain ⟨x, hx⟩ : ∃ x, (dd S)[k]? = some x := ⟨_, List.getElem?_eq_getElem hkN⟩
    rw [hx] at hm0
    have hM0 : 0 < M.length := (List.getElem?_eq_some_iff.1 hm0).1
    obtain ⟨mo, mc, e, hmc1, hmc2, hmp⟩ := hnm.val
    obtain ⟨mg, rfl, hmB, hmg, hmcell⟩ := hmp hM0
    subst e
    have q0 := hmcell 0 x hm0
    obtain ⟨ml, hml⟩ : ∃ l, M.length = l := ⟨_, rfl⟩
    rw [hml] at hM0 hmc1 ⊢
    have JJ := Lib.hid (And.intro j1 (And.intro j2 (And.intro j3 j4)))
    have HX := Lib.hid hx
    have Q0 := Lib.hid q0
    clear j1 j2 j3 j4 hx hnm hm0 hkN hmp hmcell q0 hml hT
    gi_wp2_with fail
    refine ⟨⟨Fix2.of (OutL.refl [] _) g3 g4 (by simp) (by simp), AboveX.refl _ _ _⟩, ?_⟩
    intro W3 hW3
    obtain ⟨j1, j2, j3, j4⟩ := JJ.out
    have hs3w := hW3.size
    have kOw : Blk W3 out #[v] 29 := j1.outl hW3 (by simp; omega)
    have nlw : NL W3 (V3.heap.size + 2) v ((dd S).take k) := j2.keep fun g hg => hW3.block g (j2.own hg).2 (by have := (j2.own hg).1; simp; omega)
    have q0 : W3.cell? ⟨mg, 0, none⟩ = some (.int .i64 (x : Nat)) := (World.cell?_of_block (w := W2) (a := ⟨mg, 0, none⟩) (hW3.block mg hmg (by simp; omega))).trans Q0.out
    have hmw : mg < W3.heap.size := by omega
    have FF := Lib.hid (j3.trans (S' := fun b => V3.heap.size ≤ b) ⟨hW3.os, hW3.tape, hW3.output, hW3.size, fun g hg hn => hW3.block g hg (by simp; omega)⟩ (fun _ h => .inr h))
    have KOW := Lib.hid kOw
    have NLW := Lib.hid nlw
    have J4 := Lib.hid j4
    have x0 := kOw.cell 0
    have f0 := kOw.free 0
    have l0 := kOw.lt
    simp only [List.getElem?_toArray, List.getElem?_cons_zero] at x0
    have hlk : ((dd S).take k).length = k := by rw [List.length_take, HNN.out]; omega
    have hszb : V3.heap.size + 2 ≤ W3.heap.size := by omega
    obtain ⟨vo, vc, hv, _⟩ := nlw.val
    rw [hlk] at hv
    subst hv
    clear j1 j2 j3 j4 kOw nlw JJ Q0
    gi_wp2_with fail
    refine wpIn_region_up W3.heap.size 5 [(true, 0), (true, 1), (true, 2), (true, 3), (false, 4)] (by kernel_rfl) (by kernel_rfl) (by kernel_rfl) (fun _ _ h => h) (fun _ _ d _ _ h => by cases d <;> exact h) ?_
    have hb : Below W3.heap.size W3 W3.drew := (Below.refl _ _).drew
    iterate 4
      refine wpS_takeL rfl rfl ?_
      go_big_quiet_step (rfl)
      refine wpQuiet_nil ?_
    refine wpS_doL rfl ?_
    intro K hK
    go_wp2_with (fail)
    replace hb : Below W3.heap.size W3 (W3.alloc (.cells #[.int .i64 (x : Nat)] 3)).drew := (below_a1 W3 _).drew ; have hn : Below (W3.alloc (.cells #[.int .i64 (x : Nat)] 3)).drew.heap.size (W3.alloc (.cells #[.int .i64 (x : Nat)] 3)).drew (W3.alloc (.cells #[.int .i64 (x : Nat)] 3)).drew := Below.refl _ _
    replace hb := hb.trans (hn.mono hb.size)
    refine hK.out _ _ (up_iff.2 hb) ?_
    clear hK K
    clear hn
    refine wpS_nil ?_
    simp only [List.drop_succ_cons, List.drop_zero]
    obtain ⟨Wb, hWb⟩ : ∃ W, (W3.alloc (.cells #[.int .i64 (x : Nat)] 3)).drew = W := ⟨_, rfl⟩
    have kx : Blk Wb W3.heap.size #[.int .i64 (x : Nat)] 3 := by rw [← hWb]; exact drewB (Blk.new W3 _ _)
    rw [hWb] at hb ⊢
    have hsb : Wb.heap.size = W3.heap.size + 1 := by rw [← hWb]; simp
    have HB := Lib.hid hb
    have nlb := NLW.out.of hb
    have hown : Wb.ownsRow (V3.heap.size + 2) 3 1 (.slice vo k vc) k (nI ((dd S).take k)) := by
      have h1 : Wb.ownsRow (V3.heap.size + 2) 3 1 (.slice vo k vc) ((dd S).take k).length (nI ((dd S).take k)) := nlb
      rw [hlk] at h1; exact h1
    clear hWb hb nlb
    refine wpList_append_own_at _ rfl _ _ 29 rfl (V3.heap.size + 2) 3 i0 (.int .i64 0) 1 8 Try.underlying29 hi hz0 hz1 hz2 rfl (by decide) (.slice vo k vc) k (nI ((dd S).take k)) rfl hown ⟨W3.heap.size, 0, none⟩ 1 1 [.int .i64 (x : Nat)] rfl rfl (int_src kx) (int_one _) (by unfold maxLen; omega) (by omega) (by omega) ?_
    intro v1 w1 own1 gr1 _ hat
    obtain ⟨aa, ll, cc, hv1⟩ : ∃ aa ll cc, v1 = .slice aa ll cc := by rcases own1.2 with ⟨e, _⟩ | ⟨g, cap, cur, e, _⟩ <;> exact ⟨_, _, _, e⟩
    subst hv1
    have hown2 : ∀ g, (Value.slice vo k vc).ownBlock = some g → V3.heap.size + 2 ≤ g := fun g hg => (World.ownsRow.lt hown g hg).1
    have hW1 : ∀ g, g < W3.heap.size → (Value.slice vo k vc).ownBlock ≠ some g → w1.heap[g]? = W3.heap[g]? := fun g h1 h2 => (gr1.block g (by omega) (fun e => h2 e.symm)).trans (HB.out.block g h1)
    have hWf : ∀ g, g ≠ out → (w1.setCell ⟨out, 0, none⟩ (.slice aa ll cc)).heap[g]? = w1.heap[g]? := fun g h => Below.heap_setCell w1 ⟨out, 0, none⟩ (.slice aa ll cc) g h
    have hss : W3.heap.size ≤ w1.heap.size := by have := gr1.size; omega
    have hsf : (w1.setCell ⟨out, 0, none⟩ (.slice aa ll cc)).heap.size = w1.heap.size := by simp [World.setCell]
    have nO : ∀ g, g < V3.heap.size + 2 → (Value.slice vo k vc).ownBlock ≠ some g := fun g h e => by have := hown2 g e; omega
    have KO1 : Blk w1 out #[.slice vo k vc] 29 := (hW1 out l0 (nO _ (by omega))).trans KOW.out
    have x1 := KO1.cell 0
    have f1 := KO1.free 0
    have l1 := KO1.lt
    simp only [List.getElem?_toArray, List.getElem?_cons_zero] at x1
    have GG : Hid ((Fix2 l2 D2 W3 (w1.setCell ⟨out, 0, none⟩ (.slice aa ll cc)) ∧ ∃ G' : Nat → Prop, (∀ g, G' g → G g ∨ W3.heap.size ≤ g) ∧ ∃ v, Blk (w1.setCell ⟨out, 0, none⟩ (.slice aa ll cc)) out #[v] 29 ∧ NL (w1.setCell ⟨out, 0, none⟩ (.slice aa ll cc)) (V3.heap.size + 2) v ((dd S).take (k + 1)) ∧ Fr V3 (w1.setCell ⟨out, 0, none⟩ (.slice aa ll cc)) (fun b => b = out) ∧ ∀ g, G' g ↔ v.ownBlock = some g) ∧ AboveX (V3.heap.size + 2) G W3 (w1.setCell ⟨out, 0, none⟩ (.slice aa ll cc))) := by
      have fx : ∀ g, g < W3.heap.size → (Value.slice vo k vc).ownBlock ≠ some g → g ≠ out → (w1.setCell ⟨out, 0, none⟩ (.slice aa ll cc)).heap[g]? = W3.heap[g]? := fun g h1 h2 h3 => (hWf g h3).trans (hW1 g h1 h2)
      refine Lib.hid ⟨⟨⟨fx l2 (by omega) (nO _ (by omega)) (by omega), fx D2 (by omega) (nO _ (by omega)) (by omega)⟩, fun g => (Value.slice aa ll cc).ownBlock = some g, fun g hg => ?_, .slice aa ll cc, KO1.put 0 (.slice aa ll cc), ?_, ?_, fun g => Iff.rfl⟩, ?_⟩
      · rcases hat with e | e
        · exact .inl ((J4.out g).2 (by rw [← e]; exact hg))
        · rw [e] at hg; injection hg with hg; exact .inr (by omega)
      · have h1 : NL w1 (V3.heap.size + 2) (.slice aa ll cc) ((dd S).take (k + 1)) := by
          have e : (dd S).take (k + 1) = (dd S).take k ++ [x] := by rw [List.take_add_one, HX.out]; rfl
          unfold NL
          rw [e, List.length_append, List.map_append, hlk]; exact own1
        exact h1.keep fun g hg => hWf g (by have := (h1.own hg).1; omega)
      · exact FF.out.trans (S' := fun b => b = out ∨ V3.heap.size ≤ b) ⟨gr1.os.trans HB.out.os, gr1.tape.trans HB.out.tape, gr1.output.trans HB.out.output, by omega, fun g hg hn => fx g hg (fun e => hn (.inr (by have := hown2 g e; omega))) (fun e => hn (.inl e))⟩ (fun _ h => h)
      · exact ⟨by omega, fun g h1 h2 h3 => fx g h2 (fun e => h3 ((J4.out g).2 e)) (by omega)⟩
    clear own1 gr1 hat hown hW1 hWf KO1 x0 f0 q0
    go_wp2
    exact GG.out
  case done =>
    rintro Dd G V5 g1 ⟨v, j1, j2, j3, j4⟩ hD
    have c0 := j1.cell 0
    simp only [List.getElem?_toArray, List.getElem?_cons_zero] at c0
    rw [← HNN.out, List.take_length] at j2
    have l0 := j1.lt
    have JJ := Lib.hid (And.intro j2 (b3.out.trans (j3.below (B := w.heap.size) b3.out.size (fun k h => by omega))))
    have hsz5 := j3.size
    clear j1 j2 j3 j4
    gi_wp2
    refine ⟨by simp, .inl ⟨_, _, rfl, run_takeDeferred hD, ?_⟩⟩
    simp only [LeavesInM, LeavesIn]
    refine ⟨v, by simp [results, Try.results65, go_sem], v, dd S, rfl, ?_, dd_up S ASC.out, fun z => (dd_mem S z).trans (MEM.out z), ?_⟩
    · exact (JJ.out.1.keep fun g hg => World.putObj_heap_other (by have := (JJ.out.1.own hg).1; omega)).low2 (by omega)
    · exact JJ.out.2.trans ((putObj_out V5 Dd _).below (by omega) (by simp; omega))
end Go.Proofs.Ytdlpfiiakmhnlaa

namespace Go.Proofs.Ytdlpfiiakmhnlaa
open Go.RowKit

theorem look_mem {L : List (Nat × Nat)} (hs : SortH L) {b c : Nat} : (b, c) ∈ L ↔ lookH L b = some c := by
  constructor
  · intro h
    obtain ⟨i, hi⟩ := List.mem_iff_getElem?.1 h
    exact lookH_some hs hi rfl
  · intro h
    unfold lookH at h
    rw [Option.map_eq_some_iff] at h
    obtain ⟨x, hx, e⟩ := h
    have h1 := List.find?_some hx
    have h2 := List.mem_of_find?_eq_some hx
    simp at h1
    obtain ⟨x1, x2⟩ := x
    simp at h1 e
    obtain rfl : x1 = b := by omega
    rw [← e]; exact h2
/-- a side's triangle has its other sides too -/
structure Cyc (O : Nat → List (Nat × Nat)) : Prop where
  srt : ∀ a, SortH (O a)
  rot : ∀ a b c : Nat, lookH (O a) b = some c → lookH (O b) c = some a
  ne : ∀ a b c : Nat, lookH (O a) b = some c → a ≠ b
theorem Cyc.nil : Cyc (fun _ => []) := ⟨fun _ j k x y _ h => by simp at h, fun _ _ _ h => (by cases h), fun _ _ _ h => (by cases h)⟩
theorem look_put1 {O : Nat → List (Nat × Nat)} (hs : ∀ a, SortH (O a)) {a b c : Nat} (hn : lookH (O a) b = none) (x y : Nat) : lookH (put1 O a b c x) y = if x = a ∧ y = b then some c else lookH (O x) y := by
  unfold put1
  by_cases e : x = a
  · subst e
    rw [if_pos rfl, lookH_ins (hs x) hn]
    by_cases e2 : y = b
    · rw [if_pos e2, if_pos ⟨rfl, e2⟩]
    · rw [if_neg e2, if_neg (fun h => e2 h.2)]
  · rw [if_neg e, if_neg (fun h => e h.1)]
theorem sort_put1 {O : Nat → List (Nat × Nat)} (hs : ∀ a, SortH (O a)) {a b c : Nat} (hn : lookH (O a) b = none) : ∀ x, SortH (put1 O a b c x) := by
  intro x
  unfold put1
  split
  · exact insH_sort (hs a) (lookH_absent hn)
  · exact hs x
/-- three sides that are not there -/
def NewT (O : Nat → List (Nat × Nat)) (a b c : Nat) : Prop := a ≠ b ∧ b ≠ c ∧ a ≠ c ∧ lookH (O a) b = none ∧ lookH (O b) c = none ∧ lookH (O c) a = none
theorem look_putT {O : Nat → List (Nat × Nat)} (hs : ∀ a, SortH (O a)) {a b c : Nat} (h : NewT O a b c) (x y : Nat) :
    lookH (putT O a b c x) y = if x = a ∧ y = b then some c else if x = b ∧ y = c then some a else if x = c ∧ y = a then some b else lookH (O x) y := by
  obtain ⟨n1, n2, n3, h1, h2, h3⟩ := h
  have s1 := sort_put1 (c := c) hs h1
  have e2 : lookH (put1 O a b c b) c = none := by rw [look_put1 hs h1, if_neg (by omega)]; exact h2
  have s2 := sort_put1 (c := a) s1 e2
  have e3 : lookH (put1 (put1 O a b c) b c a c) a = none := by rw [look_put1 s1 e2, if_neg (by omega), look_put1 hs h1, if_neg (by omega)]; exact h3
  unfold putT
  rw [look_put1 s2 e3, look_put1 s1 e2, look_put1 hs h1]
  by_cases c1 : x = a ∧ y = b
  · rw [if_pos c1, if_pos c1, if_neg (by omega), if_neg (by omega)]
  · rw [if_neg c1, if_neg c1]
    by_cases c2 : x = b ∧ y = c
    · rw [if_pos c2, if_pos c2, if_neg (by omega)]
    · rw [if_neg c2, if_neg c2]
theorem sort_putT {O : Nat → List (Nat × Nat)} (hs : ∀ a, SortH (O a)) {a b c : Nat} (h : NewT O a b c) : ∀ x, SortH (putT O a b c x) := by
  obtain ⟨n1, n2, n3, h1, h2, h3⟩ := h
  have s1 := sort_put1 (c := c) hs h1
  have e2 : lookH (put1 O a b c b) c = none := by rw [look_put1 hs h1, if_neg (by omega)]; exact h2
  have s2 := sort_put1 (c := a) s1 e2
  have e3 : lookH (put1 (put1 O a b c) b c a c) a = none := by rw [look_put1 s1 e2, if_neg (by omega), look_put1 hs h1, if_neg (by omega)]; exact h3
  exact sort_put1 s2 e3
theorem Cyc.put {O : Nat → List (Nat × Nat)} (hO : Cyc O) {a b c : Nat} (h : NewT O a b c) : Cyc (putT O a b c) := by
  have L := look_putT hO.srt h
  obtain ⟨n1, n2, n3, h1, h2, h3⟩ := h
  have key : ∀ x y z : Nat, lookH (putT O a b c x) y = some z → (x = a ∧ y = b ∧ z = c) ∨ (x = b ∧ y = c ∧ z = a) ∨ (x = c ∧ y = a ∧ z = b) ∨ lookH (O x) y = some z := by
    intro x y z hz
    rw [L] at hz
    split at hz
    · rename_i e; injection hz with hz; exact .inl ⟨e.1, e.2, hz.symm⟩
    · split at hz
      · rename_i e; injection hz with hz; exact .inr (.inl ⟨e.1, e.2, hz.symm⟩)
      · split at hz
        · rename_i e; injection hz with hz; exact .inr (.inr (.inl ⟨e.1, e.2, hz.symm⟩))
        · exact .inr (.inr (.inr hz))
  refine ⟨sort_putT hO.srt ⟨n1, n2, n3, h1, h2, h3⟩, fun x y z hz => ?_, fun x y z hz => ?_⟩
  · rw [L]
    rcases key x y z hz with ⟨rfl, rfl, rfl⟩ | ⟨rfl, rfl, rfl⟩ | ⟨rfl, rfl, rfl⟩ | hz
    · rw [if_neg (by omega), if_pos ⟨rfl, rfl⟩]
    · rw [if_neg (by omega), if_neg (by omega), if_pos ⟨rfl, rfl⟩]
    · rw [if_pos ⟨rfl, rfl⟩]
    · have r := hO.rot x y z hz
      rw [if_neg, if_neg, if_neg]
      · exact r
      · rintro ⟨rfl, rfl⟩; rw [h3] at r; cases r
      · rintro ⟨rfl, rfl⟩; rw [h2] at r; cases r
      · rintro ⟨rfl, rfl⟩; rw [h1] at r; cases r
  · rcases key x y z hz with ⟨rfl, rfl, rfl⟩ | ⟨rfl, rfl, rfl⟩ | ⟨rfl, rfl, rfl⟩ | hz
    · exact n1
    · exact n2
    · exact n3.symm
    · exact hO.ne x y z hz
theorem Cyc.all {N : Nat} : ∀ (l : List Tri3) {O : Nat → List (Nat × Nat)}, Cyc O → PutOk N O l → Cyc (putAll O l) := by
  intro l
  induction l with
  | nil => intro O h _; exact h
  | cons t l ih =>
    intro O h hp
    obtain ⟨⟨_, _, _, n1, n2, n3, h1, h2, h3⟩, hp⟩ := hp
    exact ih (h.put ⟨n1, n2, n3, h1, h2, h3⟩) hp
theorem mem_told {a : Nat} {L : List (Nat × Nat)} {t : Tri3} : t ∈ told a L ↔ t.1 = a ∧ (t.2.1, t.2.2) ∈ L ∧ a < t.2.1 ∧ a < t.2.2 := by
  unfold told
  rw [List.mem_map]
  constructor
  · rintro ⟨x, hx, rfl⟩
    rw [List.mem_filter] at hx
    obtain ⟨h1, h2⟩ := hx
    simp at h2
    exact ⟨rfl, h1, h2.1, h2.2⟩
  · rintro ⟨rfl, h1, h2, h3⟩
    exact ⟨(t.2.1, t.2.2), List.mem_filter.2 ⟨h1, by simp [h2, h3]⟩, rfl⟩
theorem mem_preO {O : Nat → List (Nat × Nat)} {t : Tri3} : ∀ {N : Nat}, t ∈ preO O N ↔ t.1 < N ∧ (t.2.1, t.2.2) ∈ O t.1 ∧ t.1 < t.2.1 ∧ t.1 < t.2.2
  | 0 => by constructor
            · intro h; cases h
            · intro h; omega
  | N + 1 => by
    show t ∈ preO O N ++ told N (O N) ↔ _
    rw [List.mem_append, mem_preO, mem_told]
    constructor
    · rintro (⟨h1, h2⟩ | ⟨h1, h2, h3, h4⟩)
      · exact ⟨by omega, h2⟩
      · exact ⟨by omega, by rw [h1]; exact h2, by omega, by omega⟩
    · rintro ⟨h1, h2, h3, h4⟩
      rcases Nat.lt_or_ge t.1 N with h | h
      · exact .inl ⟨h, h2, h3, h4⟩
      · have e : t.1 = N := by omega
        exact .inr ⟨e, by rw [← e]; exact h2, by omega, by omega⟩
theorem told_ins {a b c : Nat} : ∀ (L : List (Nat × Nat)), (told a (insH b c L)).length = (told a L).length + if a < b ∧ a < c then 1 else 0 := by
  have h1 : ∀ (x : Nat × Nat) L, (told a (x :: L)).length = (told a L).length + if a < x.1 ∧ a < x.2 then 1 else 0 := by
    intro x L
    unfold told
    rw [List.filter_cons]
    by_cases e : a < x.1 ∧ a < x.2
    · rw [if_pos e, if_pos (by simpa using e)]; simp
    · rw [if_neg e, if_neg (by simpa using e)]; rfl
  intro L
  induction L with
  | nil => show (told a [(b, c)]).length = _; rw [h1]
  | cons x l ih =>
    show (told a (if x.1 < b then x :: insH b c l else (b, c) :: x :: l)).length = _
    split
    · rw [h1, h1, ih]; omega
    · rw [h1]
theorem pre_put1 {O : Nat → List (Nat × Nat)} {a b c : Nat} : ∀ N, (preO (put1 O a b c) N).length = (preO O N).length + if a < N ∧ a < b ∧ a < c then 1 else 0
  | 0 => by rw [if_neg (by omega)]; rfl
  | N + 1 => by
    show (preO (put1 O a b c) N ++ told N (put1 O a b c N)).length = (preO O N ++ told N (O N)).length + _
    rw [List.length_append, List.length_append, pre_put1 N]
    unfold put1
    by_cases e : N = a
    · subst e
      rw [if_pos rfl, told_ins, if_neg (by omega)]
      by_cases h : N < b ∧ N < c
      · rw [if_pos h, if_pos (by omega)]; omega
      · rw [if_neg h, if_neg (by omega)]; omega
    · rw [if_neg e]
      by_cases h : a < N ∧ a < b ∧ a < c
      · rw [if_pos h, if_pos (by omega)]; omega
      · rw [if_neg h, if_neg (by omega)]; omega
theorem pre_putT {O : Nat → List (Nat × Nat)} {a b c N : Nat} (ha : a < N) (hb : b < N) (hc : c < N) (n1 : a ≠ b) (n2 : b ≠ c) (n3 : a ≠ c) : (preO (putT O a b c) N).length = (preO O N).length + 1 := by
  unfold putT
  rw [pre_put1, pre_put1, pre_put1]
  rcases (show (a < b ∧ a < c) ∨ (b < a ∧ b < c) ∨ (c < a ∧ c < b) by omega) with h | h | h
  · rw [if_pos (by omega), if_neg (by omega), if_neg (by omega)]
  · rw [if_neg (by omega), if_pos (by omega), if_neg (by omega)]
  · rw [if_neg (by omega), if_neg (by omega), if_pos (by omega)]
theorem pre_all {N : Nat} : ∀ (l : List Tri3) {O : Nat → List (Nat × Nat)}, PutOk N O l → (preO (putAll O l) N).length = (preO O N).length + l.length := by
  intro l
  induction l with
  | nil => intro O _; rfl
  | cons t l ih =>
    intro O hp
    obtain ⟨⟨a1, a2, a3, n1, n2, n3, h1, h2, h3⟩, hp⟩ := hp
    show (preO (putAll (putT O t.1 t.2.1 t.2.2) l) N).length = _
    rw [ih hp, pre_putT a1 a2 a3 n1 n2 n3, List.length_cons]; omega
theorem pre_nil : ∀ N, preO (fun _ => []) N = []
  | 0 => rfl
  | N + 1 => by show preO _ N ++ told N [] = []; rw [pre_nil N]; rfl
/-- its rows hold vertices alone -/
def DomO (N : Nat) (O : Nat → List (Nat × Nat)) : Prop := ∀ a b c : Nat, lookH (O a) b = some c → a < N ∧ b < N ∧ c < N
theorem leftO_of {N : Nat} {O : Nat → List (Nat × Nat)} {a b : Nat} (h : a < N) : leftO N O a b = lookH (O a) b := by unfold leftO; rw [if_pos (by omega)]; rfl
theorem dom_putT {N : Nat} {O : Nat → List (Nat × Nat)} (hs : ∀ a, SortH (O a)) {a b c : Nat} (h : NewT O a b c) (hd : DomO N O) (hn : a < N ∧ b < N ∧ c < N) : DomO N (putT O a b c) := by
  intro x y z hz
  rw [look_putT hs h] at hz
  split at hz
  · rename_i e; injection hz with hz; omega
  · split at hz
    · rename_i e; injection hz with hz; omega
    · split at hz
      · rename_i e; injection hz with hz; omega
      · exact hd x y z hz
theorem dom_all {N : Nat} : ∀ (l : List Tri3) {O : Nat → List (Nat × Nat)}, Cyc O → DomO N O → PutOk N O l → DomO N (putAll O l) := by
  intro l
  induction l with
  | nil => intro O _ h _; exact h
  | cons t l ih =>
    intro O hO h hp
    obtain ⟨⟨a1, a2, a3, n1, n2, n3, h1, h2, h3⟩, hp⟩ := hp
    exact ih (hO.put ⟨n1, n2, n3, h1, h2, h3⟩) (dom_putT hO.srt ⟨n1, n2, n3, h1, h2, h3⟩ h ⟨a1, a2, a3⟩) hp
end Go.Proofs.Ytdlpfiiakmhnlaa

namespace Go.Proofs.Ytdlpfiiakmhnlaa
open Go.RowKit

/-- the ends that stand in a row -/
def ends (L : List (Nat × Nat)) : List Nat := L.flatMap fun x => [x.1, x.2]
theorem ends_len : ∀ (L : List (Nat × Nat)), (ends L).length = 2 * L.length
  | [] => rfl
  | x :: l => by
    show (ends l).length + 2 = _
    rw [ends_len l, List.length_cons]; omega
theorem ends_app (l m : List (Nat × Nat)) : ends (l ++ m) = ends l ++ ends m := by unfold ends; rw [List.flatMap_append]
/-- one of each, rising -/
def onc (N : Nat) (L : List (Nat × Nat)) : List Nat := (List.range N).filter fun b => (ends L).contains b
theorem onc_up (N : Nat) (L : List (Nat × Nat)) : (onc N L).Pairwise (· < ·) := List.Pairwise.filter _ List.pairwise_lt_range
theorem onc_mem {N : Nat} {L : List (Nat × Nat)} (z : Nat) : z ∈ onc N L ↔ z < N ∧ z ∈ ends L := by
  unfold onc
  rw [List.mem_filter, List.mem_range]; simp
theorem up_eq : ∀ (l m : List Nat), l.Pairwise (· < ·) → m.Pairwise (· < ·) → (∀ z, z ∈ l ↔ z ∈ m) → l = m
  | [], [], _, _, _ => rfl
  | [], y :: m, _, _, h => by have := (h y).2 (List.mem_cons_self ..); cases this
  | x :: l, [], _, _, h => by have := (h x).1 (List.mem_cons_self ..); cases this
  | x :: l, y :: m, hl, hm, h => by
    have cl := List.pairwise_cons.1 hl
    have cm := List.pairwise_cons.1 hm
    have hxy : x = y := by
      rcases List.mem_cons.1 ((h x).1 (List.mem_cons_self ..)) with e | e
      · exact e
      · rcases List.mem_cons.1 ((h y).2 (List.mem_cons_self ..)) with e2 | e2
        · exact e2.symm
        · have h1 := cl.1 y e2
          have h2 := cm.1 x e
          omega
    subst hxy
    congr 1
    refine up_eq l m cl.2 cm.2 fun z => ?_
    constructor
    · intro hz
      rcases List.mem_cons.1 ((h z).1 (List.mem_cons_of_mem _ hz)) with e | e
      · subst e; have := cl.1 z hz; omega
      · exact e
    · intro hz
      rcases List.mem_cons.1 ((h z).2 (List.mem_cons_of_mem _ hz)) with e | e
      · subst e; have := cm.1 z hz; omega
      · exact e
theorem onc_eq {N : Nat} {L : List (Nat × Nat)} {R : List Nat} (hR : R.Pairwise (· < ·)) (hm : ∀ z, z ∈ R ↔ z ∈ ends L) (hd : ∀ z, z ∈ ends L → z < N) : R = onc N L :=
  up_eq _ _ hR (onc_up N L) fun z => by rw [hm, onc_mem]; exact ⟨fun h => ⟨hd z h, h⟩, fun h => h.2⟩
/-- the edges of a vertex to greater ones -/
def edA (a : Nat) (l : List Nat) : List (Nat × Nat) := (l.filter fun b => decide (a < b)).map fun b => (a, b)
def preE (N : Nat) (O : Nat → List (Nat × Nat)) : Nat → List (Nat × Nat)
  | 0 => []
  | a + 1 => preE N O a ++ edA a (onc N (O a))
def posE (N : Nat) (O : Nat → List (Nat × Nat)) (a j : Nat) : Nat := (preE N O a).length + (edA a ((onc N (O a)).take j)).length
theorem edA_app (a : Nat) (l m : List Nat) : edA a (l ++ m) = edA a l ++ edA a m := by unfold edA; rw [List.filter_append, List.map_append]
theorem preE_le (N : Nat) (O : Nat → List (Nat × Nat)) (a : Nat) : ∀ M, a ≤ M → ∃ r, preE N O M = preE N O a ++ r := by
  intro M
  induction M with
  | zero => intro h; obtain rfl : a = 0 := by omega
            exact ⟨[], rfl⟩
  | succ M ih =>
    intro h
    rcases Nat.lt_or_ge a (M + 1) with h1 | h1
    · obtain ⟨r, hr⟩ := ih (by omega)
      exact ⟨r ++ edA M (onc N (O M)), by show preE N O M ++ _ = _; rw [hr, List.append_assoc]⟩
    · obtain rfl : a = M + 1 := by omega
      exact ⟨[], by rw [List.append_nil]⟩
theorem posE_0 (N : Nat) (O : Nat → List (Nat × Nat)) (a : Nat) : posE N O a 0 = (preE N O a).length := rfl
theorem posE_all (N : Nat) (O : Nat → List (Nat × Nat)) (a : Nat) : posE N O a (onc N (O a)).length = (preE N O (a + 1)).length := by
  unfold posE
  rw [List.take_length]
  show _ = (preE N O a ++ edA a (onc N (O a))).length
  rw [List.length_append]
theorem takeE {L : List Nat} {j x : Nat} (h : L[j]? = some x) : L.take (j + 1) = L.take j ++ [x] := by rw [List.take_add_one, h]; rfl
theorem posE_no {N : Nat} {O : Nat → List (Nat × Nat)} {a j x : Nat} (h : (onc N (O a))[j]? = some x) (hn : ¬ a < x) : posE N O a (j + 1) = posE N O a j := by
  have : edA a [x] = [] := by
    unfold edA
    rw [List.filter_cons, if_neg (by simpa using hn)]; rfl
  unfold posE
  rw [takeE h, edA_app, this, List.append_nil]
theorem posE_yes {N M : Nat} {O : Nat → List (Nat × Nat)} {a j x : Nat} (ha : a < M) (h : (onc N (O a))[j]? = some x) (hn : a < x) : posE N O a (j + 1) = posE N O a j + 1 ∧ (preE N O M)[posE N O a j]? = some (a, x) := by
  have h1 : edA a [x] = [(a, x)] := by
    unfold edA
    rw [List.filter_cons, if_pos (by simpa using hn)]; rfl
  constructor
  · unfold posE
    rw [takeE h, edA_app, h1, List.length_append]; rfl
  · obtain ⟨r, hr⟩ := preE_le N O (a + 1) M ha
    have hj : j < (onc N (O a)).length := (List.getElem?_eq_some_iff.1 h).1
    have h2 : onc N (O a) = (onc N (O a)).take j ++ x :: (onc N (O a)).drop (j + 1) := by
      conv => lhs; rw [← List.take_append_drop j (onc N (O a))]
      rw [List.drop_eq_getElem_cons hj, (List.getElem?_eq_some_iff.1 h).2]
    have h3 : edA a (onc N (O a)) = edA a ((onc N (O a)).take j) ++ ((a, x) :: edA a ((onc N (O a)).drop (j + 1))) := by
      conv => lhs; rw [h2]
      rw [edA_app, show x :: (onc N (O a)).drop (j + 1) = [x] ++ (onc N (O a)).drop (j + 1) from rfl, edA_app, h1]; rfl
    rw [hr]
    show ((preE N O a ++ edA a (onc N (O a))) ++ r)[(preE N O a).length + (edA a ((onc N (O a)).take j)).length]? = _
    rw [h3, List.append_assoc, List.append_assoc, List.getElem?_append_right (by omega), Nat.add_sub_cancel_left, List.getElem?_append_right (by omega), Nat.sub_self]; rfl
def edE (l : List (Nat × Nat)) (k : Nat) : Array Value := #[.int .i64 (l.getD k (0, 0)).1, .int .i64 (l.getD k (0, 0)).2]
end Go.Proofs.Ytdlpfiiakmhnlaa

namespace Go.Proofs.Ytdlpfiiakmhnlaa
open Go.RowKit Go.Shelf
attribute [local go_sem] Oper.semAt_some undef

theorem Edges_is (t : Nat) (w : World) :
    Calls Try.prog 28 #[ptr t 0] w fun e w' => e = .returned (.func (.func 64) #[] #[ptr w.heap.size 0]) ∧ Blk w' w.heap.size #[ptr t 0] 25 ∧ Below w.heap.size w w' := by
  go_enter Try.func28, Try.ntmps28
  go_wp2
  go_ret
  exact ⟨rfl, Blk.new _ _ _, below_a1 _ _⟩
theorem Once_n (ao : Option Addr) (cap n N : Nat) (Lr : List (Nat × Nat)) (w : World) (h : Ns w ao cap (ends Lr)) (hl : (ends Lr).length = n) (hn4 : n ≤ 40000) (hd : ∀ z, z ∈ ends Lr → z < N) :
    Calls Try.prog 65 #[.slice ao n cap, cmpF] w fun e w' => ∃ v, e = .returned v ∧ NL w' w.heap.size v (onc N Lr) ∧ Below w.heap.size w w' := by
  refine (Once_is ao cap n (ends Lr) w h hl hn4).mono ?_
  rintro e w' ⟨v, R, he, h1, h2, h3, h4⟩
  rw [onc_eq h2 h3 hd] at h1
  exact ⟨v, he, h1, h4⟩
theorem yield_wide {m m' l : Nat} {P : Program} {args : Array Value} {W : World} {R : Ending → World → Prop} (h : YieldAt Fence.wide m P l args W R) : YieldAt Fence.wide m' P l args W R := by
  obtain ⟨fn, tmps, assign, body, hy, hR⟩ := h
  exact ⟨fn, tmps, assign, body, hy, hR.1, fun c cs _ => hR.2 c cs (fun d h => by cases h)⟩
set_option maxRecDepth 100000 in
set_option maxHeartbeats 4000000 in
theorem Edges1_any (m lid bs t B : Nat) (D : SD) (N : Nat) (X Y : Nat → Int) (O : Nat → List (Nat × Nat)) (n : Int) (L : List (Nat × Nat)) (hL : preE N O N = L) (I : (Nat → Prop) → Nat → World → Prop) (Ix : Nat → World → Prop)
    (hm : ∀ G k W, I G k W → Blk W bs #[ptr t 0] 25 ∧ SM W t D N X Y O n) (hG : ∀ G k W, I G k W → ∀ g, G g → B ≤ g ∧ g < W.heap.size) (hst : ∀ G k W W', I G k W → BelowX B G W W' → I G k W') (hxst : ∀ k W W', Ix k W → Below B W W' → Ix k W')
    (hY : ∀ G k W, k < L.length → I G k W → YieldAt Fence.wide m Try.prog lid (edE L k) W fun e W' => ((e = .returned (.bool true) ∧ ∃ G', (∀ g, G' g → G g ∨ W.heap.size ≤ g) ∧ I G' (k + 1) W') ∨ (e = .returned (.bool false) ∧ Ix (k + 1) W')) ∧ AboveX B G W W')
    (W : World) (hB : B ≤ W.heap.size) (h0 : I (fun _ => False) 0 W) :
    CallsIn Fence.wide (m + 1) Try.prog 64 #[.func (.yield lid) #[] #[], ptr bs 0] W fun e W' => (∃ v, e = .returned v) ∧ ((∃ G, I G L.length W') ∨ ∃ k, k ≤ L.length ∧ Ix k W') := by
  refine callsIn_wide.2 ((callsIn_wide (n := 3)).1 ?_)
  refine callsIn_of_wp_marks Try.func64 rfl trivial ?_ rfl
  simp only [Try.ntmps64, List.size_toArray, List.length_cons, List.length_nil, Nat.reduceAdd, Nat.reduceSub, Array.replicate_succ, Array.replicate_zero, List.push_toArray, List.append_toArray, List.nil_append, List.cons_append]
  obtain ⟨ks, hM⟩ := hm _ 0 W h0
  have b0 := ks.cell 0
  simp only [List.getElem?_toArray, List.getElem?_cons_zero] at b0
  obtain ⟨c0, _, _⟩ := hM.c
  have hsm := hM.small
  have hcl := hM.pts.capl
  have hcb := hM.pts.capb
  have H0 := Lib.hid h0
  have HL := Lib.hid hL
  have HH := Lib.hid (And.intro hm (And.intro hst (And.intro hxst (And.intro hY hG))))
  clear hm hG hst hxst hY h0 hL ks hM
  gi_wp2_with fail
  obtain ⟨y, hy⟩ : ∃ y, W.heap.size = y := ⟨_, rfl⟩
  rw [hy] at hB
  have hyW : y ≤ W.heap.size := by omega
  clear hy b0 c0 hcl hcb
  refine wpIn_loop_ghost_k (fun gk act wr => ∃ (u2 u3 u4 u5 u6 u7 u8 u15 u16 u17 u18 u19 u20 u21 u22 u23 u24 u25 u26 u27 u28 u29 u30 u31 u32 u33 u34 u35 u36 u37 u38 u39 u40 u41 u42 u43 u44 u45 : Value) (ds : List Deferred) (a : Nat) (G0 : Nat → Prop), (a ≤ N ∧ N - a ≤ gk ∧ Hid (I G0 (posE N O a 0) wr ∧ ∀ d, d ∈ ds → ∀ r, d.target = .collected r → ¬ G0 r) ∧ y ≤ wr.heap.size ∧ Hid (Marks y wr ds)) ∧ act = { tmps := #[.func (.yield lid) #[] #[], ptr bs 0, u2, u3, u4, u5, u6, u7, u8, ptr t 0, ptr t 0, .pointer (some ⟨t, 0, none⟩), .slice D.po N D.pc, .int .i64 (N : Nat), .int .i64 (a : Nat), u15, u16, u17, u18, u19, u20, u21, u22, u23, u24, u25, u26, u27, u28, u29, u30, u31, u32, u33, u34, u35, u36, u37, u38, u39, u40, u41, u42, u43, u44, u45], defers := ds }) N ⟨_, _, _, _, _, _, _, _, _, _, _, _, _, _, _, _, _, _, _, _, _, _, _, _, _, _, _, _, _, _, _, _, _, _, _, _, _, _, [], 0, _, ⟨Nat.zero_le _, Nat.le_refl _, Lib.hid ⟨H0.out, fun d hd => by cases hd⟩, hyW, Lib.hid trivial⟩, rfl⟩ ?_
  intro gk act wr hinv J K hJ hK
  obtain ⟨u2, u3, u4, u5, u6, u7, u8, u15, u16, u17, u18, u19, u20, u21, u22, u23, u24, u25, u26, u27, u28, u29, u30, u31, u32, u33, u34, u35, u36, u37, u38, u39, u40, u41, u42, u43, u44, u45, ds, a, G0, ⟨ha, hga, HI, hyw, HM⟩, rfl⟩ := hinv
  clear H0 hyW
  by_cases haN : a < N
  · obtain ⟨ks, hM⟩ := HH.out.1 _ _ wr HI.out.1
    have HG0 := Lib.hid (HH.out.2.2.2.2 _ _ _ HI.out.1)
    have SM0 := Lib.hid hM
    have KS0 := Lib.hid ks
    have b0 := ks.cell 0
    simp only [List.getElem?_toArray, List.getElem?_cons_zero] at b0
    have lbw := ks.lt
    clear ks hM
    gi_wp2_with fail
    refine ⟨trivial, callsIn_wide.2 ?_⟩
    refine calls_w ?_
    intro V1 hV1
    have kE : Hid (Blk V1 wr.heap.size #[.slice none 0 0] 29) := by rw [hV1]; exact Lib.hid (Blk.new wr _ _)
    have hb1 : Below wr.heap.size wr V1 := by rw [hV1]; exact below_a1 _ _
    have hs1 : V1.heap.size = wr.heap.size + 1 := by rw [hV1]; simp
    obtain ⟨eb, eeb⟩ : ∃ b, wr.heap.size = b := ⟨_, rfl⟩
    rw [eeb] at kE ⊢
    clear hV1 b0
    refine (Around_is t a V1).mono ?_
    rintro e V2 ⟨rfl, kcs, kca, hb2⟩
    have hs2 := kca.lt
    have kE2 := Lib.hid (kE.out.of hb2)
    have hb02 := hb1.trans (hb2.mono hb1.size)
    have B02 := Lib.hid hb02
    obtain ⟨cs, ecs⟩ : ∃ b, V1.heap.size = b := ⟨_, rfl⟩
    obtain ⟨ca, eca⟩ : ∃ b, V1.heap.size + 1 = b := ⟨_, rfl⟩
    rw [eca] at kca ⊢
    rw [ecs] at kcs ⊢
    have o1 : eb < cs := by omega
    have o2 : cs < ca := by omega
    have o3 : ca < V2.heap.size := by omega
    have o4 : y ≤ eb := by omega
    have o5 : B ≤ eb := by omega
    have KC := Lib.hid (And.intro kcs kca)
    clear kcs kca hb1 hb2 hb02 kE ecs eca hs1
    gi_wp2_with fail
    obtain ⟨len, hlen⟩ : ∃ l, (O a).length = l := ⟨_, rfl⟩
    have HLEN := Lib.hid hlen
    have hlen4 : len ≤ 4096 := by
      have h1 := sort_len (SM0.out.sort a haN) fun x hx => (SM0.out.dom a haN x hx).1
      omega
    have hrow : rowO N O (a : Int) = O a := by unfold rowO; rw [if_pos (by omega)]; rfl
    have hT := Around1_tells cs ca t D N X Y O n a (O a) hrow (V2.heap.size + 2)
    rw [hlen] at hT
    obtain ⟨i0, hi, hz0, hz1, hz2⟩ := info_parts info_int
    clear hlen hrow
    refine wpIn_rangeX (m := 1) (gf := 67) (lb := #[ptr cs 0, ptr ca 0]) (N := len) (encs := arE (O a)) (Kp := fun W => Blk W cs #[ptr t 0] 25 ∧ Blk W ca #[.int .i64 (a : Nat)] 3 ∧ SM W t D N X Y O n) rfl (fun args w => by go_simp) hT (fun _ => rfl)
      (fun G k W => ∃ v, Blk W eb #[v] 29 ∧ NL W (V2.heap.size + 2) v (ends ((O a).take k)) ∧ Fr V2 W (fun b => b = eb) ∧ ∀ g, G g ↔ v.ownBlock = some g)
      (fun _ _ _ => False) ?hg ?stable (fun _ _ _ _ h _ => h.elim) ?keeps ?start ?round ?done (fun _ _ _ _ _ h _ => h.elim)
    case hg =>
      rintro G k W ⟨v, j1, j2, j3, j4⟩ g hg
      exact j2.own ((j4 g).1 hg)
    case stable =>
      rintro G k W W' ⟨v, j1, j2, j3, j4⟩ ⟨hbl, hbg⟩
      exact ⟨v, j1.below hbl (by omega), j2.keep fun g hg => hbg g ((j4 g).2 hg) (j2.own hg).2, j3.trans (S' := fun b => V2.heap.size ≤ b) ⟨hbl.os, hbl.tape, hbl.output, hbl.size, fun k _ hk => hbl.block k (by omega)⟩ (fun _ h => .inr h), j4⟩
    case keeps =>
      rintro G k W ⟨v, j1, j2, j3, j4⟩
      refine ⟨j3.blk KC.out.1 (by omega), j3.blk KC.out.2 (by omega), SM0.out.of (B02.out.trans ⟨j3.os, j3.tape, j3.output, by have := j3.size; have := B02.out.size; omega, fun k hk => ?_⟩)⟩
      exact j3.block k (by have := B02.out.size; omega) (by omega)
    case start => exact ⟨_, kE2.out, NL.none, ⟨rfl, rfl, rfl, Nat.le_refl _, fun _ _ _ => rfl⟩, fun g => ⟨fun h => h.elim, fun h => by cases h⟩⟩
    case round =>
      rintro l2 D2 k G W2 hk ⟨v, j1, j2, j3, j4⟩ g1 g2 g3 g4
      obtain ⟨⟨xb, xc⟩, hx⟩ : ∃ x, (O a)[k]? = some x := ⟨_, List.getElem?_eq_getElem (show k < (O a).length by rw [HLEN.out]; exact hk)⟩
      have hE : arE (O a) k = #[.int .i64 (xb : Nat), .int .i64 (xc : Nat)] := by unfold arE; rw [List.getD_eq_getElem?_getD, hx]; rfl
      rw [hE]
      have HX := Lib.hid hx
      have JJ := Lib.hid (And.intro j1 (And.intro j2 (And.intro j3 j4)))
      clear j1 j2 j3 j4 hx hE hT
      gi_wp2_with fail
      refine ⟨⟨Fix2.of (OutL.refl [] _) g3 g4 (by simp) (by simp), AboveX.refl _ _ _⟩, ?_⟩
      intro W3 hW3
      obtain ⟨j1, j2, j3, j4⟩ := JJ.out
      have hs3w := hW3.size
      have kOw : Blk W3 eb #[v] 29 := j1.outl hW3 (by simp; omega)
      have nlw : NL W3 (V2.heap.size + 2) v (ends ((O a).take k)) := j2.keep fun g hg => hW3.block g (j2.own hg).2 (by have := (j2.own hg).1; simp; omega)
      have FF := Lib.hid (j3.trans (S' := fun b => V2.heap.size ≤ b) ⟨hW3.os, hW3.tape, hW3.output, hW3.size, fun g hg hn => hW3.block g hg (by simp; omega)⟩ (fun _ h => .inr h))
      have KOW := Lib.hid kOw
      have J4 := Lib.hid j4
      have x0 := kOw.cell 0
      have f0 := kOw.free 0
      have l0 := kOw.lt
      simp only [List.getElem?_toArray, List.getElem?_cons_zero] at x0
      have hlk : (ends ((O a).take k)).length = 2 * k := by rw [ends_len, List.length_take, HLEN.out]; omega
      have hszb : V2.heap.size + 2 ≤ W3.heap.size := by omega
      have hown : W3.ownsRow (V2.heap.size + 2) 3 1 v (2 * k) (nI (ends ((O a).take k))) := by
        have h1 : W3.ownsRow (V2.heap.size + 2) 3 1 v (ends ((O a).take k)).length (nI (ends ((O a).take k))) := nlw
        rw [hlk] at h1; exact h1
      have hownA := own_belowT hown (below_a1 W3 (.cells #[.int .i64 (xb : Nat), .int .i64 (xc : Nat)] 3))
      have hn2 : ∀ j u, [Value.int .i64 (xb : Nat), .int .i64 (xc : Nat)][j]? = some u → (W3.alloc (.cells #[.int .i64 (xb : Nat), .int .i64 (xc : Nat)] 3)).cell? ((⟨W3.heap.size, 0, none⟩ : Addr).add j) = some u := by
        intro j u hj
        match j, hj with
        | 0, hj => simp at hj; subst hj; exact (Blk.new W3 _ _).cell 0
        | 1, hj => simp at hj; subst hj; exact (Blk.new W3 _ _).cell 1
        | j + 2, hj => simp at hj
      have ho1 : ∀ u ∈ [Value.int .i64 (xb : Nat), .int .i64 (xc : Nat)], u.oneCell' = true := by intro u hu; simp at hu; rcases hu with rfl | rfl <;> rfl
      have hb63 : 2 * k + 2 ≤ maxLen := by unfold maxLen; omega
      have hb64 : (2 * k + 2) * 8 ≤ 140737488355328 := by omega
      have hbs : V2.heap.size + 2 ≤ (W3.alloc (.cells #[.int .i64 (xb : Nat), .int .i64 (xc : Nat)] 3)).heap.size := by simp; omega
      clear j1 j2 j3 j4 kOw nlw JJ hown
      gi_wp2_with (gi_at_builtin; go_loud (refine wpListIn_append_own_at _ rfl _ _ 29 rfl (V2.heap.size + 2) 3 i0 (.int .i64 0) 1 8 Try.underlying29 hi hz0 hz1 hz2 rfl (by decide) v (2 * k) (nI (ends ((O a).take k))) rfl hownA ⟨W3.heap.size, 0, none⟩ 2 2 [.int .i64 (xb : Nat), .int .i64 (xc : Nat)] rfl rfl hn2 ho1 hb63 hb64 hbs ?_))
      intro v1 w1 own1 gr1 _ hat
      obtain ⟨aa, ll, cc, hv1⟩ : ∃ aa ll cc, v1 = .slice aa ll cc := by rcases own1.2 with ⟨e, _⟩ | ⟨g, cap, cur, e, _⟩ <;> exact ⟨_, _, _, e⟩
      subst hv1
      have hsa : (W3.alloc (.cells #[.int .i64 (xb : Nat), .int .i64 (xc : Nat)] 3)).heap.size = W3.heap.size + 1 := by simp
      have hown2 : ∀ g, v.ownBlock = some g → V2.heap.size + 2 ≤ g := fun g hg => (World.ownsRow.lt hownA g hg).1
      have hW1 : ∀ g, g < W3.heap.size → v.ownBlock ≠ some g → w1.heap[g]? = W3.heap[g]? := fun g h1 h2 => (gr1.block g (by omega) (fun e => h2 e.symm)).trans ((below_a1 W3 _).block g h1)
      have hWf : ∀ g, g ≠ eb → (w1.setCell ⟨eb, 0, none⟩ (.slice aa ll cc)).heap[g]? = w1.heap[g]? := fun g h => Below.heap_setCell w1 ⟨eb, 0, none⟩ (.slice aa ll cc) g h
      have hss : W3.heap.size ≤ w1.heap.size := by have := gr1.size; omega
      have hsf : (w1.setCell ⟨eb, 0, none⟩ (.slice aa ll cc)).heap.size = w1.heap.size := by simp [World.setCell]
      have nO : ∀ g, g < V2.heap.size + 2 → v.ownBlock ≠ some g := fun g h e => by have := hown2 g e; omega
      have KO1 : Blk w1 eb #[v] 29 := (hW1 eb l0 (nO _ (by omega))).trans KOW.out
      have x1 := KO1.cell 0
      have f1 := KO1.free 0
      have l1 := KO1.lt
      simp only [List.getElem?_toArray, List.getElem?_cons_zero] at x1
      have GG : Hid ((Fix2 l2 D2 W3 (w1.setCell ⟨eb, 0, none⟩ (.slice aa ll cc)) ∧ ∃ G' : Nat → Prop, (∀ g, G' g → G g ∨ W3.heap.size ≤ g) ∧ ∃ v, Blk (w1.setCell ⟨eb, 0, none⟩ (.slice aa ll cc)) eb #[v] 29 ∧ NL (w1.setCell ⟨eb, 0, none⟩ (.slice aa ll cc)) (V2.heap.size + 2) v (ends ((O a).take (k + 1))) ∧ Fr V2 (w1.setCell ⟨eb, 0, none⟩ (.slice aa ll cc)) (fun b => b = eb) ∧ ∀ g, G' g ↔ v.ownBlock = some g) ∧ AboveX (V2.heap.size + 2) G W3 (w1.setCell ⟨eb, 0, none⟩ (.slice aa ll cc))) := by
        have fx : ∀ g, g < W3.heap.size → v.ownBlock ≠ some g → g ≠ eb → (w1.setCell ⟨eb, 0, none⟩ (.slice aa ll cc)).heap[g]? = W3.heap[g]? := fun g h1 h2 h3 => (hWf g h3).trans (hW1 g h1 h2)
        refine Lib.hid ⟨⟨⟨fx l2 (by omega) (nO _ (by omega)) (by omega), fx D2 (by omega) (nO _ (by omega)) (by omega)⟩, fun g => (Value.slice aa ll cc).ownBlock = some g, fun g hg => ?_, .slice aa ll cc, KO1.put 0 (.slice aa ll cc), ?_, ?_, fun g => Iff.rfl⟩, ?_⟩
        · rcases hat with e | e
          · exact .inl ((J4.out g).2 (by rw [← e]; exact hg))
          · rw [e] at hg; injection hg with hg; exact .inr (by omega)
        · have h1 : NL w1 (V2.heap.size + 2) (.slice aa ll cc) (ends ((O a).take (k + 1))) := by
            have e : ends ((O a).take (k + 1)) = ends ((O a).take k) ++ [xb, xc] := by rw [take_succ' HX.out, ends_app]; rfl
            unfold NL
            rw [e, List.length_append, List.map_append, hlk]; exact own1
          exact h1.keep fun g hg => hWf g (by have := (h1.own hg).1; omega)
        · exact FF.out.trans (S' := fun b => b = eb ∨ V2.heap.size ≤ b) ⟨gr1.os, gr1.tape, gr1.output, by omega, fun g hg hn => fx g hg (fun e => hn (.inr (by have := hown2 g e; omega))) (fun e => hn (.inl e))⟩ (fun _ h => h)
        · exact ⟨by omega, fun g h1 h2 h3 => fx g h2 (fun e => h3 ((J4.out g).2 e)) (by omega)⟩
      clear own1 gr1 hat hownA hW1 hWf KO1 x0 f0 hsa hn2 ho1 hb63 hb64 hbs
      gi_wp2
      exact GG.out
    case done =>
      rintro Dd G V5 g1 ⟨v, j1, j2, j3, j4⟩ hD
      rw [← HLEN.out, List.take_length] at j2
      have hDl := (Array.getElem?_eq_some_iff.1 hD).1
      have hb5 : Below wr.heap.size wr V5 := ⟨j3.os.trans B02.out.os, j3.tape.trans B02.out.tape, j3.output.trans B02.out.output, Nat.le_trans B02.out.size j3.size, fun g hg => (j3.block g (by have := B02.out.size; omega) (by omega)).trans (B02.out.block g hg)⟩
      have w5 : V2.heap.size ≤ V5.heap.size := j3.size
      have w2 := B02.out.size
      have I5 : Hid (I G0 (posE N O a 0) V5) := Lib.hid (HH.out.2.1 _ _ wr V5 HI.out.1 (.all hb5 (by omega)))
      have MK5 : Hid (Marks y V5 ({ target := .collected Dd, args := #[] } :: ds)) := Lib.hid ⟨⟨Dd, rfl, by omega, hD, fun d hd r hr => by have := HM.out.lt d hd r hr; omega⟩, HM.out.keep fun r _ h2 => hb5.block r h2⟩
      have NG5 : Hid (∀ d, d ∈ ({ target := .collected Dd, args := #[] } :: ds : List Deferred) → ∀ r, d.target = .collected r → ¬ G0 r) := Lib.hid fun d hd r hr h => by
        rcases List.mem_cons.1 hd with rfl | hd
        · injection hr with hr
          have := HG0.out r h
          omega
        · exact HI.out.2 d hd r hr h
      have SM5 : Hid (SM V5 t D N X Y O n) := Lib.hid (SM0.out.of hb5)
      obtain ⟨ao, cap, rfl, hns⟩ := Ns.ofNL j2
      have j0 := j1.cell 0
      have j9 := j1.lt
      simp only [List.getElem?_toArray, List.getElem?_cons_zero] at j0
      have HNS := Lib.hid hns
      obtain ⟨dds, hdds⟩ : ∃ x, ({ target := .collected Dd, args := #[] } :: ds : List Deferred) = x := ⟨_, rfl⟩
      rw [hdds] at MK5 NG5 ⊢
      obtain ⟨ne, hne⟩ : ∃ x, (ends (O a)).length = x := ⟨_, rfl⟩
      have HNE := Lib.hid hne
      rw [hne] at j0 j1
      have hne4 : ne ≤ 8192 := by rw [← hne, ends_len]; have := HLEN.out; omega
      clear j2 j3 j4 hns hD hT hb5 hdds hne HM HI KC KS0 B02
      gi_wp2_with fail
      refine ⟨trivial, callsIn_wide.2 ?_⟩
      refine (Once_n ao cap ne N (O a) V5 HNS.out HNE.out (by omega) ?_).mono ?_
      · intro z hz
        unfold ends at hz
        obtain ⟨x, hx, hz⟩ := List.mem_flatMap.1 hz
        have hd := SM0.out.dom a haN x hx
        rcases List.mem_cons.1 hz with rfl | hz
        · exact hd.1
        · rcases List.mem_cons.1 hz with rfl | hz
          · exact hd.2
          · cases hz
      rintro e V6 ⟨v6, rfl, nl6, hb6⟩
      have w6 := hb6.size
      have I6 : Hid (I G0 (posE N O a 0) V6) := Lib.hid (HH.out.2.1 _ _ V5 V6 I5.out (.all hb6 (by omega)))
      have MK6 : Hid (Marks y V6 dds) := Lib.hid (MK5.out.keep fun r _ h2 => hb6.block r h2)
      have MKL := Lib.hid MK5.out.lt
      obtain ⟨ao6, cap6, rfl, hns6⟩ := Ns.ofNL nl6
      have lM : (onc N (O a)).length ≤ 4096 := by
        have h1 : (onc N (O a)).length ≤ (List.range N).length := List.length_filter_le _ _
        rw [List.length_range] at h1; omega
      have hcap6 := hns6.capl
      have hcap6b := hns6.capb
      have NO6 : Hid (∀ g, (Value.slice ao6 (onc N (O a)).length cap6).ownBlock = some g → ¬ G0 g) := Lib.hid fun g hg h => by
        have h1 := (nl6.own hg).1
        have h2 := HG0.out g h
        omega
      have NL6 := Lib.hid nl6
      obtain ⟨EL, hel⟩ : ∃ l, onc N (O a) = l := ⟨_, rfl⟩
      have HEL := Lib.hid hel
      rw [hel] at NL6 NO6 lM hcap6 ⊢
      obtain ⟨M, hM6⟩ : ∃ M, EL.length = M := ⟨_, rfl⟩
      have HML := Lib.hid hM6
      rw [hM6] at NL6 NO6 lM hcap6 ⊢
      have b5 : B ≤ V5.heap.size := by omega
      have y5 : y ≤ V5.heap.size := by omega
      clear hns6 nl6 hel hM6 hb6 I5 MK5 j0 j1 SM5 HNS
      gi_wp2_with fail
      refine wpIn_loop_ghost_k (fun gj act wi => ∃ (p8 p31 p32 p33 p34 p35 p36 p37 p38 p39 p40 p41 p42 p43 p44 : Value) (j : Nat) (G1 : Nat → Prop), (j ≤ M ∧ M - j ≤ gj ∧ Hid (I G1 (posE N O a j) wi) ∧ Hid (∀ d, d ∈ dds → ∀ r, d.target = .collected r → ¬ G1 r) ∧ Hid (NL wi V5.heap.size (.slice ao6 M cap6) EL) ∧ Hid (∀ g, (Value.slice ao6 M cap6).ownBlock = some g → ¬ G1 g) ∧ V5.heap.size ≤ wi.heap.size ∧ Hid (Marks y wi dds)) ∧ act = { tmps := #[.func (.yield lid) #[] #[], ptr bs 0, u2, .int .i64 (a : Nat), .pointer (some ⟨eb, 0, none⟩), u5, u6, u7, p8, ptr t 0, ptr t 0, .pointer (some ⟨t, 0, none⟩), .slice D.po N D.pc, .int .i64 (N : Nat), .int .i64 (a : Nat), .bool true, .int .i64 (a : Nat), ptr t 0, .int .i64 (a : Nat), .func (.func 67) #[] #[ptr cs 0, ptr ca 0], u20, u21, u22, u23, u24, u25, u26, .slice ao ne cap, .slice ao6 M cap6, .int .i64 (M : Nat), .int .i64 (j : Nat), p31, p32, p33, p34, p35, p36, p37, p38, p39, p40, p41, p42, p43, p44, u45], defers := dds }) M ⟨_, _, _, _, _, _, _, _, _, _, _, _, _, _, _, 0, _, ⟨Nat.zero_le _, Nat.le_refl _, I6, NG5, NL6, NO6, w6, MK6⟩, rfl⟩ ?_
      intro gj act wi hinv J2 K2 hJ2 hK2
      obtain ⟨p8, p31, p32, p33, p34, p35, p36, p37, p38, p39, p40, p41, p42, p43, p44, j, G1, ⟨hj, hgj, HI1, HN1, NL1, NO1, hwi, MK1⟩, rfl⟩ := hinv
      clear I6 NL6 NO6 MK6
      by_cases hjM : j < M
      · have HG1 := Lib.hid (HH.out.2.2.2.2 _ _ _ HI1.out)
        obtain ⟨ao', c', e, hns⟩ := Ns.ofNL NL1.out
        injection e with e1 e2 e3
        rw [← e1] at hns
        obtain ⟨g, o, rfl, hg, hcell⟩ := hns.ptr (by have := HML.out; omega)
        obtain ⟨x, hx⟩ : ∃ x, EL[j]? = some x := ⟨_, List.getElem?_eq_getElem (show j < EL.length by rw [HML.out]; exact hjM)⟩
        have x0 := hcell j x hx
        have HX := Lib.hid hx
        clear hns hcell hx e1 e2 e3 c' ao'
        by_cases hc : a < x
        · have c1 : (a : Int) < (x : Int) := by omega
          obtain ⟨hpos, hat⟩ := posE_yes haN (show (onc N (O a))[j]? = some x by rw [HEL.out]; exact HX.out) hc
          have hlt := (List.getElem?_eq_some_iff.1 hat).1
          rw [HL.out] at hat hlt
          have hval : edE L (posE N O a j) = #[.int .i64 (a : Nat), .int .i64 (x : Nat)] := by unfold edE; rw [List.getD_eq_getElem?_getD, hat]; rfl
          obtain ⟨fn, tmps, assign, body, hy, hR2⟩ := yield_wide (m' := 2) (HH.out.2.2.2.1 _ _ wi hlt HI1.out)
          rw [hval] at hy
          have HP := Lib.hid (And.intro hpos hlt)
          clear hpos hat hlt hval
          gi_wp2
          refine hR2.mono ?_
          rintro e W5 ⟨(⟨rfl, G5, hG5, hI5⟩ | ⟨rfl, hx5⟩), hab⟩
          · have sz5 := hab.size
            have hnew : Hid (I G5 (posE N O a (j + 1)) W5) := Lib.hid (by rw [HP.out.1]; exact hI5)
            have hN : Hid (∀ d, d ∈ dds → ∀ r, d.target = .collected r → ¬ G5 r) := Lib.hid fun d hd r hr h => by
              rcases hG5 r h with h1 | h1
              · exact HN1.out d hd r hr h1
              · have := MKL.out d hd r hr; omega
            have hNl : Hid (NL W5 V5.heap.size (.slice (some ⟨g, o, none⟩) M cap6) EL) := Lib.hid (NL1.out.keep fun k hk => hab.block k (by have := (NL1.out.own hk).1; omega) (NL1.out.own hk).2 (NO1.out k hk))
            have hNo : Hid (∀ k, (Value.slice (some ⟨g, o, none⟩) M cap6).ownBlock = some k → ¬ G5 k) := Lib.hid fun k hk h => by
              rcases hG5 k h with h1 | h1
              · exact NO1.out k hk h1
              · have := (NL1.out.own hk).2; omega
            have hmk : Hid (Marks y W5 dds) := Lib.hid (MK1.out.keepD fun d hd r hr h1 h2 => hab.block r (by omega) h2 (HN1.out d hd r hr))
            clear hI5 hG5 hab hy hR2 x0
            gi_wp2
            rw [show ((j : Int) + 1) = ((j + 1 : Nat) : Int) by norm_cast]
            exact ⟨M - (j + 1), by omega, hJ2 _ _ _ ⟨_, _, _, _, _, _, _, _, _, _, _, _, _, _, _, j + 1, _, ⟨hjM, Nat.le_refl _, hnew, hN, hNl, hNo, by omega, hmk⟩, rfl⟩⟩
          · have sz5 := hab.size
            have hmk : Hid (Marks y W5 dds) := Lib.hid (MK1.out.keepD fun d hd r hr h1 h2 => hab.block r (by omega) h2 (HN1.out d hd r hr))
            have HX5 := Lib.hid hx5
            clear hx5 hab hy hR2 x0
            gi_wp2
            refine leaves_marks (B := B) hB (fun _ => False) _ W5 (by omega) hmk.out (fun _ _ _ _ h => h) fun w' hb => ?_
            exact ⟨_, results_none rfl _ _ _, ⟨_, rfl⟩, .inr ⟨_, HP.out.2, HH.out.2.2.1 _ W5 w' HX5.out hb.1⟩⟩
        · have c1 : ¬ (a : Int) < (x : Int) := by omega
          have hpos := posE_no (show (onc N (O a))[j]? = some x by rw [HEL.out]; exact HX.out) hc
          have hnew : Hid (I G1 (posE N O a (j + 1)) wi) := by rw [hpos]; exact HI1
          clear hpos
          gi_wp2
          rw [show ((j : Int) + 1) = ((j + 1 : Nat) : Int) by norm_cast]
          exact ⟨M - (j + 1), by omega, hJ2 _ _ _ ⟨_, _, _, _, _, _, _, _, _, _, _, _, _, _, _, j + 1, _, ⟨hjM, Nat.le_refl _, hnew, HN1, NL1, NO1, hwi, MK1⟩, rfl⟩⟩
      · have hjM2 : j = M := by omega
        have e0 : posE N O (a + 1) 0 = posE N O a j := by rw [posE_0, ← posE_all, HEL.out, HML.out, hjM2]
        have hnew : Hid (I G1 (posE N O (a + 1) 0) wi ∧ ∀ d, d ∈ dds → ∀ r, d.target = .collected r → ¬ G1 r) := Lib.hid ⟨by rw [e0]; exact HI1.out, HN1.out⟩
        clear e0
        gi_wp2
        rw [show ((a : Int) + 1) = ((a + 1 : Nat) : Int) by norm_cast]
        exact ⟨N - (a + 1), by omega, hJ _ _ _ ⟨_, _, _, _, _, _, _, _, _, _, _, _, _, _, _, _, _, _, _, _, _, _, _, _, _, _, _, _, _, _, _, _, _, _, _, _, _, _, _, a + 1, _, ⟨haN, Nat.le_refl _, hnew, by omega, MK1⟩, rfl⟩⟩
  · have haN2 : a = N := by omega
    have e0 : posE N O a 0 = L.length := by rw [posE_0, haN2, HL.out]
    have HF := Lib.hid (show I G0 L.length wr by rw [← e0]; exact HI.out.1)
    clear e0
    have HNG := Lib.hid HI.out.2
    clear HI
    gi_wp2
    refine leaves_marks (B := B) hB G0 ds wr (by omega) HM.out HNG.out fun w' hb => ?_
    exact ⟨_, results_none rfl _ _ _, ⟨_, rfl⟩, .inl ⟨_, HH.out.2.1 _ _ wr w' HF.out hb⟩⟩
theorem Edges1_tells (bs t : Nat) (D : SD) (N : Nat) (X Y : Nat → Int) (O : Nat → List (Nat × Nat)) (n : Int) (L : List (Nat × Nat)) (hL : preE N O N = L) (B : Nat) :
    TellsX Try.prog 64 #[ptr bs 0] L.length (edE L) B (fun W => Blk W bs #[ptr t 0] 25 ∧ SM W t D N X Y O n) :=
  fun m lid I Ix hK hG hst hxst hY W hB h0 => Edges1_any m lid bs t B D N X Y O n L hL I Ix hK hG hst hxst hY W hB h0
end Go.Proofs.Ytdlpfiiakmhnlaa

namespace Go.Proofs.Ytdlpfiiakmhnlaa
open Go.RowKit

/-- a row without an end -/
def delH (b : Nat) (L : List (Nat × Nat)) : List (Nat × Nat) := L.filter fun x => decide (x.1 ≠ b)
theorem delH_sub {b : Nat} {L : List (Nat × Nat)} {x : Nat × Nat} (h : x ∈ delH b L) : x ∈ L := (List.mem_filter.1 h).1
theorem delH_sort {b : Nat} {L : List (Nat × Nat)} (h : SortH L) : SortH (delH b L) := sortH_pair.2 (List.Pairwise.filter _ (sortH_pair.1 h))
theorem filt_id {b : Nat} : ∀ {l : List (Nat × Nat)}, (∀ x, x ∈ l → x.1 ≠ b) → (l.filter fun x => decide (x.1 ≠ b)) = l := by
  intro l h
  rw [List.filter_eq_self]
  intro x hx
  simpa using h x hx
theorem delH_at {L : List (Nat × Nat)} {i b c : Nat} (hs : SortH L) (hx : L[i]? = some (b, c)) : L.take i ++ L.drop (i + 1) = delH b L := by
  have hi : i < L.length := (List.getElem?_eq_some_iff.1 hx).1
  have e : L = L.take i ++ (b, c) :: L.drop (i + 1) := by
    conv => lhs; rw [← List.take_append_drop i L]
    rw [List.drop_eq_getElem_cons hi, (List.getElem?_eq_some_iff.1 hx).2]
  have h1 : ∀ x, x ∈ L.take i → x.1 ≠ b := fun x h => by
    obtain ⟨j, hj⟩ := List.mem_iff_getElem?.1 h
    have hj2 : j < i := by
      have := (List.getElem?_eq_some_iff.1 hj).1
      rw [List.length_take] at this; omega
    rw [List.getElem?_take_of_lt hj2] at hj
    have := hs j i x (b, c) hj2 hj hx
    have h2 : x.1 < b := this
    omega
  have h2 : ∀ x, x ∈ L.drop (i + 1) → x.1 ≠ b := fun x h => by
    obtain ⟨j, hj⟩ := List.mem_iff_getElem?.1 h
    rw [List.getElem?_drop] at hj
    have := hs i (i + 1 + j) (b, c) x (by omega) hx hj
    have h2 : b < x.1 := this
    omega
  unfold delH
  conv => rhs; rw [e]
  rw [List.filter_append, List.filter_cons, if_neg (by simp), filt_id h1, filt_id h2]
theorem look_delH (b : Nat) : ∀ (L : List (Nat × Nat)) (y : Nat), lookH (delH b L) y = if y = b then none else lookH L y
  | [], y => by unfold lookH delH; simp
  | x :: l, y => by
    have ih := look_delH b l y
    unfold lookH delH at ih ⊢
    by_cases e : x.1 = b
    · rw [List.filter_cons, if_neg (by simpa using e), ih]
      by_cases e2 : y = b
      · rw [if_pos e2, if_pos e2]
      · rw [if_neg e2, if_neg e2, List.find?_cons]
        rw [show decide ((x.1 : Int) = (y : Int)) = false by simp; omega]
    · rw [List.filter_cons, if_pos (by simpa using e), List.find?_cons]
      by_cases e2 : y = b
      · rw [if_pos e2] at ih ⊢
        rw [show decide ((x.1 : Int) = (y : Int)) = false by simp; omega]
        exact ih
      · rw [if_neg e2] at ih ⊢
        rw [List.find?_cons]
        cases hd : decide ((x.1 : Int) = (y : Int)) with
        | true => rfl
        | false => exact ih
def del1 (O : Nat → List (Nat × Nat)) (a b : Nat) : Nat → List (Nat × Nat) := fun v => if v = a then delH b (O a) else O v
def delT (O : Nat → List (Nat × Nat)) (a b c : Nat) : Nat → List (Nat × Nat) := del1 (del1 (del1 O a b) b c) c a
theorem look_del1 (O : Nat → List (Nat × Nat)) (a b x y : Nat) : lookH (del1 O a b x) y = if x = a ∧ y = b then none else lookH (O x) y := by
  unfold del1
  by_cases e : x = a
  · subst e
    rw [if_pos rfl, look_delH]
    by_cases e2 : y = b
    · rw [if_pos e2, if_pos ⟨rfl, e2⟩]
    · rw [if_neg e2, if_neg fun h => e2 h.2]
  · rw [if_neg e, if_neg fun h => e h.1]
theorem look_delT (O : Nat → List (Nat × Nat)) (a b c x y : Nat) : lookH (delT O a b c x) y = if (x = a ∧ y = b) ∨ (x = b ∧ y = c) ∨ (x = c ∧ y = a) then none else lookH (O x) y := by
  unfold delT
  rw [look_del1, look_del1, look_del1]
  by_cases h3 : x = c ∧ y = a
  · rw [if_pos h3, if_pos (Or.inr (Or.inr h3))]
  · rw [if_neg h3]
    by_cases h2 : x = b ∧ y = c
    · rw [if_pos h2, if_pos (Or.inr (Or.inl h2))]
    · rw [if_neg h2]
      by_cases h1 : x = a ∧ y = b
      · rw [if_pos h1, if_pos (Or.inl h1)]
      · rw [if_neg h1, if_neg]
        rintro (h | h | h)
        · exact h1 h
        · exact h2 h
        · exact h3 h
/-- the sides of a triangle lie in a store -/
def HasT (O : Nat → List (Nat × Nat)) (x : Tri3) : Prop := lookH (O x.1) x.2.1 = some x.2.2 ∧ lookH (O x.2.1) x.2.2 = some x.1 ∧ lookH (O x.2.2) x.1 = some x.2.1
/-- what is told rises -/
theorem preO_up {O : Nat → List (Nat × Nat)} (hs : ∀ a, SortH (O a)) : ∀ N, (preO O N).Pairwise fun t u => t.1 < u.1 ∨ (t.1 = u.1 ∧ t.2.1 < u.2.1)
  | 0 => List.Pairwise.nil
  | N + 1 => by
    show (preO O N ++ told N (O N)).Pairwise _
    refine List.pairwise_append.2 ⟨preO_up hs N, ?_, fun t ht u hu => ?_⟩
    · unfold told
      rw [List.pairwise_map]
      refine List.Pairwise.imp (fun {a b} h => ?_) (List.Pairwise.filter _ (sortH_pair.1 (hs N)))
      exact .inr ⟨rfl, h⟩
    · have h1 := (mem_preO.1 ht).1
      have h2 := (mem_told.1 hu).1
      exact .inl (by omega)
theorem preO_ne {O : Nat → List (Nat × Nat)} (hs : ∀ a, SortH (O a)) {N j k : Nat} {t u : Tri3} (hj : (preO O N)[j]? = some t) (hk : (preO O N)[k]? = some u) (h : j < k) : t ≠ u := by
  intro e
  have := List.pairwise_iff_getElem.1 (preO_up hs N) j k (List.getElem?_eq_some_iff.1 hj).1 (List.getElem?_eq_some_iff.1 hk).1 h
  rw [(List.getElem?_eq_some_iff.1 hj).2, (List.getElem?_eq_some_iff.1 hk).2, e] at this
  omega
/-- two told triangles share no side -/
theorem told_apart {O : Nat → List (Nat × Nat)} {t u : Tri3} (ht : HasT O t) (hu : HasT O u) (h1 : t.1 < t.2.1 ∧ t.1 < t.2.2) (h2 : u.1 < u.2.1 ∧ u.1 < u.2.2) (hne : t ≠ u) : HasT (delT O t.1 t.2.1 t.2.2) u := by
  obtain ⟨a, b, c⟩ := t
  obtain ⟨x, y, z⟩ := u
  obtain ⟨p1, p2, p3⟩ := ht
  obtain ⟨q1, q2, q3⟩ := hu
  simp only at p1 p2 p3 q1 q2 q3 h1 h2 ⊢
  have key : ∀ i j k l m n : Nat, lookH (O i) j = some k → lookH (O l) m = some n → i = l → j = m → k = n := by
    rintro i j k l m n h1 h2 rfl rfl
    rw [h1] at h2; injection h2
  have hn : ¬ (x = a ∧ y = b ∧ z = c) := fun h => hne (by rw [h.1, h.2.1, h.2.2])
  refine ⟨?_, ?_, ?_⟩
  · show lookH (delT O a b c x) y = some z
    rw [look_delT, if_neg, q1]
    rintro (⟨e1, e2⟩ | ⟨e1, e2⟩ | ⟨e1, e2⟩)
    · exact hn ⟨e1, e2, key _ _ _ _ _ _ q1 p1 e1 e2⟩
    · have := key _ _ _ _ _ _ q1 p2 e1 e2; omega
    · omega
  · show lookH (delT O a b c y) z = some x
    rw [look_delT, if_neg, q2]
    rintro (⟨e1, e2⟩ | ⟨e1, e2⟩ | ⟨e1, e2⟩)
    · have := key _ _ _ _ _ _ q2 p1 e1 e2; omega
    · exact hn ⟨key _ _ _ _ _ _ q2 p2 e1 e2, e1, e2⟩
    · have := key _ _ _ _ _ _ q2 p3 e1 e2; omega
  · show lookH (delT O a b c z) x = some y
    rw [look_delT, if_neg, q3]
    rintro (⟨e1, e2⟩ | ⟨e1, e2⟩ | ⟨e1, e2⟩)
    · omega
    · have := key _ _ _ _ _ _ q3 p2 e1 e2; omega
    · exact hn ⟨e2, key _ _ _ _ _ _ q3 p3 e1 e2, e1⟩
end Go.Proofs.Ytdlpfiiakmhnlaa

namespace Go.Proofs.Ytdlpfiiakmhnlaa
open Go.RowKit

def DK (O : Nat → List (Nat × Nat)) (a b c : Nat) : Nat → Nat → List (Nat × Nat)
  | 0 => O
  | 1 => del1 O a b
  | 2 => del1 (del1 O a b) b c
  | _ => delT O a b c
set_option maxRecDepth 100000 in
set_option maxHeartbeats 4000000 in
theorem Del_yes (t : Nat) (D : SD) (N : Nat) (X Y : Nat → Int) (O : Nat → List (Nat × Nat)) (n : Int) (a b c : Nat) (w : World) (h : SM w t D N X Y O n) (na : a < N) (nb : b < N) (nc : c < N) (hab : a ≠ b) (hbc : b ≠ c) (hac : a ≠ c)
    (hT : HasT O (a, b, c)) (hn : 0 ≤ n ∧ n < 1000000000) :
    Calls Try.prog 33 #[ptr t 0, tI a b c] w fun e w' => e = .returned (.int .i64 0) ∧ ∃ D', SM w' t D' N X Y (delT O a b c) (n - 1) ∧ Fr w w' (D.has t N) ∧ (∀ g, D'.has t N g → D.has t N g ∨ w.heap.size ≤ g) ∧ D'.po = D.po := by
  have HM := Lib.hid h
  obtain ⟨f1, f2, f3⟩ := hT
  simp only at f1 f2 f3
  have hlf : leftO N O (a : Nat) (b : Nat) = some c := (leftO_of na).trans f1
  have HA0 : Hid (lookH (DK O a b c 0 a) b = some c) := f1
  have HA1 : Hid (lookH (DK O a b c 1 b) c = some a) := by
    refine Lib.hid ?_
    show lookH (del1 O a b b) c = some a
    rw [look_del1, if_neg (by omega)]; exact f2
  have HA2 : Hid (lookH (DK O a b c 2 c) a = some b) := by
    refine Lib.hid ?_
    show lookH (del1 (del1 O a b) b c c) a = some b
    rw [look_del1, if_neg (by omega), look_del1, if_neg (by omega)]; exact f3
  have HLF := Lib.hid hlf
  clear h f1 f2 f3 hlf
  go_enter Try.func33, Try.ntmps33
  go_wp2_with fail
  refine calls_w ?_
  intro V hV
  have hb0 : Below w.heap.size w V := by rw [hV]; exact below_a1 _ _
  have KB : Hid (Blk V w.heap.size #[.int .i64 (a : Nat), .int .i64 (b : Nat), .int .i64 (c : Nat)] 36) := by rw [hV]; exact Lib.hid (Blk.new w _ _)
  clear hV
  refine (Left_is t D N X Y O n a b V (HM.out.of hb0) _ HLF.out).mono ?_
  rintro e V2 ⟨rfl, hb2⟩
  have kb := KB.out.of hb2
  have hb1 := hb0.trans (hb2.mono hb0.size)
  have k0 := kb.cell 0
  have k1 := kb.cell 1
  have k2 := kb.cell 2
  have lk := kb.lt
  have HB1 := Lib.hid hb1
  clear hb0 hb2 hb1 KB kb
  go_wp2_with fail
  refine (sides_is a b c _).mono ?_
  rintro e W1 ⟨rfl, hn1⟩
  have hb1 := HB1.out.trans (hn1.mono HB1.out.size)
  have HM1 := Lib.hid (HM.out.of hb1)
  clear hn1 k0 k1 k2 lk HB1 HLF
  go_wp2_with fail
  go_loopg [30] 3 (fun gk s10 wr => ∃ (k : Nat) (Dk : SD), s10 = .int .i64 k ∧ k ≤ 3 ∧ 3 - k ≤ gk ∧ Hid (SM wr t Dk N X Y (DK O a b c k) n) ∧ Hid (Fr w wr (D.has t N)) ∧ Hid (∀ g, Dk.has t N g → D.has t N g ∨ w.heap.size ≤ g) ∧ Dk.po = D.po)
  case atStart => exact ⟨0, D, rfl, by omega, by omega, HM1, Lib.hid (Fr.ofBelow hb1), Lib.hid fun g hg => .inl hg, rfl⟩
  case round =>
    clear HM1 hb1 HM
    obtain ⟨k, Dk, rfl, hk, hg, HM, HF, HH, hpo⟩ := hrel
    rcases (show k = 0 ∨ k = 1 ∨ k = 2 ∨ k = 3 by omega) with rfl | rfl | rfl | rfl
    · have hix : ∀ w, Sem.run Try.prog (Instr.index 96 (sI a b c) (.int .i64 0)) w = .ok (tI a b c) w := fun w => side_at a b c 0 (by omega) w
      go_wp2_with fail
      refine name_world ?_
      intro W2 hW2
      have kt : Blk W2 wr.heap.size #[.int .i64 (a : Nat), .int .i64 (b : Nat), .int .i64 (c : Nat)] 36 := by rw [hW2]; exact Blk.new wr _ _
      have hbw : Below wr.heap.size wr W2 := by rw [hW2]; exact below_a1 wr _
      clear hW2
      have HM2 := Lib.hid (HM.out.of hbw)
      have HF2 := Lib.hid (HF.out.trans (Fr.ofBelow (S := fun _ => False) hbw) (fun b hb => hb.elim))
      have KT := Lib.hid kt
      have hsz2 : wr.heap.size ≤ W2.heap.size := hbw.size
      clear hbw kt HM HF
      obtain ⟨c0, c1, c2⟩ := HM2.out.c
      obtain ⟨v, hv⟩ : ∃ v, Dk.V a = v := ⟨_, rfl⟩
      have cr := HM2.out.row na
      have hrow := HM2.out.rows a na
      rw [hv] at cr hrow
      obtain ⟨ob, hob⟩ : ∃ ob, Dk.ob = ob := ⟨_, rfl⟩
      rw [hob] at cr c1
      have HROW := Lib.hid hrow
      have HSR := Lib.hid (HM2.out.sort a na)
      have hln := HM2.out.len a na
      have hsm := HM2.out.small
      have k0 := KT.out.cell 0
      have k1 := KT.out.cell 1
      have k2 := KT.out.cell 2
      have lt := HM2.out.lt (b := t) (.inl rfl)
      have lo : ob < W2.heap.size := by rw [← hob]; exact HM2.out.lt (.inr (.inl rfl))
      have lk := KT.out.lt
      have HV := Lib.hid (And.intro hv hob)
      clear hrow hv hob
      refine wp_region_up W2.heap.size 16 [(true, 0), (true, 1), (true, 2), (true, 3), (true, 4), (true, 5), (true, 6), (true, 7), (true, 8), (true, 9), (true, 10), (false, 11), (true, 12), (true, 13), (true, 14), (true, 15)] (by kernel_rfl) (by kernel_rfl) (fun _ _ d _ _ h => by cases d <;> exact h) ?_
      have hb : Below W2.heap.size W2 W2.drew := (Below.refl _ _).drew
      iterate 11
        first | refine wpS_takeL rfl rfl ?_ | refine wpS_takeN rfl ⟨_, rfl⟩ ?_
        go_big_quiet_step (rfl)
        refine wpQuiet_nil ?_
      refine wpS_doL rfl ?_
      intro K hK
      go_wp2_with ((go_at_call 52; (refine (Find_h 0 v ((DK O a b c 0) a) b 0 _ (HROW.out.of hb) HSR.out hln).mono ?_); rintro e w2 ⟨i, ok, rfl, hn, hi, hj, hok⟩))
      replace hb := hb.trans (hn.mono hb.size)
      refine hK.out _ _ (up_iff.2 hb) ?_
      clear hK K
      clear hn
      iterate 4
        first | refine wpS_takeL rfl rfl ?_ | refine wpS_takeN rfl ⟨_, rfl⟩ ?_
        go_big_quiet_step (rfl)
        refine wpQuiet_nil ?_
      refine wpS_nil ?_
      simp only [List.drop_succ_cons, List.drop_zero]
      have hmem := (look_mem HSR.out).2 HA0.out
      obtain ⟨jj, hjj⟩ := List.mem_iff_getElem?.1 hmem
      have hji : jj = i := by
        rcases Nat.lt_or_ge jj i with h | h
        · have := (hj jj _ hjj).1 h
          have h2 : (b : Int) < (b : Int) := this
          omega
        · rcases Nat.lt_or_ge i jj with h2 | h2
          · have h3 : i < ((DK O a b c 0) a).length := by have := (List.getElem?_eq_some_iff.1 hjj).1; omega
            have h4 := (hj i _ (List.getElem?_eq_getElem h3)).2 (Nat.le_refl _)
            have h5 := HSR.out i jj _ _ h2 (List.getElem?_eq_getElem h3) hjj
            have h6 : ((DK O a b c 0) a)[i].1 < b := h5
            omega
          · omega
      have hok2 : ok = true := hok.2 ⟨_, by rw [← hji]; exact hjj, rfl⟩
      rw [hji] at hjj
      have hil := (List.getElem?_eq_some_iff.1 hjj).1
      have HJ := Lib.hid hjj
      subst hok2
      clear hmem hji
      have HM4 := Lib.hid (HM2.out.of hb)
      have HF4 := Lib.hid (HF2.out.trans (Fr.ofBelow (S := fun _ => False) hb) (fun b hb => hb.elim))
      have HROW4 := Lib.hid (HROW.out.of hb)
      have KT4 := Lib.hid (KT.out.of hb)
      have hsz4 := Nat.le_trans hsz2 hb.size
      clear hb HM2 HF2 HROW KT c0 c1 c2 cr k0 k1 k2 lt lo lk hsz2 hj hok
      obtain ⟨c0, c1, c2⟩ := HM4.out.c
      have cr := HM4.out.row na
      rw [HV.out.2] at c1 cr
      rw [HV.out.1] at cr
      have k0 := KT4.out.cell 0
      have k1 := KT4.out.cell 1
      have k2 := KT4.out.cell 2
      have lt := HM4.out.lt (b := t) (.inl rfl)
      have lo : ob < w2.heap.size := by rw [← HV.out.2]; exact HM4.out.lt (.inr (.inl rfl))
      have lk := KT4.out.lt
      go_wp2_with fail
      obtain ⟨RL, hRL⟩ : ∃ RL, v.ownBlock.toList = RL := ⟨_, rfl⟩
      have hown : ∀ g, v.ownBlock = some g → g ≠ t ∧ g ≠ ob ∧ g ≠ wr.heap.size ∧ g < w2.heap.size := by
        intro g hgg
        obtain ⟨e1, e2, e3⟩ := HM4.out.rowne na (by rw [HV.out.1]; exact hgg)
        refine ⟨e1, by rw [← HV.out.2]; exact e2, fun e => ?_, e3⟩
        subst e
        exact absurd (HROW4.out.typ hgg KT4.out) (by decide)
      have nt : t ∉ RL := by rw [← hRL]; intro h; exact (hown t (by simpa using h)).1 rfl
      have no : ob ∉ RL := by rw [← hRL]; intro h; exact (hown ob (by simpa using h)).2.1 rfl
      have nk : wr.heap.size ∉ RL := by rw [← hRL]; intro h; exact (hown _ (by simpa using h)).2.2.1 rfl
      have HRL := Lib.hid hRL
      have HOWN := Lib.hid hown
      clear hRL hown
      have hic : (((DK O a b c 0) a).length : Int) ≤ 4096 := by
        have := sort_len HSR.out fun x hx => (HM4.out.dom a na x hx).1
        omega
      have hi1 : (i : Int) ≤ 4096 := by omega
      have hi2 : i ≤ 4096 := by omega
      have HIL := Lib.hid hil
      clear hic hjj hil
      refine wp_region_upl RL 18 [(true, 0), (true, 1), (true, 2), (true, 3), (true, 4), (true, 5), (true, 6), (true, 7), (true, 8), (true, 9), (true, 10), (true, 11), (true, 12), (true, 13), (true, 14), (true, 15), (true, 16), (false, 17)] (by kernel_rfl) (by kernel_rfl) (fun _ _ d _ _ h => by cases d <;> exact h) ?_
      have hb : OutL RL w2 w2.drew := (OutL.refl _ _).drew
      iterate 17
        first | refine wpS_takeL rfl rfl ?_ | refine wpS_takeN rfl ⟨_, rfl⟩ ?_
        go_big_quiet_step (rfl)
        refine wpQuiet_nil ?_
      refine wpS_doL rfl ?_
      intro K hK
      go_wp2_with fail
      refine (Delete_h 0 v ((DK O a b c 0) a) i w2.drew HROW4.out.drew HIL.out hln).mono ?_
      rintro e W5 ⟨v', rfl, hr5, hg5, hl5⟩
      obtain ⟨ao', cap', hv', _, _, _⟩ := hr5.val
      obtain ⟨nn, hnn⟩ : ∃ nn, (List.take i ((DK O a b c 0) a) ++ List.drop (i + 1) ((DK O a b c 0) a)).length = nn := ⟨_, rfl⟩
      rw [hnn] at hv'
      subst hv'
      clear hnn
      have hbo5 : OutL RL w2 W5 := hb.trans ⟨hg5.os, hg5.tape, hg5.output, hg5.size, fun k hk hc => hg5.block k hk fun e => hc (by rw [← HRL.out, ← e]; simp)⟩
      go_wp2_with fail
      refine hK.out _ _ (upl hbo5) ?_
      clear hK K
      have hfc : w2.cell? ⟨ob, a, none⟩ = some v := cr
      have cr5 : W5.cell? ⟨ob, a, none⟩ = some v := (World.cell?_of_block (a := ⟨ob, a, none⟩) (hbo5.block ob lo no)).trans hfc
      have fr5 : W5.frozen? ⟨ob, a, none⟩ = false := (World.frozen?_of_block (a := ⟨ob, a, none⟩) (hbo5.block ob lo no)).trans (by rw [← HV.out.2]; exact HM4.out.outf a)
      have hin := SM.set HM4.out na (v' := .slice ao' nn cap') (L' := delH b ((DK O a b c 0) a)) (w1 := W5) (by rw [← delH_at HSR.out HJ.out]; exact hr5) (by rw [HV.out.1]; exact ⟨hg5.os, hg5.tape, hg5.output, hg5.size, hg5.block⟩) (by rw [HV.out.1]; exact hl5) rfl (fun u hu => HM4.out.dom a na u (delH_sub hu)) (delH_sort HSR.out)
      rw [HV.out.2] at hin
      have HIN := Lib.hid hin
      have HFX := HF4
      clear hin hb hr5 hg5 hl5 hbo5 hfc c0 c1 c2 cr k0 k1 k2 lt lo lk nt no nk HJ HSR HM4 HROW4 HOWN HRL KT4 hi hln HIL hi1 hi2
      refine wpS_nil ?_
      simp only [List.drop_succ_cons, List.drop_zero]
      go_wp2_with fail
      go_roundg (2 - 0)
      case measure => omega
      case rel =>
        obtain ⟨D', h1, h2, h3, h4⟩ := HIN.out
        refine ⟨0 + 1, D', by rfl, by omega, by omega, Lib.hid h1, Lib.hid (HFX.out.trans h2 (fun b hb => ?_)), Lib.hid (fun g hgg => ?_), h4.trans hpo⟩
        · exact HH.out b hb
        · rcases h3 g hgg with h5 | h5
          · exact HH.out g h5
          · exact .inr (Nat.le_trans HFX.out.size h5)
    · have hix : ∀ w, Sem.run Try.prog (Instr.index 96 (sI a b c) (.int .i64 1)) w = .ok (tI b c a) w := fun w => side_at a b c 1 (by omega) w
      go_wp2_with fail
      refine name_world ?_
      intro W2 hW2
      have kt : Blk W2 wr.heap.size #[.int .i64 (b : Nat), .int .i64 (c : Nat), .int .i64 (a : Nat)] 36 := by rw [hW2]; exact Blk.new wr _ _
      have hbw : Below wr.heap.size wr W2 := by rw [hW2]; exact below_a1 wr _
      clear hW2
      have HM2 := Lib.hid (HM.out.of hbw)
      have HF2 := Lib.hid (HF.out.trans (Fr.ofBelow (S := fun _ => False) hbw) (fun b hb => hb.elim))
      have KT := Lib.hid kt
      have hsz2 : wr.heap.size ≤ W2.heap.size := hbw.size
      clear hbw kt HM HF
      obtain ⟨c0, c1, c2⟩ := HM2.out.c
      obtain ⟨v, hv⟩ : ∃ v, Dk.V b = v := ⟨_, rfl⟩
      have cr := HM2.out.row nb
      have hrow := HM2.out.rows b nb
      rw [hv] at cr hrow
      obtain ⟨ob, hob⟩ : ∃ ob, Dk.ob = ob := ⟨_, rfl⟩
      rw [hob] at cr c1
      have HROW := Lib.hid hrow
      have HSR := Lib.hid (HM2.out.sort b nb)
      have hln := HM2.out.len b nb
      have hsm := HM2.out.small
      have k0 := KT.out.cell 0
      have k1 := KT.out.cell 1
      have k2 := KT.out.cell 2
      have lt := HM2.out.lt (b := t) (.inl rfl)
      have lo : ob < W2.heap.size := by rw [← hob]; exact HM2.out.lt (.inr (.inl rfl))
      have lk := KT.out.lt
      have HV := Lib.hid (And.intro hv hob)
      clear hrow hv hob
      refine wp_region_up W2.heap.size 16 [(true, 0), (true, 1), (true, 2), (true, 3), (true, 4), (true, 5), (true, 6), (true, 7), (true, 8), (true, 9), (true, 10), (false, 11), (true, 12), (true, 13), (true, 14), (true, 15)] (by kernel_rfl) (by kernel_rfl) (fun _ _ d _ _ h => by cases d <;> exact h) ?_
      have hb : Below W2.heap.size W2 W2.drew := (Below.refl _ _).drew
      iterate 11
        first | refine wpS_takeL rfl rfl ?_ | refine wpS_takeN rfl ⟨_, rfl⟩ ?_
        go_big_quiet_step (rfl)
        refine wpQuiet_nil ?_
      refine wpS_doL rfl ?_
      intro K hK
      go_wp2_with ((go_at_call 52; (refine (Find_h 0 v ((DK O a b c 1) b) c 0 _ (HROW.out.of hb) HSR.out hln).mono ?_); rintro e w2 ⟨i, ok, rfl, hn, hi, hj, hok⟩))
      replace hb := hb.trans (hn.mono hb.size)
      refine hK.out _ _ (up_iff.2 hb) ?_
      clear hK K
      clear hn
      iterate 4
        first | refine wpS_takeL rfl rfl ?_ | refine wpS_takeN rfl ⟨_, rfl⟩ ?_
        go_big_quiet_step (rfl)
        refine wpQuiet_nil ?_
      refine wpS_nil ?_
      simp only [List.drop_succ_cons, List.drop_zero]
      have hmem := (look_mem HSR.out).2 HA1.out
      obtain ⟨jj, hjj⟩ := List.mem_iff_getElem?.1 hmem
      have hji : jj = i := by
        rcases Nat.lt_or_ge jj i with h | h
        · have := (hj jj _ hjj).1 h
          have h2 : (c : Int) < (c : Int) := this
          omega
        · rcases Nat.lt_or_ge i jj with h2 | h2
          · have h3 : i < ((DK O a b c 1) b).length := by have := (List.getElem?_eq_some_iff.1 hjj).1; omega
            have h4 := (hj i _ (List.getElem?_eq_getElem h3)).2 (Nat.le_refl _)
            have h5 := HSR.out i jj _ _ h2 (List.getElem?_eq_getElem h3) hjj
            have h6 : ((DK O a b c 1) b)[i].1 < c := h5
            omega
          · omega
      have hok2 : ok = true := hok.2 ⟨_, by rw [← hji]; exact hjj, rfl⟩
      rw [hji] at hjj
      have hil := (List.getElem?_eq_some_iff.1 hjj).1
      have HJ := Lib.hid hjj
      subst hok2
      clear hmem hji
      have HM4 := Lib.hid (HM2.out.of hb)
      have HF4 := Lib.hid (HF2.out.trans (Fr.ofBelow (S := fun _ => False) hb) (fun b hb => hb.elim))
      have HROW4 := Lib.hid (HROW.out.of hb)
      have KT4 := Lib.hid (KT.out.of hb)
      have hsz4 := Nat.le_trans hsz2 hb.size
      clear hb HM2 HF2 HROW KT c0 c1 c2 cr k0 k1 k2 lt lo lk hsz2 hj hok
      obtain ⟨c0, c1, c2⟩ := HM4.out.c
      have cr := HM4.out.row nb
      rw [HV.out.2] at c1 cr
      rw [HV.out.1] at cr
      have k0 := KT4.out.cell 0
      have k1 := KT4.out.cell 1
      have k2 := KT4.out.cell 2
      have lt := HM4.out.lt (b := t) (.inl rfl)
      have lo : ob < w2.heap.size := by rw [← HV.out.2]; exact HM4.out.lt (.inr (.inl rfl))
      have lk := KT4.out.lt
      go_wp2_with fail
      obtain ⟨RL, hRL⟩ : ∃ RL, v.ownBlock.toList = RL := ⟨_, rfl⟩
      have hown : ∀ g, v.ownBlock = some g → g ≠ t ∧ g ≠ ob ∧ g ≠ wr.heap.size ∧ g < w2.heap.size := by
        intro g hgg
        obtain ⟨e1, e2, e3⟩ := HM4.out.rowne nb (by rw [HV.out.1]; exact hgg)
        refine ⟨e1, by rw [← HV.out.2]; exact e2, fun e => ?_, e3⟩
        subst e
        exact absurd (HROW4.out.typ hgg KT4.out) (by decide)
      have nt : t ∉ RL := by rw [← hRL]; intro h; exact (hown t (by simpa using h)).1 rfl
      have no : ob ∉ RL := by rw [← hRL]; intro h; exact (hown ob (by simpa using h)).2.1 rfl
      have nk : wr.heap.size ∉ RL := by rw [← hRL]; intro h; exact (hown _ (by simpa using h)).2.2.1 rfl
      have HRL := Lib.hid hRL
      have HOWN := Lib.hid hown
      clear hRL hown
      have hic : (((DK O a b c 1) b).length : Int) ≤ 4096 := by
        have := sort_len HSR.out fun x hx => (HM4.out.dom b nb x hx).1
        omega
      have hi1 : (i : Int) ≤ 4096 := by omega
      have hi2 : i ≤ 4096 := by omega
      have HIL := Lib.hid hil
      clear hic hjj hil
      refine wp_region_upl RL 18 [(true, 0), (true, 1), (true, 2), (true, 3), (true, 4), (true, 5), (true, 6), (true, 7), (true, 8), (true, 9), (true, 10), (true, 11), (true, 12), (true, 13), (true, 14), (true, 15), (true, 16), (false, 17)] (by kernel_rfl) (by kernel_rfl) (fun _ _ d _ _ h => by cases d <;> exact h) ?_
      have hb : OutL RL w2 w2.drew := (OutL.refl _ _).drew
      iterate 17
        first | refine wpS_takeL rfl rfl ?_ | refine wpS_takeN rfl ⟨_, rfl⟩ ?_
        go_big_quiet_step (rfl)
        refine wpQuiet_nil ?_
      refine wpS_doL rfl ?_
      intro K hK
      go_wp2_with fail
      refine (Delete_h 0 v ((DK O a b c 1) b) i w2.drew HROW4.out.drew HIL.out hln).mono ?_
      rintro e W5 ⟨v', rfl, hr5, hg5, hl5⟩
      obtain ⟨ao', cap', hv', _, _, _⟩ := hr5.val
      obtain ⟨nn, hnn⟩ : ∃ nn, (List.take i ((DK O a b c 1) b) ++ List.drop (i + 1) ((DK O a b c 1) b)).length = nn := ⟨_, rfl⟩
      rw [hnn] at hv'
      subst hv'
      clear hnn
      have hbo5 : OutL RL w2 W5 := hb.trans ⟨hg5.os, hg5.tape, hg5.output, hg5.size, fun k hk hc => hg5.block k hk fun e => hc (by rw [← HRL.out, ← e]; simp)⟩
      go_wp2_with fail
      refine hK.out _ _ (upl hbo5) ?_
      clear hK K
      have hfc : w2.cell? ⟨ob, b, none⟩ = some v := cr
      have cr5 : W5.cell? ⟨ob, b, none⟩ = some v := (World.cell?_of_block (a := ⟨ob, b, none⟩) (hbo5.block ob lo no)).trans hfc
      have fr5 : W5.frozen? ⟨ob, b, none⟩ = false := (World.frozen?_of_block (a := ⟨ob, b, none⟩) (hbo5.block ob lo no)).trans (by rw [← HV.out.2]; exact HM4.out.outf b)
      have hin := SM.set HM4.out nb (v' := .slice ao' nn cap') (L' := delH c ((DK O a b c 1) b)) (w1 := W5) (by rw [← delH_at HSR.out HJ.out]; exact hr5) (by rw [HV.out.1]; exact ⟨hg5.os, hg5.tape, hg5.output, hg5.size, hg5.block⟩) (by rw [HV.out.1]; exact hl5) rfl (fun u hu => HM4.out.dom b nb u (delH_sub hu)) (delH_sort HSR.out)
      rw [HV.out.2] at hin
      have HIN := Lib.hid hin
      have HFX := HF4
      clear hin hb hr5 hg5 hl5 hbo5 hfc c0 c1 c2 cr k0 k1 k2 lt lo lk nt no nk HJ HSR HM4 HROW4 HOWN HRL KT4 hi hln HIL hi1 hi2
      refine wpS_nil ?_
      simp only [List.drop_succ_cons, List.drop_zero]
      go_wp2_with fail
      go_roundg (2 - 1)
      case measure => omega
      case rel =>
        obtain ⟨D', h1, h2, h3, h4⟩ := HIN.out
        refine ⟨1 + 1, D', by rfl, by omega, by omega, Lib.hid h1, Lib.hid (HFX.out.trans h2 (fun b hb => ?_)), Lib.hid (fun g hgg => ?_), h4.trans hpo⟩
        · exact HH.out b hb
        · rcases h3 g hgg with h5 | h5
          · exact HH.out g h5
          · exact .inr (Nat.le_trans HFX.out.size h5)
    · have hix : ∀ w, Sem.run Try.prog (Instr.index 96 (sI a b c) (.int .i64 2)) w = .ok (tI c a b) w := fun w => side_at a b c 2 (by omega) w
      go_wp2_with fail
      refine name_world ?_
      intro W2 hW2
      have kt : Blk W2 wr.heap.size #[.int .i64 (c : Nat), .int .i64 (a : Nat), .int .i64 (b : Nat)] 36 := by rw [hW2]; exact Blk.new wr _ _
      have hbw : Below wr.heap.size wr W2 := by rw [hW2]; exact below_a1 wr _
      clear hW2
      have HM2 := Lib.hid (HM.out.of hbw)
      have HF2 := Lib.hid (HF.out.trans (Fr.ofBelow (S := fun _ => False) hbw) (fun b hb => hb.elim))
      have KT := Lib.hid kt
      have hsz2 : wr.heap.size ≤ W2.heap.size := hbw.size
      clear hbw kt HM HF
      obtain ⟨c0, c1, c2⟩ := HM2.out.c
      obtain ⟨v, hv⟩ : ∃ v, Dk.V c = v := ⟨_, rfl⟩
      have cr := HM2.out.row nc
      have hrow := HM2.out.rows c nc
      rw [hv] at cr hrow
      obtain ⟨ob, hob⟩ : ∃ ob, Dk.ob = ob := ⟨_, rfl⟩
      rw [hob] at cr c1
      have HROW := Lib.hid hrow
      have HSR := Lib.hid (HM2.out.sort c nc)
      have hln := HM2.out.len c nc
      have hsm := HM2.out.small
      have k0 := KT.out.cell 0
      have k1 := KT.out.cell 1
      have k2 := KT.out.cell 2
      have lt := HM2.out.lt (b := t) (.inl rfl)
      have lo : ob < W2.heap.size := by rw [← hob]; exact HM2.out.lt (.inr (.inl rfl))
      have lk := KT.out.lt
      have HV := Lib.hid (And.intro hv hob)
      clear hrow hv hob
      refine wp_region_up W2.heap.size 16 [(true, 0), (true, 1), (true, 2), (true, 3), (true, 4), (true, 5), (true, 6), (true, 7), (true, 8), (true, 9), (true, 10), (false, 11), (true, 12), (true, 13), (true, 14), (true, 15)] (by kernel_rfl) (by kernel_rfl) (fun _ _ d _ _ h => by cases d <;> exact h) ?_
      have hb : Below W2.heap.size W2 W2.drew := (Below.refl _ _).drew
      iterate 11
        first | refine wpS_takeL rfl rfl ?_ | refine wpS_takeN rfl ⟨_, rfl⟩ ?_
        go_big_quiet_step (rfl)
        refine wpQuiet_nil ?_
      refine wpS_doL rfl ?_
      intro K hK
      go_wp2_with ((go_at_call 52; (refine (Find_h 0 v ((DK O a b c 2) c) a 0 _ (HROW.out.of hb) HSR.out hln).mono ?_); rintro e w2 ⟨i, ok, rfl, hn, hi, hj, hok⟩))
      replace hb := hb.trans (hn.mono hb.size)
      refine hK.out _ _ (up_iff.2 hb) ?_
      clear hK K
      clear hn
      iterate 4
        first | refine wpS_takeL rfl rfl ?_ | refine wpS_takeN rfl ⟨_, rfl⟩ ?_
        go_big_quiet_step (rfl)
        refine wpQuiet_nil ?_
      refine wpS_nil ?_
      simp only [List.drop_succ_cons, List.drop_zero]
      have hmem := (look_mem HSR.out).2 HA2.out
      obtain ⟨jj, hjj⟩ := List.mem_iff_getElem?.1 hmem
      have hji : jj = i := by
        rcases Nat.lt_or_ge jj i with h | h
        · have := (hj jj _ hjj).1 h
          have h2 : (a : Int) < (a : Int) := this
          omega
        · rcases Nat.lt_or_ge i jj with h2 | h2
          · have h3 : i < ((DK O a b c 2) c).length := by have := (List.getElem?_eq_some_iff.1 hjj).1; omega
            have h4 := (hj i _ (List.getElem?_eq_getElem h3)).2 (Nat.le_refl _)
            have h5 := HSR.out i jj _ _ h2 (List.getElem?_eq_getElem h3) hjj
            have h6 : ((DK O a b c 2) c)[i].1 < a := h5
            omega
          · omega
      have hok2 : ok = true := hok.2 ⟨_, by rw [← hji]; exact hjj, rfl⟩
      rw [hji] at hjj
      have hil := (List.getElem?_eq_some_iff.1 hjj).1
      have HJ := Lib.hid hjj
      subst hok2
      clear hmem hji
      have HM4 := Lib.hid (HM2.out.of hb)
      have HF4 := Lib.hid (HF2.out.trans (Fr.ofBelow (S := fun _ => False) hb) (fun b hb => hb.elim))
      have HROW4 := Lib.hid (HROW.out.of hb)
      have KT4 := Lib.hid (KT.out.of hb)
      have hsz4 := Nat.le_trans hsz2 hb.size
      clear hb HM2 HF2 HROW KT c0 c1 c2 cr k0 k1 k2 lt lo lk hsz2 hj hok
      obtain ⟨c0, c1, c2⟩ := HM4.out.c
      have cr := HM4.out.row nc
      rw [HV.out.2] at c1 cr
      rw [HV.out.1] at cr
      have k0 := KT4.out.cell 0
      have k1 := KT4.out.cell 1
      have k2 := KT4.out.cell 2
      have lt := HM4.out.lt (b := t) (.inl rfl)
      have lo : ob < w2.heap.size := by rw [← HV.out.2]; exact HM4.out.lt (.inr (.inl rfl))
      have lk := KT4.out.lt
      go_wp2_with fail
      obtain ⟨RL, hRL⟩ : ∃ RL, v.ownBlock.toList = RL := ⟨_, rfl⟩
      have hown : ∀ g, v.ownBlock = some g → g ≠ t ∧ g ≠ ob ∧ g ≠ wr.heap.size ∧ g < w2.heap.size := by
        intro g hgg
        obtain ⟨e1, e2, e3⟩ := HM4.out.rowne nc (by rw [HV.out.1]; exact hgg)
        refine ⟨e1, by rw [← HV.out.2]; exact e2, fun e => ?_, e3⟩
        subst e
        exact absurd (HROW4.out.typ hgg KT4.out) (by decide)
      have nt : t ∉ RL := by rw [← hRL]; intro h; exact (hown t (by simpa using h)).1 rfl
      have no : ob ∉ RL := by rw [← hRL]; intro h; exact (hown ob (by simpa using h)).2.1 rfl
      have nk : wr.heap.size ∉ RL := by rw [← hRL]; intro h; exact (hown _ (by simpa using h)).2.2.1 rfl
      have HRL := Lib.hid hRL
      have HOWN := Lib.hid hown
      clear hRL hown
      have hic : (((DK O a b c 2) c).length : Int) ≤ 4096 := by
        have := sort_len HSR.out fun x hx => (HM4.out.dom c nc x hx).1
        omega
      have hi1 : (i : Int) ≤ 4096 := by omega
      have hi2 : i ≤ 4096 := by omega
      have HIL := Lib.hid hil
      clear hic hjj hil
      refine wp_region_upl RL 18 [(true, 0), (true, 1), (true, 2), (true, 3), (true, 4), (true, 5), (true, 6), (true, 7), (true, 8), (true, 9), (true, 10), (true, 11), (true, 12), (true, 13), (true, 14), (true, 15), (true, 16), (false, 17)] (by kernel_rfl) (by kernel_rfl) (fun _ _ d _ _ h => by cases d <;> exact h) ?_
      have hb : OutL RL w2 w2.drew := (OutL.refl _ _).drew
      iterate 17
        first | refine wpS_takeL rfl rfl ?_ | refine wpS_takeN rfl ⟨_, rfl⟩ ?_
        go_big_quiet_step (rfl)
        refine wpQuiet_nil ?_
      refine wpS_doL rfl ?_
      intro K hK
      go_wp2_with fail
      refine (Delete_h 0 v ((DK O a b c 2) c) i w2.drew HROW4.out.drew HIL.out hln).mono ?_
      rintro e W5 ⟨v', rfl, hr5, hg5, hl5⟩
      obtain ⟨ao', cap', hv', _, _, _⟩ := hr5.val
      obtain ⟨nn, hnn⟩ : ∃ nn, (List.take i ((DK O a b c 2) c) ++ List.drop (i + 1) ((DK O a b c 2) c)).length = nn := ⟨_, rfl⟩
      rw [hnn] at hv'
      subst hv'
      clear hnn
      have hbo5 : OutL RL w2 W5 := hb.trans ⟨hg5.os, hg5.tape, hg5.output, hg5.size, fun k hk hc => hg5.block k hk fun e => hc (by rw [← HRL.out, ← e]; simp)⟩
      go_wp2_with fail
      refine hK.out _ _ (upl hbo5) ?_
      clear hK K
      have hfc : w2.cell? ⟨ob, c, none⟩ = some v := cr
      have cr5 : W5.cell? ⟨ob, c, none⟩ = some v := (World.cell?_of_block (a := ⟨ob, c, none⟩) (hbo5.block ob lo no)).trans hfc
      have fr5 : W5.frozen? ⟨ob, c, none⟩ = false := (World.frozen?_of_block (a := ⟨ob, c, none⟩) (hbo5.block ob lo no)).trans (by rw [← HV.out.2]; exact HM4.out.outf c)
      have hin := SM.set HM4.out nc (v' := .slice ao' nn cap') (L' := delH a ((DK O a b c 2) c)) (w1 := W5) (by rw [← delH_at HSR.out HJ.out]; exact hr5) (by rw [HV.out.1]; exact ⟨hg5.os, hg5.tape, hg5.output, hg5.size, hg5.block⟩) (by rw [HV.out.1]; exact hl5) rfl (fun u hu => HM4.out.dom c nc u (delH_sub hu)) (delH_sort HSR.out)
      rw [HV.out.2] at hin
      have HIN := Lib.hid hin
      have HFX := HF4
      clear hin hb hr5 hg5 hl5 hbo5 hfc c0 c1 c2 cr k0 k1 k2 lt lo lk nt no nk HJ HSR HM4 HROW4 HOWN HRL KT4 hi hln HIL hi1 hi2
      refine wpS_nil ?_
      simp only [List.drop_succ_cons, List.drop_zero]
      go_wp2_with fail
      go_roundg (2 - 2)
      case measure => omega
      case rel =>
        obtain ⟨D', h1, h2, h3, h4⟩ := HIN.out
        refine ⟨2 + 1, D', by rfl, by omega, by omega, Lib.hid h1, Lib.hid (HFX.out.trans h2 (fun b hb => ?_)), Lib.hid (fun g hgg => ?_), h4.trans hpo⟩
        · exact HH.out b hb
        · rcases h3 g hgg with h5 | h5
          · exact HH.out g h5
          · exact .inr (Nat.le_trans HFX.out.size h5)
    · obtain ⟨c0, c1, c2⟩ := HM.out.c
      have f2 := HM.out.blk.free 2
      have hw : wrap64 (n - 1) = n - 1 := by unfold wrap64; omega
      have HN := Lib.hid (SM.setn HM.out (n - 1))
      go_wp2_with fail
      simp [bodyPost, results, Try.results33, go_sem]
      exact ⟨Dk, HN.out.1, HF.out.trans HN.out.2 (fun b hb => HH.out b (.inl hb)), HH.out, hpo⟩
end Go.Proofs.Ytdlpfiiakmhnlaa

namespace Go.Proofs.Ytdlpfiiakmhnlaa
open Go.RowKit Go.Shelf
attribute [local go_sem] Oper.semAt_some

/-- a store without points -/
def S0 (w : World) (t : Nat) (po : Option Addr) (pc : Nat) (vo : Value) (n : Int) : Prop := Blk w t #[.slice po (0 : Nat) pc, vo, .int .i64 n] 87
set_option maxRecDepth 100000 in
set_option maxHeartbeats 2000000 in
theorem All10_any (m lid bs t B : Nat) (po : Option Addr) (pc : Nat) (ao : Option Addr) (l c : Nat) (n : Int) (I : (Nat → Prop) → Nat → World → Prop) (Ix : Nat → World → Prop)
    (hm : ∀ G k W, I G k W → Blk W bs #[ptr t 0] 25 ∧ S0 W t po pc (.slice ao l c) n) (hst : ∀ G k W W', I G k W → BelowX B G W W' → I G k W')
    (W : World) (hB : B ≤ W.heap.size) (h0 : I (fun _ => False) 0 W) :
    CallsIn Fence.wide (m + 1) Try.prog 63 #[.func (.yield lid) #[] #[], ptr bs 0] W fun e W' => (∃ v, e = .returned v) ∧ ((∃ G, I G 0 W') ∨ ∃ k, k ≤ 0 ∧ Ix k W') := by
  refine callsIn_wide.2 ((callsIn_wide (n := 3)).1 ?_)
  refine callsIn_of_wp_marks Try.func63 rfl trivial ?_ rfl
  simp only [Try.ntmps63, List.size_toArray, List.length_cons, List.length_nil, Nat.reduceAdd, Nat.reduceSub, Array.replicate_succ, Array.replicate_zero, List.push_toArray, List.append_toArray, List.nil_append, List.cons_append]
  obtain ⟨ks, kt⟩ := hm _ 0 W h0
  unfold S0 at kt
  have lb := ks.lt
  have lt := kt.lt
  have b0 := ks.cell 0
  have c0 := kt.cell 0
  simp only [List.getElem?_toArray, List.getElem?_cons_zero] at b0 c0
  have H0 := Lib.hid h0
  have HH := Lib.hid hst
  have hbs : bs ≠ W.heap.size := by omega
  have htn : t ≠ W.heap.size := by omega
  clear hm hst h0 ks kt
  gi_wp2_with fail
  have hbV := below_a1 W (.cells #[.func (.yield lid) #[] #[]] 117)
  have H1 := Lib.hid (HH.out _ 0 W _ H0.out (.all hbV hB))
  clear hbV b0 c0
  refine wpIn_loop_ghost_k (fun gk act wr => act = _ ∧ wr = _) 0 ⟨rfl, rfl⟩ ?_
  intro gk act wr hinv J K hJ hK
  obtain ⟨rfl, rfl⟩ := hinv
  gi_wp2
  exact ⟨_, results_none rfl _ _ _, ⟨_, rfl⟩, .inl ⟨_, H1.out⟩⟩
theorem All10_tells (bs t : Nat) (po : Option Addr) (pc : Nat) (ao : Option Addr) (l c : Nat) (n : Int) (B : Nat) :
    TellsX Try.prog 63 #[ptr bs 0] 0 (allE []) B (fun W => Blk W bs #[ptr t 0] 25 ∧ S0 W t po pc (.slice ao l c) n) :=
  fun m lid I Ix hK hG hst hxst hY W hB h0 => All10_any m lid bs t B po pc ao l c n I Ix hK hst W hB h0
set_option maxRecDepth 100000 in
set_option maxHeartbeats 2000000 in
theorem all0_is (t : Nat) (po : Option Addr) (pc : Nat) (ao : Option Addr) (l c : Nat) (n : Int) (w : World) (h : S0 w t po pc (.slice ao l c) n) :
    Calls Try.prog 18 #[ptr t 0] w fun e w' => ∃ v, e = .returned v ∧ TL w' w.heap.size v [] ∧ Below w.heap.size w w' := by
  have HS := Lib.hid h
  clear h
  refine (callsIn_wide (n := 3)).1 ?_
  refine callsIn_of_wp_marks Try.func18 rfl trivial ?_ rfl
  simp only [Try.ntmps18, List.size_toArray, List.length_cons, List.length_nil, Nat.reduceAdd, Nat.reduceSub, Array.replicate_succ, Array.replicate_zero, List.push_toArray, List.append_toArray, List.nil_append, List.cons_append]
  gi_wp2_with fail
  refine ⟨trivial, callsIn_wide.2 ?_⟩
  refine calls_w ?_
  intro V hV
  have kO : Blk V w.heap.size #[.slice none 0 0] 38 := by rw [hV]; exact Blk.new w _ _
  have hbV : Below w.heap.size w V := by rw [hV]; exact below_a1 _ _
  clear hV
  refine (All_is t V).mono ?_
  rintro e V2 ⟨rfl, kS, hb2⟩
  have kO2 := kO.of hb2
  have S2 := Lib.hid ((show Blk w t _ _ from HS.out).of (hbV.trans (hb2.mono hbV.size)))
  have hbw2 := hbV.trans (hb2.mono hbV.size)
  have z1 := kO.lt
  have z2 := kS.lt
  have zt := (show Blk w t _ _ from HS.out).lt
  obtain ⟨ob, eob⟩ : ∃ b, w.heap.size = b := ⟨_, rfl⟩
  obtain ⟨bs, ebs⟩ : ∃ b, V.heap.size = b := ⟨_, rfl⟩
  have o1 : ob < bs := by omega
  have o2 : w.heap.size ≤ ob := by omega
  rw [ebs] at kS z2 ⊢
  rw [eob] at kO2
  rw [show w.heap.size = ob from eob]
  clear kO ebs eob hb2 hbV z1
  gi_wp2_with fail
  have hwV := hbw2.size
  have zt2 : t < w.heap.size := (show Blk w t _ _ from HS.out).lt
  refine wpIn_rangeX (m := 1) (gf := 63) (lb := #[ptr bs 0]) (N := 0) (encs := allE []) (Kp := fun W => Blk W bs #[ptr t 0] 25 ∧ S0 W t po pc (.slice ao l c) n) rfl (fun args w => by go_simp) (All10_tells bs t po pc ao l c n _) (fun _ => rfl)
    (fun G k W => ∃ v, Blk W ob #[v] 38 ∧ TL W (V2.heap.size + 2) v [] ∧ Blk W bs #[ptr t 0] 25 ∧ Below w.heap.size w W ∧ ∀ g, G g ↔ v.ownBlock = some g)
    (fun _ _ _ => False) ?hg ?stable (fun _ _ _ _ h _ => h.elim) ?keeps ?start ?round ?done (fun _ _ _ _ _ h _ => h.elim)
  case hg =>
    rintro G k W ⟨v, j1, j2, j3, j4, j5⟩ g hg
    exact j2.lt ((j5 g).1 hg)
  case stable =>
    rintro G k W W' ⟨v, j1, j2, j3, j4, j5⟩ ⟨hbl, hbg⟩
    exact ⟨v, j1.below hbl (by omega), j2.of fun g hg => hbg g ((j5 g).2 hg) (j2.lt hg).2, j3.below hbl (by omega), j4.trans (hbl.mono (by omega)), j5⟩
  case keeps =>
    rintro G k W ⟨v, j1, j2, j3, j4, j5⟩
    exact ⟨j3, (show Blk w t _ _ from HS.out).of j4⟩
  case start => exact ⟨_, kO2, TL.none, kS, hbw2, fun g => ⟨fun h => h.elim, fun h => by cases h⟩⟩
  case round =>
    rintro l2 D2 k G W2 hk
    omega
  case done =>
    rintro Dd G V5 g1 ⟨v, j1, j2, j3, j4, j5⟩ hD
    have c0 := j1.cell 0
    simp only [List.getElem?_toArray, List.getElem?_cons_zero] at c0
    have l0 := j1.lt
    have JJ := Lib.hid (And.intro j2 j4)
    clear j1 j2 j3 j4 j5
    gi_wp2
    refine ⟨by simp, .inl ⟨_, _, rfl, run_takeDeferred hD, ?_⟩⟩
    simp only [LeavesInM, LeavesIn]
    refine ⟨v, by simp [results, Try.results18, go_sem], v, rfl, ?_, ?_⟩
    · have h1 : TL (V5.putObj Dd (.deferred none)) (V2.heap.size + 2) v [] := JJ.out.1.of fun g hg => World.putObj_heap_other (by have := (JJ.out.1.lt hg).1; omega)
      rcases h1.2 with h2 | ⟨g, cap, cur, e1, e2, e3, e4⟩
      · exact ⟨h1.1, .inl h2⟩
      · exact ⟨h1.1, .inr ⟨g, cap, cur, e1, by omega, e3, e4⟩⟩
    · exact JJ.out.2.trans ((putObj_out V5 Dd _).below (by have := JJ.out.2.size; omega) (by simp; omega))
set_option maxRecDepth 100000 in
theorem Len0_is (t : Nat) (po : Option Addr) (pc : Nat) (vo : Value) (n : Int) (w : World) (h : S0 w t po pc vo n) (hv : vo.oneCell' = true) :
    Calls Try.prog 30 #[ptr t 0] w fun e w' => e = .returned (.int .i64 n) ∧ Below w.heap.size w w' := by
  have c2 := Blk.cell h 2
  have lt := Blk.lt h
  simp only [List.getElem?_toArray, List.getElem?_cons_zero, List.getElem?_cons_succ] at c2
  clear h
  go_enter Try.func30, Try.ntmps30
  go_wp2
  go_ret
  exact ⟨rfl, Below.refl _ _⟩
end Go.Proofs.Ytdlpfiiakmhnlaa

namespace Go.Proofs.Ytdlpfiiakmhnlaa
open Go.RowKit

set_option maxRecDepth 100000 in
set_option maxHeartbeats 1000000 in
theorem CloneH_is (v : Value) (base : Nat) (L : List (Nat × Nat)) (w : World) (h : HRow w base v L) (hn : L.length ≤ 1000000) :
    Calls Try.prog 68 #[v] w fun e w' => ∃ v', e = .returned v' ∧ HRow w' w.heap.size v' L ∧ Below w.heap.size w w' := by
  obtain ⟨i0, hi, hz0, hz1, hz2⟩ := info_parts info_half
  rcases h.2 with ⟨rfl, hn0⟩ | ⟨g, cap, cur, rfl, hbg, hg, hnc, hcap, hcs, htk⟩
  · have heq : ∀ n w, Sem.run Try.prog (binOp BinOp.eql 103 (.slice none n 0) (.slice none 0 0)) w = .ok (.bool true) w := fun n w => by kernel_rfl
    have hL : L = [] := List.eq_nil_of_length_eq_zero hn0
    subst hL
    clear h
    go_enter Try.func68, Try.ntmps68
    go_wp2
    go_ret
    exact ⟨_, rfl, ⟨rfl, .inl ⟨rfl, rfl⟩⟩, Below.refl _ _⟩
  · have heq : ∀ w, Sem.run Try.prog (binOp BinOp.eql 103 (.slice (some ⟨g, 0, none⟩) L.length cap) (.slice none 0 0)) w = .ok (.bool false) w := fun w => by kernel_rfl
    have hgl := (Array.getElem?_eq_some_iff.1 hg).1
    have hsrc : ∀ c j u, (hC L)[j]? = some u → (w.alloc (.cells c 102)).cell? ((⟨g, 0, none⟩ : Addr).add j) = some u := fun c j u hj => by
      have hjl : j < L.length * 2 := by rw [← hC_len]; exact (List.getElem?_eq_some_iff.1 hj).1
      have e : (⟨g, 0, none⟩ : Addr).add j = ⟨g, j, none⟩ := by rw [add_pl, Nat.zero_add]
      rw [e, (below_a1 w _).cell (p := ⟨g, j, none⟩) hgl, cell_row hg, ← Array.getElem?_toList]
      rw [← htk, List.getElem?_take_of_lt (by omega)] at hj
      exact hj
    have hc63 : cap ≤ 9223372036854775807 := by unfold maxLen at hcap; omega
    have HS := Lib.hid hsrc
    clear hsrc h htk hg hcs
    go_enter Try.func68, Try.ntmps68
    go_wp2_with (at_builtin; go_loud (refine wpList_append_lies _ rfl _ _ 103 rfl w.heap.size 102 i0 (.agg #[.int .i64 0, .int .i64 0]) 2 16 Try.underlying103 hi hz0 hz1 hz2 rfl (by decide) (.slice (some ⟨w.heap.size, 0, none⟩) 0 0) 0 [] rfl ⟨rfl, .inr ⟨w.heap.size, 0, #[], rfl, Nat.le_refl _, heap_alloc_new w _, Nat.le_refl _, by decide, rfl, rfl⟩⟩ ⟨g, 0, none⟩ L.length cap (hC L) rfl (by rw [hC_len]) (HS.out _) (hC_one L) (by unfold maxLen; omega) (by omega) (by simp) ?_))
    intro v' w' own gr _
    have HO : Hid (HRow w' w.heap.size v' L) := Lib.hid (by unfold HRow; exact own)
    have hb : Below w.heap.size w w' := (below_a1 w _).trans ((Below.refl _ _).grown gr (by simp) (fun k hk => by cases hk; exact Nat.le_refl _))
    clear own gr
    go_wp2
    go_ret
    exact ⟨_, rfl, HO.out, hb⟩
end Go.Proofs.Ytdlpfiiakmhnlaa

namespace Go.Proofs.Ytdlpfiiakmhnlaa
open Go.RowKit

/-- a store half copied: k rows -/
structure CP (B : Nat) (w : World) (cb : Nat) (po : Option Addr) (pc : Nat) (vo : Value) (VS : Nat → Value) (N k : Nat) (X Y : Nat → Int) (O : Nat → List (Nat × Nat)) (n : Int) : Prop where
  blk : Blk w cb #[.slice po N pc, vo, .int .i64 n] 87
  pts : PO w B (.slice po N pc) N X Y
  out : w.ownsRow B 103 1 vo k ((List.range k).map VS)
  rows : ∀ a, a < k → HRow w B (VS a) (O a)
  apart : ∀ a b g, a < k → b < k → a ≠ b → (VS a).ownBlock = some g → (VS b).ownBlock ≠ some g
  lo : B ≤ cb
theorem own_keep {w w' : World} {base : Nat} {ty : TypeId} {s : Nat} {v : Value} {k : Nat} {L : List Value} (h : w.ownsRow base ty s v k L) (hk : ∀ g, v.ownBlock = some g → w'.heap[g]? = w.heap[g]?) : w'.ownsRow base ty s v k L := by
  refine ⟨h.1, h.2.imp id ?_⟩
  rintro ⟨g, cap, cur, rfl, hb, hg, r⟩
  exact ⟨g, cap, cur, rfl, hb, (hk g rfl).trans hg, r⟩
theorem own_low {w : World} {base base' : Nat} {ty : TypeId} {s : Nat} {v : Value} {k : Nat} {L : List Value} (h : w.ownsRow base ty s v k L) (hb : base' ≤ base) : w.ownsRow base' ty s v k L := by
  refine ⟨h.1, h.2.imp id ?_⟩
  rintro ⟨g, cap, cur, rfl, hg, r⟩
  exact ⟨g, cap, cur, rfl, Nat.le_trans hb hg, r⟩
theorem own_typ {w : World} {base : Nat} {ty : TypeId} {s : Nat} {v : Value} {k : Nat} {L : List Value} (h : w.ownsRow base ty s v k L) {g : Nat} (hg : v.ownBlock = some g) : ∃ cur, w.heap[g]? = some (.cells cur ty (0, 0)) := by
  rcases h.2 with ⟨rfl, _⟩ | ⟨g', cap, cur, rfl, _, h1, _⟩
  · cases hg
  · cases hg; exact ⟨cur, h1⟩
theorem typ_ne {w : World} {g g' : Nat} {c c' : Array Value} {t t' : TypeId} (h : w.heap[g]? = some (.cells c t (0, 0))) (h' : w.heap[g']? = some (.cells c' t' (0, 0))) (hne : t ≠ t') : g ≠ g' := by
  rintro rfl
  rw [h] at h'; injection h' with h'; injection h' with _ e; exact hne e
theorem CP.of {B : Nat} {w w' : World} {cb : Nat} {po : Option Addr} {pc : Nat} {vo : Value} {VS : Nat → Value} {N k : Nat} {X Y : Nat → Int} {O : Nat → List (Nat × Nat)} {n : Int} (h : CP B w cb po pc vo VS N k X Y O n) (hb : Below w.heap.size w w') : CP B w' cb po pc vo VS N k X Y O n :=
  ⟨h.blk.of hb, own_keep h.pts fun g hg => hb.block g (World.ownsRow.lt h.pts g hg).2, own_keep h.out fun g hg => hb.block g (World.ownsRow.lt h.out g hg).2, fun a ha => (h.rows a ha).of hb, h.apart, h.lo⟩
/-- one row more -/
theorem CP.add {B : Nat} {w1 w2 : World} {cb : Nat} {po : Option Addr} {pc : Nat} {vo : Value} {VS : Nat → Value} {N k : Nat} {X Y : Nat → Int} {O : Nat → List (Nat × Nat)} {n : Int} {M : Nat} {v' vo' : Value} (h : CP B w1 cb po pc vo VS N k X Y O n) (hM : ∀ a g, a < k → (VS a).ownBlock = some g → g < M) (hBM : B ≤ M)
    (hr : HRow w1 M v' (O k)) (ho : w2.ownsRow B 103 1 vo' (k + 1) ((List.range k).map VS ++ [v'])) (hg : w1.grownBy w2 vo.ownBlock) (w3 : World) (h3 : w3 = w2.setCell ⟨cb, 1, none⟩ vo') (hov : ∀ g, vo'.ownBlock = some g → g ≠ cb) :
    CP B w3 cb po pc vo' (fun a => if a = k then v' else VS a) N (k + 1) X Y O n ∧ (∀ g, g < w1.heap.size → g ≠ cb → vo.ownBlock ≠ some g → w3.heap[g]? = w1.heap[g]?) ∧ w1.heap.size ≤ w3.heap.size := by
  subst h3
  have cbt : ∃ c, w1.heap[cb]? = some (.cells c 87 (0, 0)) := ⟨_, h.blk⟩
  obtain ⟨cc, hcb⟩ := cbt
  have key : ∀ g, g < w1.heap.size → g ≠ cb → vo.ownBlock ≠ some g → (w2.setCell ⟨cb, 1, none⟩ vo').heap[g]? = w1.heap[g]? := fun g h1 h2 h3 => (Below.heap_setCell w2 ⟨cb, 1, none⟩ vo' g h2).trans (hg.block g h1 fun e => h3 e.symm)
  have keyT : ∀ (g : Nat) (ty : TypeId) (c : Array Value), w1.heap[g]? = some (Obj.cells c ty (0, 0)) → ty ≠ 87 → ty ≠ 103 → (w2.setCell ⟨cb, 1, none⟩ vo').heap[g]? = w1.heap[g]? := fun g ty c h1 h2 h3 => key g (Array.getElem?_eq_some_iff.1 h1).1 (typ_ne h1 hcb h2) fun e => by
    obtain ⟨c', hc'⟩ := own_typ h.out e
    exact typ_ne h1 hc' h3 rfl
  have ncb : vo.ownBlock ≠ some cb := fun e => by
    obtain ⟨c', hc'⟩ := own_typ h.out e
    exact typ_ne hcb hc' (by decide) rfl
  have hrk : ∀ v L B', HRow w1 B' v L → HRow (w2.setCell ⟨cb, 1, none⟩ vo') B' v L := fun v L B' hv => own_keep hv fun g hg => by
    obtain ⟨c, hc⟩ := own_typ hv hg
    exact keyT g _ c hc (by decide) (by decide)
  refine ⟨⟨?_, ?_, ?_, ?_, ?_, h.lo⟩, key, by simp [World.setCell]; exact hg.size⟩
  · have h1 : Blk w2 cb #[.slice po N pc, vo, .int .i64 n] 87 := (hg.block cb (Array.getElem?_eq_some_iff.1 hcb).1 fun e => ncb e.symm).trans h.blk
    exact h1.put 1 vo'
  · exact own_keep h.pts fun g hgg => by
      obtain ⟨c, hc⟩ := own_typ h.pts hgg
      exact keyT g _ c hc (by decide) (by decide)
  · have e : (List.range (k + 1)).map (fun a => if a = k then v' else VS a) = (List.range k).map VS ++ [v'] := by
      rw [List.range_succ, List.map_append]
      congr 1
      · refine List.map_congr_left fun a ha => ?_
        rw [if_neg (by have := List.mem_range.1 ha; omega)]
      · simp
    rw [e]
    exact own_keep ho fun g hgg => Below.heap_setCell w2 ⟨cb, 1, none⟩ vo' g (hov g hgg)
  · intro a ha
    by_cases e : a = k
    · subst e
      simp only [if_true]
      exact own_low (hrk _ _ _ hr) hBM
    · simp only [if_neg e]
      exact hrk _ _ _ (h.rows a (by omega))
  · intro a b g ha hb hne h1 h2
    have hlo : ∀ g, v'.ownBlock = some g → M ≤ g := fun g hg => (World.ownsRow.lt hr g hg).1
    by_cases ea : a = k
    · have eb : b ≠ k := by omega
      rw [if_pos ea] at h1
      rw [if_neg eb] at h2
      have := hlo g h1
      have := hM b g (by omega) h2
      omega
    · rw [if_neg ea] at h1
      by_cases eb : b = k
      · rw [if_pos eb] at h2
        have := hlo g h2
        have := hM a g (by omega) h1
        omega
      · rw [if_neg eb] at h2
        exact h.apart a b g (by omega) (by omega) hne h1 h2
/-- a store that is copied whole -/
theorem CP.sm {B : Nat} {w w0 : World} {cb t : Nat} {D : SD} {po : Option Addr} {pc : Nat} {vo : Value} {VS : Nat → Value} {N : Nat} {X Y : Nat → Int} {O : Nat → List (Nat × Nat)} {n : Int} (h : CP B w cb po pc vo VS N N X Y O n) (hN : 0 < N) (h0 : SM w0 t D N X Y O n) : ∃ D' : SD, SM w cb D' N X Y O n ∧ ∀ g, D'.has cb N g → B ≤ g := by
  obtain ⟨ao, cap, e, hp, hty⟩ := PO.pts h.pts
  injection e with e1 e2 e3
  subst e1; subst e3
  rcases h.out.2 with ⟨_, h1⟩ | ⟨ob, oc, cur, rfl, hlo, hob, hc1, hc2, hcs, htk⟩
  · omega
  · refine ⟨⟨po, pc, ob, oc, VS⟩, ⟨h.blk, hp, fun h1 => ?_, ⟨cur, hob, fun a ha => ?_⟩, hc1, by unfold maxLen at hc2; show oc ≤ _; omega, fun a ha => own_low (h.rows a ha) (Nat.zero_le _), h.apart, h0.small, h0.dom, h0.sort⟩, ?_⟩
    · obtain ⟨a, cur, q1, _, q2⟩ := hty h1
      exact ⟨a, cur, q1, q2⟩
    · have : ((List.range N).map VS)[a]? = some (VS a) := by rw [List.getElem?_map, List.getElem?_range ha]; rfl
      rw [← htk, List.getElem?_take_of_lt (by omega), Array.getElem?_toList] at this
      exact this
    · rintro g (rfl | rfl | ⟨a, ha, hg⟩)
      · exact h.lo
      · exact hlo
      · exact (World.ownsRow.lt (h.rows a ha) g hg).1
end Go.Proofs.Ytdlpfiiakmhnlaa

namespace Go.Proofs.Ytdlpfiiakmhnlaa
open Go.RowKit

theorem own_val {w : World} {base : Nat} {ty : TypeId} {s : Nat} {v : Value} {k : Nat} {L : List Value} (h : w.ownsRow base ty s v k L) : ∃ ao cc, v = .slice ao k cc := by
  rcases h.2 with ⟨rfl, rfl⟩ | ⟨g, cap, cur, rfl, _⟩
  · exact ⟨_, _, rfl⟩
  · exact ⟨_, _, rfl⟩
set_option maxRecDepth 100000 in
set_option maxHeartbeats 2000000 in
theorem Copy_is (t : Nat) (D : SD) (N : Nat) (X Y : Nat → Int) (O : Nat → List (Nat × Nat)) (n : Int) (w : World) (h : SM w t D N X Y O n) :
    Calls Try.prog 31 #[ptr t 0] w fun e w' => ∃ (cb : Nat) (po : Option Addr) (pc : Nat) (vo : Value) (VS : Nat → Value), e = .returned (ptr cb 0) ∧ CP w.heap.size w' cb po pc vo VS N N X Y O n ∧ Below w.heap.size w w' := by
  have HM := Lib.hid h
  obtain ⟨c0, c1, c2⟩ := h.c
  have hsm := h.small
  have lt := h.blk.lt
  have hcl := h.pts.capl
  have hcb := h.pts.capb
  clear h
  go_enter Try.func31, Try.ntmps31
  go_wp2_with fail
  refine wp_region_up w.heap.size 9 [(true, 0), (true, 1), (true, 2), (true, 3), (true, 5), (true, 6), (true, 7), (true, 8), (false, 4)] (by kernel_rfl) (by kernel_rfl) (fun _ _ d _ _ h => by cases d <;> exact h) ?_
  have hb : Below w.heap.size w w.drew := (Below.refl _ _).drew
  iterate 8
    first | refine wpS_takeL rfl rfl ?_ | refine wpS_takeN rfl ⟨_, rfl⟩ ?_
    go_big_quiet_step (rfl)
    refine wpQuiet_nil ?_
  refine wpS_doL rfl ?_
  intro K hK
  go_wp2_with ((go_at_call 42; (refine (ClonePt_is D.po N D.pc X Y _ (HM.out.pts.of hb) hsm).mono ?_); rintro e w2 ⟨v, rfl, hpo, hn⟩))
  replace hb := hb.trans (hn.mono hb.size)
  refine hK.out _ _ (up_iff.2 hb) ?_
  clear hK K
  clear hn
  refine wpS_nil ?_
  simp only [List.drop_succ_cons, List.drop_zero]
  obtain ⟨po, pc, rfl, hp1, _⟩ := PO.pts hpo
  have HPO := Lib.hid hpo
  have HB := Lib.hid hb
  obtain ⟨i0, hi, hz0, hz1, hz2⟩ := info_parts info_row
  clear hpo hp1 c0 c1 c2 lt
  obtain ⟨c0, c1, c2⟩ := (HM.out.of hb).c
  have lt := (HM.out.of hb).blk.lt
  clear hb
  go_wp2_with fail
  have hb3 := below_a1 w2 (.cells #[.slice po N pc, .slice none 0 0, .int .i64 n] 87)
  have hcp : CP w.heap.size (w2.alloc (.cells #[.slice po N pc, .slice none 0 0, .int .i64 n] 87)) w2.heap.size po pc (.slice none 0 0) (fun _ => .slice none 0 0) N 0 X Y O n := by
    refine ⟨Blk.new w2 _ _, own_low (own_keep HPO.out fun g hg => hb3.block g (World.ownsRow.lt HPO.out g hg).2) (Nat.le_refl _), ⟨rfl, .inl ⟨rfl, rfl⟩⟩, fun a ha => by omega, fun a b g ha => by omega, HB.out.size⟩
  have HCP := Lib.hid hcp
  have HB3 := Lib.hid (HB.out.trans (hb3.mono HB.out.size))
  obtain ⟨cb, hcbe⟩ : ∃ b, w2.heap.size = b := ⟨_, rfl⟩
  refine name_world ?_
  intro W4 hW4
  rw [← hW4] at HCP HB3
  rw [hcbe] at HCP ⊢
  have HBT := Lib.hid (show w.heap.size ≤ cb by rw [← hcbe]; exact HB.out.size)
  clear hb3 hcp hW4 hcbe HPO HB c0 c1 c2 lt
  go_loopg [22] N (fun gk s22 wr => ∃ (k : Nat) (vo : Value) (VS : Nat → Value), s22 = .int .i64 k ∧ k ≤ N ∧ N - k ≤ gk ∧ Hid (CP w.heap.size wr cb po pc vo VS N k X Y O n) ∧ Hid (Below w.heap.size w wr))
  case atStart => exact ⟨0, _, _, rfl, Nat.zero_le _, Nat.le_refl _, HCP, HB3⟩
  case round =>
    clear HCP HB3
    obtain ⟨k, vo, VS, rfl, hk, hgk, HC, HW⟩ := hrel
    by_cases hkN : k < N
    · have HMr := Lib.hid (HM.out.of HW.out)
      have cr := HMr.out.row hkN
      obtain ⟨v, hv⟩ : ∃ v, D.V k = v := ⟨_, rfl⟩
      have hrow := HMr.out.rows k hkN
      rw [hv] at cr hrow
      have HROW := Lib.hid hrow
      have hln := HMr.out.len k hkN
      obtain ⟨ao, cc, hvo⟩ := own_val HC.out.out
      subst hvo
      have kb := HC.out.blk
      have k1 := kb.cell 1
      have lk := kb.lt
      simp only [List.getElem?_toArray, List.getElem?_cons_zero, List.getElem?_cons_succ] at k1
      have hwr := HW.out.size
      clear hv hrow kb
      go_wp2_with fail
      obtain ⟨RL, hRL⟩ : ∃ RL, (Value.slice ao k cc).ownBlock.toList = RL := ⟨_, rfl⟩
      have ncb : cb ∉ RL := by
        rw [← hRL]; intro h
        obtain ⟨c, hc⟩ := own_typ HC.out.out (Option.mem_toList.1 h)
        exact typ_ne hc HC.out.blk (by decide) rfl
      have HRL := Lib.hid hRL
      clear hRL
      refine wp_region_upl RL 9 [(true, 0), (true, 1), (true, 2), (true, 3), (true, 4), (true, 5), (false, 6), (false, 7), (false, 8)] (by kernel_rfl) (by kernel_rfl) (fun _ _ d _ _ h => by cases d <;> exact h) ?_
      have hb : OutL RL wr wr.drew := (OutL.refl _ _).drew
      iterate 6
        first | refine wpS_takeL rfl rfl ?_ | refine wpS_takeN rfl ⟨_, rfl⟩ ?_
        go_big_quiet_step (rfl)
        refine wpQuiet_nil ?_
      refine wpS_doL rfl ?_
      intro K hK
      go_wp2_with fail
      refine (CloneH_is v 0 (O k) _ HROW.out.drew (by omega)).mono ?_
      rintro e w3 ⟨v', rfl, hr3, hn3⟩
      have hb3 : Below wr.heap.size wr w3 := ⟨hn3.os, hn3.tape, hn3.output, hn3.size, hn3.block⟩
      obtain ⟨va, vc, hv', _⟩ := hr3.val
      obtain ⟨ln, hln2⟩ : ∃ l, (O k).length = l := ⟨_, rfl⟩
      rw [hln2] at hv'
      subst hv'
      clear hln2
      go_wp2_with fail
      refine hK.out _ _ (upl (OutL.ofBelow hb3)) ?_
      clear hK K hn3
      refine wpS_doL rfl ?_
      intro K hK
      go_wp2_with fail
      refine name_Kw ?_
      intro Wx hWx
      have kx : Blk Wx w3.heap.size #[.slice va ln vc] 103 := by rw [hWx]; exact Blk.new w3 _ _
      have hb4 : Below w3.heap.size w3 Wx := by rw [hWx]; exact below_a1 _ _
      have hb5 := hb3.trans (hb4.mono hb3.size)
      refine hK.out _ _ (upl (OutL.ofBelow hb5)) ?_
      clear hK K hWx
      have HR5 := Lib.hid (hr3.of hb4)
      have HC5 := Lib.hid (HC.out.of hb5)
      have HB5 := Lib.hid hb5
      have s3 := hb3.size
      have s4 := hb4.size
      have s5 := kx.lt
      obtain ⟨xb, hxb⟩ : ∃ b, w3.heap.size = b := ⟨_, rfl⟩
      rw [hxb] at kx s3 s4 s5 ⊢
      have hsrc : ∀ j u, [Value.slice va ln vc][j]? = some u → Wx.cell? ((⟨xb, 0, none⟩ : Addr).add j) = some u := by
        intro j u hj
        match j, hj with
        | 0, hj => simp at hj; subst hj; exact kx.cell 0
        | j + 1, hj => simp at hj
      have hone : ∀ u ∈ [Value.slice va ln vc], u.oneCell' = true := by intro u hu; simp at hu; subst hu; rfl
      have hown := HC5.out.out
      have hb63 : k + 1 ≤ maxLen := by unfold maxLen; omega
      have hb64 : (k + 1) * 24 ≤ 140737488355328 := by omega
      have hbs : w.heap.size ≤ Wx.heap.size := by omega
      clear hb3 hb4 hb5 hr3 hxb kx
      refine wpS_doL rfl ?_
      intro K hK
      refine wpList_append_own_at _ rfl _ _ 85 rfl w.heap.size 103 i0 (.slice none 0 0) 1 24 Try.underlying85 hi hz0 hz1 hz2 rfl (by decide) (.slice ao k cc) k ((List.range k).map VS) rfl hown ⟨xb, 0, none⟩ 1 1 [.slice va ln vc] rfl rfl hsrc hone hb63 hb64 hbs ?_
      intro v1 w1 own1 gr1 _ hat
      obtain ⟨ao1, cc1, hv1⟩ := own_val own1
      subst hv1
      have hbo5 : OutL RL wr w1 := (OutL.ofBelow HB5.out).trans ⟨gr1.os, gr1.tape, gr1.output, gr1.size, fun g hg hc => gr1.block g hg fun e => hc (by rw [← HRL.out, ← e]; simp)⟩
      have hov : ∀ g, (Value.slice ao1 (k + 1) cc1).ownBlock = some g → g ≠ cb := fun g hg e => by
        rcases hat with h | h
        · rw [hg, e] at h
          exact ncb (by rw [← HRL.out, ← h]; simp)
        · rw [hg] at h; injection h with h; omega
      have hadd := CP.add HC5.out (M := wr.heap.size) (fun a g ha hg => (World.ownsRow.lt (HC.out.rows a ha) g hg).2) hwr HR5.out own1 gr1 _ rfl hov
      have HADD := Lib.hid hadd
      have HBO := Lib.hid hbo5
      have k4 : Blk w1 cb #[.slice po N pc, .slice ao k cc, .int .i64 n] 87 := (hbo5.block cb lk ncb).trans HC.out.blk
      have f1 := k4.free 1
      have x1 := k4.cell 1
      simp only [List.getElem?_toArray, List.getElem?_cons_zero, List.getElem?_cons_succ] at x1
      have l1 := k4.lt
      go_wp2_with fail
      refine hK.out _ _ (upl hbo5) ?_
      clear hK K own1 gr1 hat hbo5 hadd hsrc hone hown hov k4
      refine wpS_nil ?_
      simp only [List.drop_succ_cons, List.drop_zero]
      have hbw : Hid (Below w.heap.size wr (w1.setCell ⟨cb, 1, none⟩ (.slice ao1 (k + 1) cc1))) := Lib.hid ⟨HBO.out.os, HBO.out.tape, HBO.out.output, by have := HBO.out.size; simpa [World.setCell] using this, fun g hg => (Below.heap_setCell w1 ⟨cb, 1, none⟩ _ g (by show g ≠ cb; have := HBT.out; omega)).trans (HBO.out.block g (by omega) fun e => by
        rw [← HRL.out] at e
        have := (World.ownsRow.lt HC.out.out g (Option.mem_toList.1 e)).1
        omega)⟩
      go_wp2_with fail
      go_roundg (N - (k + 1))
      case measure => omega
      case rel => exact ⟨k + 1, _, _, by norm_cast, by omega, Nat.le_refl _, Lib.hid HADD.out.1, Lib.hid (HW.out.trans hbw.out)⟩
    · have hkN2 : k = N := by omega
      subst hkN2
      go_wp2_with fail
      simp [bodyPost, results, Try.results31, go_sem]
      exact ⟨⟨po, pc, vo, VS, HC.out⟩, HW.out⟩
end Go.Proofs.Ytdlpfiiakmhnlaa

namespace Go.Proofs.Ytdlpfiiakmhnlaa
open Go.RowKit

/-- a slice of triangles, to be read -/
structure Trs (w : World) (ao : Option Addr) (cap : Nat) (L : List Tri3) : Prop where
  ptr : 0 < L.length → ∃ g, ao = some ⟨g, 0, none⟩ ∧ g < w.heap.size ∧ ∀ j x, L[j]? = some x → w.cell? ⟨g, j * 3, none⟩ = some (.int .i64 (x.1 : Nat)) ∧ w.cell? ⟨g, j * 3 + 1, none⟩ = some (.int .i64 (x.2.1 : Nat)) ∧ w.cell? ⟨g, j * 3 + 2, none⟩ = some (.int .i64 (x.2.2 : Nat))
  capl : L.length ≤ cap
  capb : cap ≤ 9223372036854775807
theorem Trs.of {w w' : World} {ao : Option Addr} {cap : Nat} {L : List Tri3} (h : Trs w ao cap L) (hb : Below w.heap.size w w') : Trs w' ao cap L := by
  refine ⟨fun h0 => ?_, h.capl, h.capb⟩
  obtain ⟨g, e, hg, hc⟩ := h.ptr h0
  refine ⟨g, e, Nat.lt_of_lt_of_le hg hb.size, fun j x hx => ?_⟩
  obtain ⟨c0, c1, c2⟩ := hc j x hx
  exact ⟨(hb.cell (p := ⟨g, j * 3, none⟩) hg).trans c0, (hb.cell (p := ⟨g, j * 3 + 1, none⟩) hg).trans c1, (hb.cell (p := ⟨g, j * 3 + 2, none⟩) hg).trans c2⟩
theorem tC_at : ∀ {L : List Tri3} {j : Nat} {x : Tri3}, L[j]? = some x → (tC L)[j * 3]? = some (.int .i64 (x.1 : Nat)) ∧ (tC L)[j * 3 + 1]? = some (.int .i64 (x.2.1 : Nat)) ∧ (tC L)[j * 3 + 2]? = some (.int .i64 (x.2.2 : Nat))
  | [], j, x, h => by simp at h
  | y :: l, 0, x, h => by
    simp at h; subst h; exact ⟨rfl, rfl, rfl⟩
  | y :: l, j + 1, x, h => by
    have := tC_at (L := l) (j := j) (x := x) (by simpa using h)
    rw [show (j + 1) * 3 = j * 3 + 3 by omega]
    exact this
theorem Trs.ofRow {w : World} {base : Nat} {e : TypeId} {v : Value} {L : List Tri3} (h : w.ownsRow base e 3 v L.length (tC L)) : ∃ ao cap, v = .slice ao L.length cap ∧ Trs w ao cap L := by
  rcases h.2 with ⟨rfl, hn⟩ | ⟨g, cap, cur, rfl, hb, hg, h1, h2, h3, h4⟩
  · exact ⟨none, 0, by rw [hn], fun h0 => by omega, by omega, by omega⟩
  · refine ⟨_, cap, rfl, fun h0 => ⟨g, rfl, (Array.getElem?_eq_some_iff.1 hg).1, fun j x hx => ?_⟩, h1, by unfold maxLen at h2; omega⟩
    have hj : j < L.length := (List.getElem?_eq_some_iff.1 hx).1
    obtain ⟨f0, f1, f2⟩ := tC_at hx
    have c : ∀ k u, k < L.length * 3 → (tC L)[k]? = some u → w.cell? ⟨g, k, none⟩ = some u := fun k u hk hu => by
      rw [cell_row hg, ← Array.getElem?_toList]
      rw [← h4, List.getElem?_take_of_lt hk] at hu
      exact hu
    exact ⟨c _ _ (by omega) f0, c _ _ (by omega) f1, c _ _ (by omega) f2⟩
/-- two triangles alike? -/
def eqT (a b c d e f : Int) : Bool := a == d && b == e && c == f
@[go_sem] theorem run_eqT0 (a b c d e f : Int) (w : World) :
    (Op.equalIn 10000 35 (tI a b c) (tI d e f)).run Try.prog w = .ok (eqT a b c d e f) w := by
  have hu : Try.prog.underlying 35 = some (.array 3 3) := by kernel_rfl
  have hs : ∀ w, (sizeOf 3).run Try.prog w = .ok 1 w := fun w => by kernel_rfl
  have he : ∀ (a b : Int) w, (Op.equalIn 9999 3 (.int .i64 a) (.int .i64 b)).run Try.prog w = .ok (a == b) w := fun a b w => run_equalIn_int w 9998 _ .i64 .i64 a b (by kernel_rfl)
  have hp : ∀ (c : Array Value) (i : Nat) (v : Value) w, c[i]? = some v → (part 3 c i).run Try.prog w = .ok v w := by
    intro c i v w h
    have ha : (isAgg 3).run Try.prog w = .ok false w := by kernel_rfl
    unfold part
    simp [Sem.run_bind, ha, h]
  show (Op.equalIn (9999 + 1) _ _ _).run _ _ = _
  unfold Op.equalIn
  simp only [Sem.run_bind, run_underlying hu, Result.andThen_ok, hs]
  simp [List.range', he, hp, Sem.run_bind]
  unfold eqT
  by_cases h0 : a = d <;> by_cases h1 : b = e <;> by_cases h2 : c = f <;> simp [h0, h1, h2]
@[go_sem] theorem run_eqlT (a b c d e f : Int) (w : World) :
    (binOp .eql 35 (tI a b c) (tI d e f)).run Try.prog w = .ok (.bool (eqT a b c d e f)) w := by
  rw [run_eql_struct, run_eqT0]; rfl
@[go_sem] theorem run_neqT (a b c d e f : Int) (w : World) :
    (binOp .neq 35 (tI a b c) (tI d e f)).run Try.prog w = .ok (.bool (!eqT a b c d e f)) w := by
  rw [run_neq_struct, run_eqT0]; rfl
end Go.Proofs.Ytdlpfiiakmhnlaa

namespace Go.Proofs.Ytdlpfiiakmhnlaa
open Go.RowKit

/-- a store above a base, be it without points and rows -/
def ST (B : Nat) (w : World) (t N : Nat) (X Y : Nat → Int) (O : Nat → List (Nat × Nat)) (n : Int) : Prop :=
  (∃ D : SD, SM w t D N X Y O n ∧ ∀ g, D.has t N g → B ≤ g) ∨ (N = 0 ∧ B ≤ t ∧ ∃ po pc ao l c, S0 w t po pc (.slice ao l c) n)
theorem ST.of {B : Nat} {w w' : World} {t N : Nat} {X Y : Nat → Int} {O : Nat → List (Nat × Nat)} {n : Int} (h : ST B w t N X Y O n) (hb : Below w.heap.size w w') : ST B w' t N X Y O n := by
  rcases h with ⟨D, h1, h2⟩ | ⟨h1, h2, po, pc, ao, l, c, h3⟩
  · exact .inl ⟨D, h1.of hb, h2⟩
  · exact .inr ⟨h1, h2, po, pc, ao, l, c, Blk.of h3 hb⟩
theorem CP.st {B : Nat} {w w0 : World} {cb t : Nat} {D : SD} {po : Option Addr} {pc : Nat} {vo : Value} {VS : Nat → Value} {N : Nat} {X Y : Nat → Int} {O : Nat → List (Nat × Nat)} {n : Int} (h : CP B w cb po pc vo VS N N X Y O n) (h0 : SM w0 t D N X Y O n) : ST B w cb N X Y O n := by
  rcases Nat.eq_zero_or_pos N with h1 | h1
  · subst h1
    obtain ⟨ao, cc, rfl⟩ := own_val h.out
    exact .inr ⟨rfl, h.lo, po, pc, ao, 0, cc, h.blk⟩
  · exact .inl (h.sm h1 h0)
theorem allST (B t N : Nat) (X Y : Nat → Int) (O : Nat → List (Nat × Nat)) (n : Int) (L : List Tri3) (hL : preO O N = L) (hlen : L.length < 100000000) (w : World) (h : ST B w t N X Y O n) :
    Calls Try.prog 18 #[ptr t 0] w fun e w' => ∃ v, e = .returned v ∧ TL w' w.heap.size v L ∧ Below w.heap.size w w' := by
  rcases h with ⟨D, h1, h2⟩ | ⟨h1, h2, po, pc, ao, l, c, h3⟩
  · exact all_is t D N X Y O n L hL hlen w h1
  · subst h1
    have e : L = [] := hL.symm
    subst e
    exact all0_is t po pc ao l c n w h3
theorem LenST (B t N : Nat) (X Y : Nat → Int) (O : Nat → List (Nat × Nat)) (n : Int) (w : World) (h : ST B w t N X Y O n) :
    Calls Try.prog 30 #[ptr t 0] w fun e w' => e = .returned (.int .i64 n) ∧ Below w.heap.size w w' := by
  rcases h with ⟨D, h1, h2⟩ | ⟨h1, h2, po, pc, ao, l, c, h3⟩
  · exact Len_is t D N X Y O n w h1
  · exact Len0_is t po pc _ n w h3 rfl
theorem eqT_self (a b c : Int) : eqT a b c a b c = true := by unfold eqT; simp
set_option maxRecDepth 100000 in
set_option maxHeartbeats 2000000 in
theorem same_is (B c t : Nat) (D : SD) (N : Nat) (X Y : Nat → Int) (O : Nat → List (Nat × Nat)) (n : Int) (L : List Tri3) (hL : preO O N = L) (hlen : L.length < 100000000) (w : World) (h1 : ST B w c N X Y O n) (h2 : SM w t D N X Y O n) :
    Calls Try.prog 32 #[ptr c 0, ptr t 0] w fun e w' => e = .returned (.bool true) ∧ Below w.heap.size w w' := by
  have H1 := Lib.hid h1
  have H2 := Lib.hid h2
  have HL := Lib.hid hL
  clear h1 h2 hL
  go_enter Try.func32, Try.ntmps32
  go_wp2_with fail
  refine (allST B c N X Y O n L HL.out hlen _ H1.out).mono ?_
  rintro e w1 ⟨v1, rfl, tl1, hb1⟩
  obtain ⟨ao1, cap1, rfl, P1⟩ := Trs.ofRow tl1
  have HP1 := Lib.hid P1
  have HB1 := Lib.hid hb1
  clear tl1 P1 hb1
  go_wp2_with fail
  refine (all_is t D N X Y O n L HL.out hlen _ (H2.out.of HB1.out)).mono ?_
  rintro e w2 ⟨v2, rfl, tl2, hb2⟩
  obtain ⟨ao2, cap2, rfl, P2⟩ := Trs.ofRow tl2
  have HP2 := Lib.hid P2
  have HP1b := Lib.hid (HP1.out.of hb2)
  have HB2 := Lib.hid (HB1.out.trans (hb2.mono HB1.out.size))
  have q1 := P2.capl
  have q2 := P2.capb
  have q3 := HP1.out.capl
  have q4 := HP1.out.capb
  obtain ⟨M, hM⟩ : ∃ m, L.length = m := ⟨_, rfl⟩
  have HM := Lib.hid hM
  rw [hM] at q1 q3 hlen ⊢
  clear tl2 P2 hb2 hM HP1 HB1
  go_wp2_with fail
  go_loopg [19] M (fun gk s19 wr => ∃ k : Nat, s19 = .int .i64 k ∧ k ≤ M ∧ M - k ≤ gk ∧ Hid (Below w.heap.size w wr) ∧ Hid (Below w2.heap.size w2 wr))
  case atStart => exact ⟨0, rfl, Nat.zero_le _, Nat.le_refl _, HB2, Lib.hid (Below.refl _ _)⟩
  case round =>
    clear HB2
    obtain ⟨k, rfl, hk, hgk, HW, HW2⟩ := hrel
    by_cases hkM : k < M
    · obtain ⟨⟨a, b, d⟩, hx⟩ : ∃ x, L[k]? = some x := ⟨_, List.getElem?_eq_getElem (show k < L.length by rw [HM.out]; exact hkM)⟩
      obtain ⟨g1, e1, l1, f1⟩ := (HP1b.out.of HW2.out).ptr (by have := HM.out; omega)
      obtain ⟨g2, e2, l2, f2⟩ := (HP2.out.of HW2.out).ptr (by have := HM.out; omega)
      subst e1
      subst e2
      obtain ⟨x0, x1, x2⟩ := f1 k _ hx
      obtain ⟨y0, y1, y2⟩ := f2 k _ hx
      simp only at x0 x1 x2 y0 y1 y2
      have he := eqT_self (a : Nat) (b : Nat) (d : Nat)
      clear f1 f2 hx
      go_wp2_with fail
      refine wp_region_up wr.heap.size 8 [(true, 0), (true, 1), (true, 2), (true, 3), (true, 4), (true, 5), (true, 6), (true, 7)] (by kernel_rfl) (by kernel_rfl) (fun _ _ d _ _ h => by cases d <;> exact h) ?_
      have hb : Below wr.heap.size wr wr.drew := (Below.refl _ _).drew
      iterate 8
        refine wpS_takeL rfl rfl ?_
        go_big_quiet_step (rfl)
        refine wpQuiet_nil ?_
      refine wpS_nil ?_
      simp only [List.drop_succ_cons, List.drop_zero]
      have hA := Lib.hid (HW.out.drew)
      have hB := Lib.hid (HW2.out.drew)
      clear x0 x1 x2 y0 y1 y2
      go_wp2_with fail
      go_roundg (M - (k + 1))
      case measure => omega
      case rel => exact ⟨k + 1, by norm_cast, by omega, Nat.le_refl _, hA, hB⟩
    · have hkM2 : k = M := by omega
      go_wp2
      go_ret
      exact ⟨rfl, HW.out⟩
end Go.Proofs.Ytdlpfiiakmhnlaa

namespace Go.Proofs.Ytdlpfiiakmhnlaa
open Go.RowKit Go.Shelf

theorem wp_rangeXP {P : Program} {g : Operand} {ps : Array Tmp} {assign body : Code} {Q : Exit → Act → World → Prop} {a : Act} {w : World} {gf : Nat} {lb : Array Value} {N : Nat} {encs : Nat → Array Value} {Kp : World → Prop}
    (hg : a.eval g = .func (.func gf) #[] lb) (eg : ∀ args w, (callFunc gf args).run P w = .ok (.enter gf args) w)
    (hT : TellsX P gf lb N encs (w.heap.size + 2) Kp) (hps : ∀ k, (encs k).size = ps.size) (id : Nat)
    (J : Nat → World → Prop) (Post : World → Prop) (hst : ∀ k W W', J k W → Below w.heap.size W W' → J k W') (hpst : ∀ W W', Post W → Below w.heap.size W W' → Post W')
    (hKp : ∀ k W, J k W → Kp W) (h0 : J 0 w)
    (hround : ∀ (lid D k : Nat) (G : Nat → Prop) (W : World), k < N → (∀ g, ¬ G g) → J k W → lid = w.heap.size + 1 → D = w.heap.size → lid < W.heap.size → D < W.heap.size →
      assign.wpIn (Fence.wide.inRound lid) 1 P (Exit.then (fun a₁ w₁ => (Fix2 lid D W w₁ ∧ AboveX (w.heap.size + 2) G W w₁) ∧ ∀ w₂, OutL [lid] w₁ w₂ → body.wpIn (Fence.wide.inRound lid) 1 P (rPostX (w.heap.size + 2) lid D w₂ (fun G k W => (∀ g, ¬ G g) ∧ J k W) (fun c _ W => c = .exit id ∧ Post W) G k) a₁ w₂) (fun _ _ _ => False))
        { tmps := (ps.zip (encs k)).foldl (fun t (p, v) => t.setIfInBounds p v) a.tmps, defers := [] } W)
    (hN : ∀ W, J N W → Post W) (hex : ∀ a W, Q .normal a W → (Code.exit id).wp P Q a W)
    (hpost : ∀ W, Post W → W.heap[w.heap.size]? = some (.deferred (some [])) → Q .normal { a with defers := { target := .collected w.heap.size, args := #[] } :: a.defers } W) :
    (Code.rangeFunc g ps assign body).wp P Q a w := by
  refine wpIn_wide.1 (wpIn_rangeX (m := 1) hg eg hT hps (fun G k W => (∀ g, ¬ G g) ∧ J k W) (fun c _ W => c = .exit id ∧ Post W) (fun G k W h g hg => absurd hg (h.1 g)) (fun G k W W' h hb => ⟨h.1, hst k W W' h.2 hb.1⟩) (fun c k W W' h hb => ⟨h.1, hpst W W' h.2 hb⟩) (fun G k W h => hKp k W h.2) ⟨fun _ h => h, h0⟩ ?_ ?_ ?_)
  · intro lid D k G W hk hJ h1 h2 h3 h4
    exact hround lid D k G W hk hJ.1 hJ.2 h1 h2 h3 h4
  · rintro D G W rfl hJ hD
    exact hpost W (hN W hJ.2) hD
  · rintro D c k W rfl ⟨rfl, hP⟩ hD
    exact wpIn_wide.2 (hex _ W (hpost W hP hD))
section
variable {P : Program} {C : World → Prop} {Q : Exit → Act → World → Prop}
theorem min_value {o : Oper} {c : Call} {ρ : Operand → Value} {w w' : World} {n : Next} (hp : o.op = .call c) (hb : c.callee = .builtin .min) (h : (execOp ρ o).run P w = .ok n w') : ∃ v, n = .value v := by
  unfold execOp at h
  rw [hp] at h
  dsimp only at h
  unfold resolve at h
  rw [hb] at h
  simp only [Sem.run_bind, Sem.run_pure, Result.andThen_ok, invoke, builtin] at h
  cases h1 : Sem.run P (Builtin.min_ c.argTypes o.type (c.args.map ρ)) w with
  | halt y w1 => rw [h1] at h; simp [Result.andThen] at h
  | ok p w1 => rw [h1] at h; simp only [Result.andThen] at h; exact ⟨_, ((Result.ok.inj h).1).symm⟩
/-- a call of min is taken early -/
theorem min_yields {o : Oper} {c : Call} {a : Act} {v : Value} (hp : o.op = .call c) (hb : c.callee = .builtin .min) (h : ∀ w, C w → o.quietAt P a C w v) : ∀ w, C w → (execOp a.eval o).run P w = .ok (.value v) w := by
  intro w hw
  have h3 := h w hw
  unfold Oper.quietAt at h3
  cases hr : (execOp a.eval o).run P w with
  | ok n w' =>
    rw [hr] at h3
    obtain ⟨u, rfl⟩ := min_value hp hb hr
    simp only [Oper.quietUpon] at h3
    rw [h3.1, h3.2]
  | halt x w' => rw [hr] at h3; simp only [Oper.quietUpon] at h3
theorem wpS_takeMin {l : List Oper} {T : Act → World → Prop} {σ : List (Bool × Nat)} {i : Nat} {o : Oper} {c : Call} {a : Act} {w : World} (ho : l[i]? = some o) (hp : o.op = .call c) (hb : c.callee = .builtin .min)
    (h : wpQuiet P l.toArray C (fun a' => wpS P l.toArray C Q T σ a' w) [o] a) : wpS P l.toArray C Q T ((true, i) :: σ) a w := by
  unfold wpQuiet at h
  by_cases hw : Region.wanted o (yielded l.toArray a.tmps) = true
  · rw [if_pos hw] at h
    obtain ⟨v, h1, h2⟩ := h
    exact ⟨o, v, by simpa using ho, .inl ⟨hw, min_yields hp hb h1⟩, h2⟩
  · rw [if_neg hw] at h
    exact ⟨o, undef, by simpa using ho, .inr ⟨by simpa using hw, rfl⟩, h⟩
end
/-- a post that a panic never meets -/
def noP (Q : Exit → Act → World → Prop) : Exit → Act → World → Prop
  | .panic _, _, _ => False
  | e, a, w => Q e a w
theorem wp_noP {P : Program} {c : Code} {Q : Exit → Act → World → Prop} {a : Act} {w : World} (h : c.wp P (noP Q) a w) : c.wp P Q a w := wp_mono h fun e a w hq => by
  cases e with
  | panic c => exact False.elim hq
  | _ => exact hq
@[go_sem] theorem noP_normal (Q : Exit → Act → World → Prop) (a : Act) (w : World) : noP Q .normal a w = Q .normal a w := rfl
end Go.Proofs.Ytdlpfiiakmhnlaa

namespace Go.Proofs.Ytdlpfiiakmhnlaa
open Go.RowKit

def fP (X Y : Nat → Int) (n : Nat) : List Value := (List.range n).flatMap fun i => [.int .i64 (X i), .int .i64 (Y i)]
theorem fP_succ (X Y : Nat → Int) (n : Nat) : fP X Y (n + 1) = fP X Y n ++ [.int .i64 (X n), .int .i64 (Y n)] := by unfold fP; rw [List.range_succ, List.flatMap_append]; rfl
end Go.Proofs.Ytdlpfiiakmhnlaa

namespace Go.Proofs.Ytdlpfiiakmhnlaa
open Go.RowKit

/-- reference points as points -/
theorem Pts.ofRow {w : World} {base n : Nat} {v : Value} {X Y : Nat → Int} (h : w.ownsRow base 51 2 v n (fP X Y n)) : ∃ ao cap, v = .slice ao n cap ∧ Pts w ao n cap X Y := by
  rcases h.2 with ⟨rfl, hn⟩ | ⟨g, cap, cur, rfl, hb, hg, h1, h2, h3, h4⟩
  · exact ⟨none, 0, by rw [hn], fun h0 => by omega, by omega, by omega⟩
  · refine ⟨_, cap, rfl, fun h0 => ⟨⟨g, 0, none⟩, rfl, (Array.getElem?_eq_some_iff.1 hg).1, fun i hi => ?_⟩, h1, by unfold maxLen at h2; omega⟩
    have hf : ∀ m i, i < m → (fP X Y m)[i * 2]? = some (.int .i64 (X i)) ∧ (fP X Y m)[i * 2 + 1]? = some (.int .i64 (Y i)) := by
      intro m
      induction m with
      | zero => intro i hi; omega
      | succ m ih =>
        intro i hi
        have hl : (fP X Y m).length = m * 2 := by
          clear ih hi h3 h4
          induction m with
          | zero => rfl
          | succ m ih => rw [fP_succ, List.length_append, ih]; show m * 2 + 2 = _; omega
        rw [fP_succ]
        rcases Nat.lt_or_ge i m with h5 | h5
        · rw [List.getElem?_append_left (by omega), List.getElem?_append_left (by omega)]
          exact ih i h5
        · obtain rfl : i = m := by omega
          rw [List.getElem?_append_right (by omega), List.getElem?_append_right (by omega), hl, Nat.sub_self, show i * 2 + 1 - i * 2 = 1 by omega]
          exact ⟨rfl, rfl⟩
    obtain ⟨f0, f1⟩ := hf n i hi
    have c : ∀ k u, k < n * 2 → (fP X Y n)[k]? = some u → w.cell? ⟨g, k, none⟩ = some u := fun k u hk hu => by
      rw [cell_row hg, ← Array.getElem?_toList]
      rw [← h4, List.getElem?_take_of_lt hk] at hu
      exact hu
    have e : (⟨g, 0, none⟩ : Addr).add (i * 2) = ⟨g, i * 2, none⟩ := by unfold Addr.add; split <;> simp_all
    rw [e]
    exact ⟨c (i * 2) _ (by omega) f0, c (i * 2 + 1) _ (by omega) f1⟩
end Go.Proofs.Ytdlpfiiakmhnlaa

namespace Go.Proofs.Ytdlpfiiakmhnlaa
open Go.RowKit

/-- what one point says to a way -/
def goodR (X Y : Nat → Int) (a i k : Nat) : Prop := ¬ wy X Y a i k < 0 ∧ (wy X Y a i k = 0 → k ≠ a → k ≠ i → onB (X a) (Y a) (X i) (Y i) (X k) (Y k) = false)
structure RC (N : Nat) (X Y : Nat → Int) (H : List Nat) : Prop where
  pos : 0 < H.length
  len : H.length ≤ N
  zero : gH H 0 = 0
  nz : ∀ i, 0 < i → i < H.length → gH H i ≠ 0
  lt : ∀ i, i < H.length → gH H i < N
  nxt : ∀ i, i < H.length → ∀ k, k < N → k ≠ gH H i → ((∀ j, j < N → goodR X Y (gH H i) k j) ↔ k = gH H ((i + 1) % H.length))
  ne : ∀ i, i < H.length → gH H ((i + 1) % H.length) ≠ gH H i
end Go.Proofs.Ytdlpfiiakmhnlaa

namespace Go.Proofs.Ytdlpfiiakmhnlaa
open Go.RowKit

theorem mul_le_pos {d x y : Int} (hd : 0 < d) (h : d * x ≤ d * y) : x ≤ y := by
  rcases Int.lt_or_le y x with h1 | h1
  · have := Int.mul_lt_mul_of_pos_left h1 hd; omega
  · exact h1
theorem mul_eq_pos {d x y : Int} (hd : 0 < d) (h : d * x = d * y) : x = y := Int.le_antisymm (mul_le_pos hd (by omega)) (mul_le_pos hd (by omega))
/-- on one line: in the box is between, left to right -/
theorem box_up {ax ay bx b_y px py : Int} (h1 : -2199023255552 ≤ ay) (h2 : ay ≤ 2199023255552) (h3 : -2199023255552 ≤ b_y) (h4 : b_y ≤ 2199023255552) (h5 : -2199023255552 ≤ py) (h6 : py ≤ 2199023255552) (hx : ax < bx)
    (ht : (bx - ax) * (py - ay) = (b_y - ay) * (px - ax)) :
    (btw ax bx px = true ∧ btw ay b_y py = true) ↔ 4398046511105 * ax + ay ≤ 4398046511105 * px + py ∧ 4398046511105 * px + py ≤ 4398046511105 * bx + b_y := by
  obtain ⟨d, hd⟩ : ∃ d, bx - ax = d := ⟨_, rfl⟩
  obtain ⟨e, he⟩ : ∃ e, b_y - ay = e := ⟨_, rfl⟩
  obtain ⟨u, hu⟩ : ∃ u, px - ax = u := ⟨_, rfl⟩
  obtain ⟨v, hv⟩ : ∃ v, py - ay = v := ⟨_, rfl⟩
  rw [hd, he, hu, hv] at ht
  have d0 : 0 < d := by omega
  unfold btw
  simp only [Bool.and_eq_true, decide_eq_true_eq]
  constructor
  · rintro ⟨⟨k1, k2⟩, k3, k4⟩
    have u0 : 0 ≤ u := by omega
    have u1 : u ≤ d := by omega
    constructor
    · rcases Int.lt_or_eq_of_le u0 with h | h
      · omega
      · rw [← h, Int.mul_zero] at ht
        have := g_zero_of (by omega) ht
        omega
    · rcases Int.lt_or_eq_of_le u1 with h | h
      · omega
      · rw [h, Int.mul_comm e d] at ht
        have := mul_eq_pos d0 ht
        omega
  · rintro ⟨k1, k2⟩
    have u0 : 0 ≤ u := by omega
    have u1 : u ≤ d := by omega
    refine ⟨⟨by omega, by omega⟩, ?_⟩
    rcases Int.lt_or_le e 0 with he0 | he0
    · have a1 : e * u ≤ 0 := by have := Int.mul_nonneg (show 0 ≤ -e by omega) u0; rw [Int.neg_mul] at this; omega
      have a2 : e * d ≤ e * u := by have := Int.mul_le_mul_of_nonneg_left u1 (show 0 ≤ -e by omega); rw [Int.neg_mul, Int.neg_mul] at this; omega
      have v0 : v ≤ 0 := mul_le_pos d0 (by omega)
      have v1 : e ≤ v := mul_le_pos d0 (by rw [Int.mul_comm d e]; omega)
      omega
    · have a1 : 0 ≤ e * u := Int.mul_nonneg he0 u0
      have a2 : e * u ≤ e * d := Int.mul_le_mul_of_nonneg_left u1 he0
      have v0 : 0 ≤ v := mul_le_pos d0 (by omega)
      have v1 : v ≤ e := mul_le_pos d0 (by rw [Int.mul_comm d e]; omega)
      omega
theorem btw_swap (a b n : Int) : btw a b n = btw b a n := by unfold btw; rw [Int.min_comm, Int.max_comm]
theorem box_lex {ax ay bx b_y px py : Int} (h1 : -2199023255552 ≤ ay) (h2 : ay ≤ 2199023255552) (h3 : -2199023255552 ≤ b_y) (h4 : b_y ≤ 2199023255552) (h5 : -2199023255552 ≤ py) (h6 : py ≤ 2199023255552) (hne : ¬ (ax = bx ∧ ay = b_y))
    (ht : trn ax ay bx b_y px py = 0) :
    (btw ax bx px = true ∧ btw ay b_y py = true) ↔ (4398046511105 * ax + ay ≤ 4398046511105 * px + py ∧ 4398046511105 * px + py ≤ 4398046511105 * bx + b_y) ∨ (4398046511105 * bx + b_y ≤ 4398046511105 * px + py ∧ 4398046511105 * px + py ≤ 4398046511105 * ax + ay) := by
  unfold trn at ht
  rcases Int.lt_trichotomy ax bx with h | h | h
  · rw [box_up h1 h2 h3 h4 h5 h6 h (by omega)]
    constructor
    · exact .inl
    · rintro (k | k)
      · exact k
      · omega
  · subst h
    rw [Int.sub_self, Int.zero_mul, Int.zero_sub] at ht
    have e0 : b_y - ay ≠ 0 := by omega
    have := g_zero_of e0 (show (b_y - ay) * (px - ax) = 0 by omega)
    have hp : px = ax := by omega
    subst hp
    unfold btw
    simp only [Bool.and_eq_true, decide_eq_true_eq]
    omega
  · have := box_up h3 h4 h1 h2 h5 h6 h (px := px) (by
      have e : (bx - ax) * (py - ay) - (b_y - ay) * (px - ax) = -((ax - bx) * (py - b_y) - (ay - b_y) * (px - bx)) := by grind
      omega)
    rw [btw_swap ax bx, btw_swap ay b_y, this]
    constructor
    · exact .inr
    · rintro (k | k)
      · omega
      · exact k
theorem allC_co {n : Nat} {X Y : Nat → Int} (h : allC n X Y = true) {i : Nat} (hi : i < n) : Co (X i) ∧ Co (Y i) := rp_co (allC_rpT h hi)
theorem sX_mono {N : Nat} {X Y : Nat → Int} (hR : gRis (sX X Y) N) {i j : Nat} (hi : i < N) (hj : j < N) : sX X Y i ≤ sX X Y j ↔ i ≤ j := by
  constructor
  · intro h
    rcases Nat.lt_or_ge j i with h1 | h1
    · have := hR j i h1 hi; omega
    · exact h1
  · intro h
    rcases Nat.lt_or_ge i j with h1 | h1
    · have := hR i j h1 hj; omega
    · rw [show i = j by omega]; exact Int.le_refl _
/-- lies on: on one line, between -/
theorem onB_iff {N : Nat} {X Y : Nat → Int} (hg : allC N X Y = true) (hr : risC N X Y) {a b k : Nat} (ha : a < N) (hb : b < N) (hk : k < N) (hne : a ≠ b) (ht : gT X Y a b k = 0) :
    onB (X a) (Y a) (X b) (Y b) (X k) (Y k) = true ↔ (a ≤ k ∧ k ≤ b) ∨ (b ≤ k ∧ k ≤ a) := by
  have hR := sX_ris hg hr
  obtain ⟨_, c1, c2⟩ := allC_co hg ha
  obtain ⟨_, c3, c4⟩ := allC_co hg hb
  obtain ⟨_, c5, c6⟩ := allC_co hg hk
  have hxy : ¬ (X a = X b ∧ Y a = Y b) := by
    rintro ⟨e1, e2⟩
    have e : sX X Y a = sX X Y b := by unfold sX; rw [e1, e2]
    have h1 := (sX_mono hR ha hb).1 (by omega)
    have h2 := (sX_mono hR hb ha).1 (by omega)
    omega
  have h := box_lex c1 c2 c3 c4 c5 c6 hxy (show trn (X a) (Y a) (X b) (Y b) (X k) (Y k) = 0 from ht)
  have m1 := sX_mono hR ha hk
  have m2 := sX_mono hR hk hb
  have m3 := sX_mono hR hb hk
  have m4 := sX_mono hR hk ha
  unfold sX at m1 m2 m3 m4
  rw [m1, m2, m3, m4] at h
  rw [← h]
  have g : rp3 (X a) (Y a) (X b) (Y b) (X k) (Y k) = true := by
    unfold rp3
    rw [allC_rpT hg ha, allC_rpT hg hb, allC_rpT hg hk]; rfl
  unfold onB
  rw [g, show trn (X a) (Y a) (X b) (Y b) (X k) (Y k) = 0 from ht]
  simp
theorem goodR_iff {N : Nat} {X Y : Nat → Int} (hg : allC N X Y = true) (hr : risC N X Y) {a b : Nat} (ha : a < N) (hb : b < N) (hne : a ≠ b) : (∀ k, k < N → goodR X Y a b k) ↔ gE (sX X Y) Y (N - 1) a b := by
  constructor
  · intro h k hk
    have hkN : k < N := by omega
    obtain ⟨h1, h2⟩ := h k hkN
    obtain ⟨s1, s2⟩ := wy_gT hg a b k ha hb hkN
    refine ⟨by have := mt s1.2 h1; omega, fun h0 => ?_⟩
    have h3 := h2 (s2.2 h0)
    have h0' : gT X Y a b k = 0 := by rw [sX_T] at h0; omega
    have ho := onB_iff hg hr ha hb hkN hne h0'
    constructor
    · rintro ⟨k1, k2⟩
      have := h3 (by omega) (by omega)
      rw [ho.2 (.inl ⟨by omega, by omega⟩)] at this; cases this
    · rintro ⟨k1, k2⟩
      have := h3 (by omega) (by omega)
      rw [ho.2 (.inr ⟨by omega, by omega⟩)] at this; cases this
  · intro h k hkN
    obtain ⟨h1, h2⟩ := h k (by omega)
    obtain ⟨s1, s2⟩ := wy_gT hg a b k ha hb hkN
    refine ⟨fun e => by have := s1.1 e; omega, fun h0 k1 k2 => ?_⟩
    have h3 := h2 (s2.1 h0)
    have h0' : gT X Y a b k = 0 := by have := s2.1 h0; rw [sX_T] at this; omega
    have ho := onB_iff hg hr ha hb hkN hne h0'
    cases hb' : onB (X a) (Y a) (X b) (Y b) (X k) (Y k) with
    | false => rfl
    | true => rcases ho.1 hb' with c | c <;> omega
/-- from one point on there is one way around alone -/
theorem gE_one {X Y : Nat → Int} {N a b c q : Nat} (hX : gRis X N) (hN : 1 < N) (ha : a < N) (hb : b < N) (hc : c < N) (hq : q < N) (nb : a ≠ b) (nc : a ≠ c) (hf : gT X Y 0 1 q ≠ 0) (h1 : gE X Y (N - 1) a b) (h2 : gE X Y (N - 1) a c) : b = c := by
  refine Classical.byContradiction fun hne => ?_
  have z0 : gT X Y a b c = 0 := by
    have k1 := (h1 c (by omega)).1
    have k2 := (h2 b (by omega)).1
    have e : gT X Y a c b = -gT X Y a b c := by unfold gT; grind
    omega
  have z1 : gT X Y a c b = 0 := by
    have e : gT X Y a c b = -gT X Y a b c := by unfold gT; grind
    omega
  have s1 := (h1 c (by omega)).2 z0
  have s2 := (h2 b (by omega)).2 z1
  have opp : (b < a ∧ a < c) ∨ (c < a ∧ a < b) := by omega
  have par : ∀ k, (X b - X a) * gT X Y a c k = (X c - X a) * gT X Y a b k := fun k => by
    have e := gT_xab (X := X) (Y := Y) a b c k
    have e2 : gT X Y a k b = -gT X Y a b k := by unfold gT; grind
    rw [z0, e2] at e
    have e3 : (X c - X a) * -gT X Y a b k = -((X c - X a) * gT X Y a b k) := Int.mul_neg _ _
    rw [e3, Int.mul_zero] at e
    omega
  have all0 : ∀ k, k < N → gT X Y a b k = 0 := fun k hk => by
    have k1 := (h1 k (by omega)).1
    have k2 := (h2 k (by omega)).1
    have p := par k
    rcases opp with ⟨o1, o2⟩ | ⟨o1, o2⟩
    · have x1 := hX b a o1 ha
      have x2 := hX a c o2 hc
      have l1 : (X b - X a) * gT X Y a c k ≤ 0 := by
        have := Int.mul_nonneg (show 0 ≤ X a - X b by omega) k2
        have e : (X b - X a) * gT X Y a c k = -((X a - X b) * gT X Y a c k) := by grind
        omega
      have l2 := Int.mul_nonneg (show 0 ≤ X c - X a by omega) k1
      exact g_zero_of (show X c - X a ≠ 0 by omega) (by omega)
    · have x1 := hX c a o1 ha
      have x2 := hX a b o2 hb
      have l1 := Int.mul_nonneg (show 0 ≤ X b - X a by omega) k2
      have l2 : (X c - X a) * gT X Y a b k ≤ 0 := by
        have := Int.mul_nonneg (show 0 ≤ X a - X c by omega) k1
        have e : (X c - X a) * gT X Y a b k = -((X a - X c) * gT X Y a b k) := by grind
        omega
      exact g_zero_of (show X c - X a ≠ 0 by omega) (by omega)
  have e := gT_line (X := X) (Y := Y) a b 0 1 q
  rw [all0 0 (by omega), all0 1 hN, all0 q hq] at e
  have xb : X b - X a ≠ 0 := by
    rcases Nat.lt_or_gt_of_ne nb with h | h
    · have := hX a b h hb; omega
    · have := hX b a h ha; omega
  refine hf (g_zero_of xb ?_)
  rw [Int.mul_comm]; rw [e]; simp
theorem rc_of {N q : Nat} {X Y : Nat → Int} (hg : allC N X Y = true) (hr : risC N X Y) (hl : isLn N X Y q) (hq : q < N) {h : List Nat} {z : Nat} (H : Hul (sX X Y) Y (N - 1) h) (hz : z < h.length) (hz0 : gH h z = 0) (hln : h.length ≤ N) : RC N X Y (rotH h z) := by
  have h3 := H.len
  have h2 : 2 ≤ q := by have := hl.1; omega
  have ml : ∀ k, k % h.length < h.length := fun k => Nat.mod_lt _ (by omega)
  have hlen := rotH_len h z
  have hX := sX_ris hg hr
  have hf : gT (sX X Y) Y 0 1 q ≠ 0 := fun e => hl.2.2.2 hq ((wy_gT hg 0 1 q (by omega) (by omega) hq).2.2 e)
  have hle : ∀ i, i < h.length → gH h i < N := fun i hi => by have := H.le i hi; omega
  have nx : ∀ i, i < h.length → gH (rotH h z) ((i + 1) % h.length) = gH h (((z + i) % h.length + 1) % h.length) := fun i hi => by
    rw [rotH_at (ml _), Nat.add_mod_mod, Nat.mod_add_mod, show z + (i + 1) = z + i + 1 by omega]
  have nne : ∀ i, i < h.length → gH h ((i + 1) % h.length) ≠ gH h i := fun i hi e => (pred_ne hi h3).2.1 (H.nd _ _ (ml _) hi e)
  refine ⟨by omega, by omega, ?_, fun i h0 hi => ?_, fun i hi => ?_, fun i hi k hk hne => ?_, fun i hi => ?_⟩
  · rw [rotH_at (by omega), Nat.add_zero, Nat.mod_eq_of_lt hz, hz0]
  · rw [hlen] at hi
    rw [rotH_at hi]
    intro e
    have := H.nd _ _ (ml _) hz (e.trans hz0.symm)
    have h5 : i = 0 := g_mod_inj (f := z) hi (by omega) (by rw [this, Nat.add_zero, Nat.mod_eq_of_lt hz])
    omega
  · rw [hlen] at hi
    rw [rotH_at hi]
    exact hle _ (ml _)
  · rw [hlen] at hi ⊢
    rw [nx i hi]
    rw [rotH_at hi] at hne ⊢
    have e0 := H.edge _ (ml (z + i))
    have n0 := nne _ (ml (z + i))
    have l0 := hle _ (ml (z + i))
    have l1 := hle _ (ml ((z + i) % h.length + 1))
    rw [goodR_iff hg hr l0 hk hne.symm]
    constructor
    · intro h5
      exact gE_one hX (by omega) l0 hk l1 hq hne.symm n0.symm hf h5 e0
    · intro h5; rw [h5]; exact e0
  · rw [hlen] at hi ⊢
    rw [nx i hi, rotH_at hi]
    exact nne _ (ml _)
end Go.Proofs.Ytdlpfiiakmhnlaa

namespace Go.Proofs.Ytdlpfiiakmhnlaa
open Go.RowKit

/-- what Build makes of points -/
structure Tri (N : Nat) (X Y : Nat → Int) (q : Nat) (T : List Tri3) (O : Nat → List (Nat × Nat)) : Prop where
  ln : isLn N X Y q
  none : q = N → T = []
  some : q < N → ∃ h z, T = (bld X Y q (N - 1 - q)).2 ∧ h = (bld X Y q (N - 1 - q)).1 ∧ Hul (sX X Y) Y (N - 1) h ∧ Bnd (N - 1) h T ∧ Brd h T ∧ z < h.length ∧ gH h z = 0 ∧ HC N O (rotH h z) ∧ RC N X Y (rotH h z)
  fresh : Fresh N (fun _ _ => False) T
  rep : RepS O (gSd T)
  all : O = putAll (fun _ => []) T
theorem Tri.of {N q : Nat} {X Y : Nat → Int} (hg : allC N X Y = true) (hr : risC N X Y) (hl : isLn N X Y q) : Tri N X Y q (bldT N X Y q) (putAll (fun _ => []) (bldT N X Y q)) := by
  have fr : Fresh N (fun _ _ => False) (bldT N X Y q) := by
    unfold bldT
    split
    · trivial
    · have := hl.2.1; exact (bld_st hg hr hl (by omega) _ (by omega)).2.2
  have rp : RepS (putAll (fun _ => []) (bldT N X Y q)) (gSd (bldT N X Y q)) := rep_cong (rep_all _ rep_none fr) fun a b => ⟨fun h => h.elim False.elim id, .inr⟩
  refine ⟨hl, fun e => ?_, fun hq => ?_, fr, rp, rfl⟩
  · unfold bldT; rw [if_pos e]
  · have e : bldT N X Y q = (bld X Y q (N - 1 - q)).2 := by unfold bldT; rw [if_neg (by omega)]
    have em : q + (N - 1 - q) = N - 1 := by omega
    obtain ⟨H, B, _⟩ := bld_st hg hr hl hq (N - 1 - q) (by omega)
    have R := bld_brd hg hr hl hq (N - 1 - q) (by omega)
    rw [em] at H B
    rw [← e] at B R
    obtain ⟨z, z1, z2, z3⟩ := hc_of (N := N) H B R rp (by omega)
    exact ⟨_, z, e, rfl, H, B, R, z1, z2, z3, rc_of hg hr hl hq H z1 z2 (by have := B.hln; omega)⟩
theorem Build_tri (ao : Option Addr) (N cap : Nat) (X Y : Nat → Int) (w : World) (h : Pts w ao N cap X Y) (hN : N ≤ 4096) (hg : allC N X Y = true) (hr : risC N X Y) :
    Calls Try.prog 12 #[.slice ao N cap] w fun e w' => ∃ (t : Nat) (D : SD) (q : Nat) (T : List Tri3) (O : Nat → List (Nat × Nat)), e = .returned (.tuple #[ptr t 0, .int .i64 0]) ∧ Tri N X Y q T O ∧
      SM w' t D N X Y O (T.length : Nat) ∧ (∀ g, D.has t N g → w.heap.size ≤ g) ∧ Below w.heap.size w w' := by
  refine (Build_is ao N cap X Y w h hN hg hr).mono ?_
  rintro e w' ⟨t, D, q, he, hl, hs, h1, h2⟩
  exact ⟨t, D, q, _, _, he, Tri.of hg hr hl, hs, h1, h2⟩
/-- a block of whole points -/
theorem Pts.ofBlk {w : World} {b n : Nat} {c : Array Value} {X Y : Nat → Int} {ty : TypeId} (h : Blk w b c ty) (hn : n ≤ 9223372036854775807) (hc : ∀ i, i < n → c[i * 2]? = some (.int .i64 (X i)) ∧ c[i * 2 + 1]? = some (.int .i64 (Y i))) : Pts w (some ⟨b, 0, none⟩) n n X Y := by
  refine ⟨fun h0 => ⟨_, rfl, h.lt, fun i hi => ?_⟩, Nat.le_refl _, hn⟩
  obtain ⟨h1, h2⟩ := hc i hi
  have e : (⟨b, 0, none⟩ : Addr).add (i * 2) = ⟨b, i * 2, none⟩ := by unfold Addr.add; split <;> simp_all
  rw [e]
  exact ⟨(h.cell (i * 2)).trans h1, (h.cell (i * 2 + 1)).trans h2⟩
def lX (l : List Int) : Nat → Int := fun i => l.getD i 0
theorem aw_q {q : Nat} (h : isLn 4 (lX [0, 0, 2, 2]) (lX [0, 2, 0, 2]) q) : q = 2 := by
  have h1 : 2 ≤ q := by have := h.1; omega
  rcases Nat.lt_or_ge 2 q with h2 | h2
  · have := h.2.2.1 2 (Nat.le_refl _) h2
    exact absurd this (by decide)
  · omega
theorem aw_q2 {q : Nat} (h : isLn 3 (lX [0, 1, 2]) (lX [0, 0, 0]) q) : q = 3 := by
  have h1 : 2 ≤ q := by have := h.1; omega
  have h3 := h.2.1
  rcases Nat.lt_or_ge q 3 with h2 | h2
  · obtain rfl : q = 2 := by omega
    exact absurd (by decide) (h.2.2.2 h2)
  · omega
theorem aw_len : (bldT 4 (lX [0, 0, 2, 2]) (lX [0, 2, 0, 2]) 2).length = 2 ∧ (bld (lX [0, 0, 2, 2]) (lX [0, 2, 0, 2]) 2 1).1.length = 4 := by decide +kernel
theorem aw_1 : allC 4 (lX [0, 0, 2, 2]) (lX [0, 2, 0, 2]) = true ∧ risC 4 (lX [0, 0, 2, 2]) (lX [0, 2, 0, 2]) := by
  refine ⟨by decide, fun i hi => ?_⟩
  rcases (show i = 0 ∨ i = 1 ∨ i = 2 by omega) with rfl | rfl | rfl <;> decide
theorem aw_2 : allC 3 (lX [0, 1, 2]) (lX [0, 0, 0]) = true ∧ risC 3 (lX [0, 1, 2]) (lX [0, 0, 0]) := by
  refine ⟨by decide, fun i hi => ?_⟩
  rcases (show i = 0 ∨ i = 1 by omega) with rfl | rfl <;> decide
theorem aw_3 : allC 2 (lX [1, 0]) (lX [0, 0]) = true ∧ ¬ risC 2 (lX [1, 0]) (lX [0, 0]) := by
  refine ⟨by decide, fun h => absurd (h 0 (by omega)) (by decide)⟩
end Go.Proofs.Ytdlpfiiakmhnlaa

namespace Go.Proofs.Ytdlpfiiakmhnlaa
open Go.RowKit

theorem Tri.cyc {N q : Nat} {X Y : Nat → Int} {T : List Tri3} {O : Nat → List (Nat × Nat)} (h : Tri N X Y q T O) : Cyc O ∧ DomO N O ∧ (preO O N).length = T.length := by
  have hp : PutOk N (fun _ => []) T := putok_fresh _ rep_none h.fresh
  rw [h.all]
  refine ⟨Cyc.nil.all T hp, dom_all T Cyc.nil (fun a b c h => by cases h) hp, ?_⟩
  rw [pre_all T hp, pre_nil]; simp
/-- six numbers alike -/
@[go_sem] theorem run_eq6 (a b c d e f : Int) (w : World) :
    (Op.equalIn 10000 42 (.agg #[.int .i64 a, .int .i64 b, .int .i64 c, .int .i64 d, .int .i64 e, .int .i64 f]) (.agg #[.int .i64 a, .int .i64 b, .int .i64 c, .int .i64 d, .int .i64 e, .int .i64 f])).run Try.prog w = .ok true w := by
  have hu : Try.prog.underlying 42 = some (.array 3 41) := by kernel_rfl
  have hs : ∀ w, (sizeOf 41).run Try.prog w = .ok 2 w := fun w => by kernel_rfl
  have he : ∀ (a b : Int) w, (Op.equalIn 9999 41 (.agg #[.int .i64 a, .int .i64 b]) (.agg #[.int .i64 a, .int .i64 b])).run Try.prog w = .ok true w := fun a b w => by go_simp
  have hp0 : ∀ w, (part 41 #[.int .i64 a, .int .i64 b, .int .i64 c, .int .i64 d, .int .i64 e, .int .i64 f] 0).run Try.prog w = .ok (.agg #[.int .i64 a, .int .i64 b]) w := fun w => by kernel_rfl
  have hp2 : ∀ w, (part 41 #[.int .i64 a, .int .i64 b, .int .i64 c, .int .i64 d, .int .i64 e, .int .i64 f] 2).run Try.prog w = .ok (.agg #[.int .i64 c, .int .i64 d]) w := fun w => by kernel_rfl
  have hp4 : ∀ w, (part 41 #[.int .i64 a, .int .i64 b, .int .i64 c, .int .i64 d, .int .i64 e, .int .i64 f] 4).run Try.prog w = .ok (.agg #[.int .i64 e, .int .i64 f]) w := fun w => by kernel_rfl
  show (Op.equalIn (9999 + 1) _ _ _).run _ _ = _
  unfold Op.equalIn
  simp only [Sem.run_bind, run_underlying hu, Result.andThen_ok, hs]
  simp [List.range', he, hp0, hp2, hp4, Sem.run_bind]
end Go.Proofs.Ytdlpfiiakmhnlaa

namespace Go.Proofs.Ytdlpfiiakmhnlaa
open Go.RowKit
attribute [local go_sem] undef

set_option maxRecDepth 100000 in
set_option maxHeartbeats 2000000 in
theorem awake_is (w : World) : Calls Try.prog 11 #[] w fun e w' => e = .returned (.bool true) ∧ Below w.heap.size w w' := by
  go_enter Try.func11, Try.ntmps11
  go_wp2_with fail
  refine calls_w ?_
  intro V hV
  have bV : Below w.heap.size w V := by rw [hV]; exact below_a1 _ _
  have P1 : Pts V (some ⟨w.heap.size, 0, none⟩) 4 4 (lX [0, 0, 2, 2]) (lX [0, 2, 0, 2]) := by
    rw [hV]
    refine Pts.ofBlk (Blk.new w _ _) (by omega) fun i hi => ?_
    rcases (show i = 0 ∨ i = 1 ∨ i = 2 ∨ i = 3 by omega) with rfl | rfl | rfl | rfl <;> exact ⟨rfl, rfl⟩
  clear hV
  refine (Build_tri _ 4 4 _ _ V P1 (by omega) aw_1.1 aw_1.2).mono ?_
  rintro e V2 ⟨t, D, q, T, O, rfl, hT, hS, _, hb⟩
  obtain rfl := aw_q hT.ln
  obtain ⟨h, z, e1, e2, _, _, _, _, _, hH, _⟩ := hT.some (by omega)
  have hl : T.length = 2 := by
    rw [e1]; exact aw_len.1
  have hl2 : (rotH h z).length = 4 := by rw [rotH_len, e2]; exact aw_len.2
  rw [hl] at hS
  have HS := Lib.hid hS
  have HH := Lib.hid hH
  have HL := Lib.hid hl2
  have B2 := Lib.hid (bV.trans (hb.mono bV.size))
  clear P1 hT hS hH hl hl2 e1 e2 hb bV
  go_wp2_with fail
  refine (Len_is t D 4 _ _ O _ V2 HS.out).mono ?_
  rintro e V3 ⟨rfl, hb⟩
  have HS3 := Lib.hid (HS.out.of hb)
  have B3 := Lib.hid (B2.out.trans (hb.mono B2.out.size))
  clear hb HS B2
  go_wp2_with fail
  refine calls_w ?_
  intro V hV
  have bV : Below V3.heap.size V3 V := by rw [hV]; exact below_a1 _ _
  have P1 : Pts V (some ⟨V3.heap.size, 0, none⟩) 3 3 (lX [0, 1, 2]) (lX [0, 0, 0]) := by
    rw [hV]
    refine Pts.ofBlk (Blk.new V3 _ _) (by omega) fun i hi => ?_
    rcases (show i = 0 ∨ i = 1 ∨ i = 2 by omega) with rfl | rfl | rfl <;> exact ⟨rfl, rfl⟩
  clear hV
  refine (Build_tri _ 3 3 _ _ V P1 (by omega) aw_2.1 aw_2.2).mono ?_
  rintro e V4 ⟨t2, D2, q2, T2, O2, rfl, hT, hS, _, hb⟩
  obtain rfl := hT.none (aw_q2 hT.ln)
  have HA := Lib.hid hS
  have BB := bV.trans (hb.mono bV.size)
  have HS4 := Lib.hid (HS3.out.of BB)
  have B4 := Lib.hid (B3.out.trans (BB.mono B3.out.size))
  clear P1 hT hS hb BB bV HS3 B3
  go_wp2_with fail
  refine calls_w ?_
  intro V hV
  have bV : Below V4.heap.size V4 V := by rw [hV]; exact below_a1 _ _
  have P1 : Pts V (some ⟨V4.heap.size, 0, none⟩) 2 2 (lX [1, 0]) (lX [0, 0]) := by
    rw [hV]
    refine Pts.ofBlk (Blk.new V4 _ _) (by omega) fun i hi => ?_
    rcases (show i = 0 ∨ i = 1 by omega) with rfl | rfl <;> exact ⟨rfl, rfl⟩
  clear hV
  refine (Build_fall _ 2 2 _ _ V P1 (by omega) aw_3.1 aw_3.2).mono ?_
  rintro e V5 ⟨rfl, hb⟩
  have BB := bV.trans (hb.mono bV.size)
  have HS5 := Lib.hid (HS4.out.of BB)
  have HA5 := Lib.hid (HA.out.of BB)
  have B5 := Lib.hid (B4.out.trans (BB.mono B4.out.size))
  clear P1 hb BB bV HS4 B4 HA
  go_wp2_with fail
  refine (Len_is t2 D2 3 _ _ O2 _ V5 HA5.out).mono ?_
  rintro e V6 ⟨rfl, hb⟩
  have HS6 := Lib.hid (HS5.out.of hb)
  have B6 := Lib.hid (B5.out.trans (hb.mono B5.out.size))
  clear hb HS5 B5 HA5
  go_wp2_with fail
  refine (Hull_is t D 4 _ _ O _ _ HH.out (by decide) V6 HS6.out).mono ?_
  rintro e V7 ⟨v, rfl, hv, hb⟩
  obtain ⟨ao, cap, rfl, _⟩ := hv.val
  rw [HL.out]
  have B7 := Lib.hid (B6.out.trans (hb.mono B6.out.size))
  clear hb hv HS6 B6
  go_wp2
  go_ret
  exact ⟨rfl, B7.out⟩
end Go.Proofs.Ytdlpfiiakmhnlaa

namespace Go.Proofs.Ytdlpfiiakmhnlaa
open Go.RowKit
attribute [local go_sem] undef

theorem Trs.one {w : World} {b p0 p1 p2 : Nat} {ty : TypeId} (h : Blk w b #[.int .i64 (p0 : Nat), .int .i64 (p1 : Nat), .int .i64 (p2 : Nat)] ty) : Trs w (some ⟨b, 0, none⟩) 1 [(p0, p1, p2)] := by
  refine ⟨fun _ => ⟨b, rfl, h.lt, fun j x hx => ?_⟩, Nat.le_refl _, by omega⟩
  match j, hx with
  | 0, hx => simp at hx; subst hx; exact ⟨h.cell 0, h.cell 1, h.cell 2⟩
  | j + 1, hx => simp at hx
theorem pre_len (O : Nat → List (Nat × Nat)) {N M : Nat} (h : ∀ a, a < N → (O a).length ≤ M) : (preO O N).length ≤ N * M := by
  induction N with
  | zero => show 0 ≤ _; omega
  | succ N ih =>
    show (preO O N ++ told N (O N)).length ≤ _
    have h1 := ih fun a ha => h a (by omega)
    have h2 := h N (by omega)
    have h3 : (told N (O N)).length ≤ (O N).length := by unfold told; rw [List.length_map]; exact List.length_filter_le _ _
    rw [List.length_append, Nat.succ_mul]; omega
theorem SM.preL {w : World} {t : Nat} {D : SD} {N : Nat} {X Y : Nat → Int} {O : Nat → List (Nat × Nat)} {n : Int} (h : SM w t D N X Y O n) : (preO O N).length < 100000000 := by
  have h1 := pre_len O (N := N) (M := N) fun a ha => sort_len (h.sort a ha) fun x hx => (h.dom a ha x hx).1
  have h2 := h.small
  have : N * N ≤ 4096 * 4096 := Nat.mul_le_mul h2 h2
  omega
end Go.Proofs.Ytdlpfiiakmhnlaa

