/- The statement TriBesideSaid: for every input the law returns true, and its arguments read as before. Conditions: none. -/
import Derived.Test.YtdlpfiiakmhnlaaSBe3
import Derived.KernelRfl
import Derived.StillTail
import Derived.OrdersHeld
import Derived.Deep.Quiet
import Derived.Below
import Derived.WalkKit
import Derived.Test.YtdlpfiiakmhnlaaProg
import Derived.WalkSpells
import Derived.StillTactics
import Derived.Laws.Pointers
import Derived.Deep.RegionHeld3
import Derived.RowKit3
import Derived.Deep.QuietTactic
import Derived.BigQuiet
import Derived.BigRegion
import Derived.Lib.Hide
import Derived.WalkSmall
import Derived.Laws.BitsAllLaws
import Derived.IntWalk
import Derived.Deep.OwnRows
import Derived.Deep.LoopGhost
import Derived.Shelf.Bits.Mul64
import Derived.Test.YtdlpfiiakmhnlaaRows
import Derived.ProofKit
import Derived.OpenShut
import Derived.ShutString
import Derived.ChangeOld
import Derived.Lib.SmallJoins
import Derived.Laws.IdiomArrays
import Derived.Laws.CopyOwn
import Derived.Laws.AppendOwn
import Derived.Deep.DeepAppendRoom
import Derived.Lib.AppendZerosOnto
import Derived.Lib.Overlaps
import Derived.Deep.RegionLaw
import Derived.Shelf.RegionOpenPlain
import Derived.Deep.RegionWith
import Derived.Sort.LoopGhostIn
import Derived.RangeFuncNested
import Derived.RangeFuncBound
import Derived.RangeFuncCalls
import Derived.RangeFuncLeaves
import Derived.OwnWalk
import Derived.OwnWalkIn
import Derived.TacticsInMore
import Derived.LoopNIn
import Derived.LoopIn
import Derived.Deep.DeepFit
import Derived.Deep.DeepCutAuto
import Derived.Shelf.Abstract
import Derived.Shelf.RegionOpen
import Derived.Maps.OwnIn
import Derived.WalkMore
import Derived.Deep.SlicePairs
namespace Go.Proofs.Ytdlpfiiakmhnlaa
open Go.RowKit Go.Shelf
attribute [local go_sem] Oper.semAt_some undef

theorem stepR_scope {P : Program} {b : Frame} {a : Act} {k : List Item} {cs : List Frame} {w : World} {c : Code} : step P (lone (b.atR a (.code (.scope c) :: k)) cs w) = .next (lone (b.atR a (.code c :: .inScope c :: k)) cs w) :=
  step_lone_go (by simp [stepG, stepG.exec, Frame.atR])
theorem stepR_inScope {P : Program} {b : Frame} {a : Act} {k : List Item} {cs : List Frame} {w : World} {c : Code} : step P (lone (b.atR a (.inScope c :: k)) cs w) = .next (lone (b.atR a k) cs w) :=
  step_lone_go (by simp [stepG, stepG.exec, Frame.atR])
theorem wpIn_scope {F : Fence} {n : Nat} {P : Program} {Q : Exit → Act → World → Prop} {a : Act} {w : World} {c : Code} (h : c.wpIn F n P (Exit.noGoto Q) a w) : (Code.scope c).wpIn F n P Q a w := by
  intro b k cs hro hb hr
  have h0 : (lone (b.atR a (.code (.scope c) :: k)) cs w).fenced P F := fenced_calm hb hr rfl
  obtain ⟨e, a₁, w₁, hq, harr⟩ := h b (.inScope c :: k) cs hro hb hr
  cases e with
  | normal => exact ⟨.normal, a₁, w₁, hq, .head h0 stepR_scope (StepsIn.trans harr (.one (fenced_calm hb hr rfl) stepR_inScope))⟩
  | exit id =>
    have hx : exitTo id (.inScope c :: k) = exitTo id k := by simp [exitTo]
    exact ⟨.exit id, a₁, w₁, hq, fun k' hk => .head h0 stepR_scope (harr.1 k' (by rw [hx]; exact hk)),
      fun hr' hk => let ⟨k₁, h1, h2⟩ := harr.2 hr' (by rw [hx]; exact hk); ⟨k₁, h1, .head h0 stepR_scope h2⟩⟩
  | goto l => exact hq.elim
  | ret => exact ⟨_, a₁, w₁, hq, .of_steps (.one h0 stepR_scope) harr⟩
  | panic ch => exact ⟨_, a₁, w₁, hq, .of_steps (.one h0 stepR_scope) harr⟩
  | outgrown => exact ⟨_, a₁, w₁, hq, .of_steps (.one h0 stepR_scope) harr⟩
theorem wpListIn_append_nl {F : Fence} {nF : Nat} {w : World} {ops : Array Oper} {rest : List Oper} {o : Oper} {a : Act} {Q : Exit → Act → World → Prop} (hgd : o.guard = none) (s x : Operand)
    (ho : o.op = .call { callee := .builtin .append, args := #[s, x], argTypes := #[29, 29] })
    (base : Nat) (v : Value) (L : List Nat) (y : Nat) (vb : Nat) (hs : a.eval s = v) (hx : a.eval x = .slice (some ⟨vb, 0, none⟩) 1 1) (hb : Blk w vb #[.int .i64 (y : Nat)] 3)
    (hnl : NL w base v L) (hL : L.length < 100000) (hbase : base ≤ w.heap.size)
    (h : ∀ ao n cap w', n = L.length + 1 → NL w' base (.slice ao n cap) (L ++ [y]) → w.grownBy w' v.ownBlock → wpListIn F nF Try.prog ops Q rest (a.put o.dst (.slice ao n cap)) w') : wpListIn F nF Try.prog ops Q (o :: rest) a w := by
  obtain ⟨i0, hi, hz0, hz1, hz2⟩ := info_parts info_int
  refine wpListIn_append_own_at _ hgd s x 29 ho base 3 i0 (.int .i64 0) 1 8 Try.underlying29 hi hz0 hz1 hz2 rfl (by decide) v L.length _ hs hnl ⟨vb, 0, none⟩ 1 1 [.int .i64 y] hx rfl (int_src hb) (int_one _) (by unfold maxLen; omega) (by omega) hbase ?_
  intro v' w' own gr _ _
  have hn : NL w' base v' (L ++ [y]) := by
    unfold NL
    rw [List.length_append, List.map_append]; exact own
  obtain ⟨ao, cap, rfl, _⟩ := hn.val
  exact h ao _ cap w' (by simp) hn gr
theorem NL.low2 {w : World} {base base' : Nat} {v : Value} {L : List Nat} (h : NL w base v L) (hb : base' ≤ base) : NL w base' v L := by
  refine ⟨h.1, h.2.imp id ?_⟩
  rintro ⟨g, cap, cur, e, hbg, r⟩
  exact ⟨g, cap, cur, e, by omega, r⟩
theorem NL.own {w : World} {base : Nat} {v : Value} {L : List Nat} (h : NL w base v L) {g : Nat} (hg : v.ownBlock = some g) : base ≤ g ∧ g < w.heap.size := World.ownsRow.lt h g hg
theorem Marks.grown {y : Nat} {w w' : World} {v : Value} {base : Nat} {L : List Nat} (hn : NL w base v L) (hg : w.grownBy w' v.ownBlock) : ∀ {ds : List Deferred}, Marks y w ds → Marks y w' ds := by
  intro ds
  induction ds with
  | nil => intro _; trivial
  | cons d ds ih =>
    rintro ⟨⟨r, h1, h2, h3, h4⟩, h5⟩
    refine ⟨⟨r, h1, h2, (hg.block r (Array.getElem?_eq_some_iff.1 h3).1 fun e => ?_).trans h3, h4⟩, ih h5⟩
    obtain ⟨cur, hc, _⟩ := hn.typ e.symm
    rw [h3] at hc; cases hc
theorem NL.keep {w w' : World} {base : Nat} {v : Value} {L : List Nat} (h : NL w base v L) (hb : ∀ g, v.ownBlock = some g → w'.heap[g]? = w.heap[g]?) : NL w' base v L := by
  refine ⟨h.1, h.2.imp id ?_⟩
  rintro ⟨g, cap, cur, rfl, hbg, hg, r⟩
  exact ⟨g, cap, cur, rfl, hbg, (hb g rfl).trans hg, r⟩
theorem Marks.own {y : Nat} {w : World} {v : Value} {base : Nat} {L : List Nat} (hn : NL w base v L) : ∀ {ds : List Deferred}, Marks y w ds → ∀ d, d ∈ ds → ∀ r, d.target = .collected r → v.ownBlock ≠ some r := by
  intro ds
  induction ds with
  | nil => intro _ d hd; cases hd
  | cons d ds ih =>
    rintro ⟨⟨r, h1, h2, h3, h4⟩, h5⟩ d' hd' r' hr' e
    rcases List.mem_cons.1 hd' with rfl | hd'
    · rw [h1] at hr'
      injection hr' with hr'
      subst hr'
      obtain ⟨cur, hc, _⟩ := hn.typ e
      rw [h3] at hc; cases hc
    · exact ih h5 d' hd' r' hr' e
theorem nxtO_at {O : Nat → List (Nat × Nat)} {a k : Nat} {x : Nat × Nat} (hx : (O a)[k]? = some x) (hb : ∀ j y, j < k → (O a)[j]? = some y → lookH (O y.1) (a : Nat) ≠ none) (hn : lookH (O x.1) (a : Nat) = none) : nxtO O a = some x.1 := by
  unfold nxtO
  have : (O a).find? (fun x => (lookH (O x.1) a).isNone) = some x := by
    rw [List.find?_eq_some_iff_getElem]
    obtain ⟨hk, hxe⟩ := List.getElem?_eq_some_iff.1 hx
    refine ⟨by rw [hn]; rfl, k, hk, hxe, fun j hj => ?_⟩
    have := hb j _ hj (List.getElem?_eq_getElem (by omega))
    cases h : lookH (O ((O a)[j]).1) (a : Nat) with
    | none => exact absurd h this
    | some z => simp
  rw [this]; rfl
theorem nxtO_end {O : Nat → List (Nat × Nat)} {a : Nat} (hb : ∀ j y, j < (O a).length → (O a)[j]? = some y → lookH (O y.1) (a : Nat) ≠ none) : nxtO O a = none := by
  unfold nxtO
  rw [Option.map_eq_none_iff, List.find?_eq_none]
  intro y hy
  obtain ⟨j, hj, e⟩ := List.getElem_of_mem hy
  have := hb j y hj (by rw [List.getElem?_eq_getElem hj, e])
  cases h : lookH (O y.1) (a : Nat) with
  | none => exact absurd h this
  | some z => simp
theorem gH_take {H : List Nat} {k : Nat} (hk : k < H.length) : H.take (k + 1) = H.take k ++ [gH H k] := by
  rw [List.take_add_one, gH_at hk]; rfl
set_option maxRecDepth 100000 in
set_option maxHeartbeats 4000000 in
theorem Hull_is (t : Nat) (D : SD) (N : Nat) (X Y : Nat → Int) (O : Nat → List (Nat × Nat)) (n : Int) (H : List Nat) (hH : HC N O H) (hn : n ≠ 0) (w : World) (h : SM w t D N X Y O n) :
    Calls Try.prog 13 #[ptr t 0] w fun e w' => ∃ v, e = .returned v ∧ NL w' w.heap.size v H ∧ Below w.heap.size w w' := by
  have HS := Lib.hid h
  have HH := Lib.hid hH
  have hpos := hH.pos
  have hlen := hH.len
  obtain ⟨c0, c1, c2⟩ := h.c
  have hsm := h.small
  have hzt := h.blk.lt
  clear h hH
  refine (callsIn_wide (n := 3)).1 ?_
  refine callsIn_of_wp_marks Try.func13 rfl trivial ?_ rfl
  simp only [Try.ntmps13, List.size_toArray, List.length_cons, List.length_nil, Nat.reduceAdd, Nat.reduceSub, Array.replicate_succ, Array.replicate_zero, List.push_toArray, List.append_toArray, List.nil_append, List.cons_append]
  have hn0 : (n == 0) = false := by simpa using hn
  gi_wp2_with fail
  refine wpIn_scope ?_
  gi_wp2_with fail
  refine wpIn_label ?_
  gi_wp2_with fail
  refine nameIn ?_
  intro V hV
  obtain ⟨y0, ey0⟩ : ∃ y, w.heap.size = y := ⟨_, rfl⟩
  obtain ⟨y, ey⟩ : ∃ y, w.heap.size + 1 = y := ⟨_, rfl⟩
  have hy01 : y0 < y := by omega
  have hbV : Below w.heap.size w V := by rw [hV]; exact below_a2 _ _ _
  have K0 : Hid (Blk V y0 #[ptr t 0] 25) := by rw [hV, ← ey0]; exact Lib.hid ((Blk.new w _ _).alloc _)
  have K1 : Hid (Blk V y #[.int .i64 (gH H 0 : Nat)] 3) := by rw [hV, ← ey, HH.out.zero]; exact Lib.hid (Blk.new1 w _ _ _)
  have hVs : V.heap.size = y + 1 := by rw [hV]; simp; omega
  have BV := Lib.hid hbV
  obtain ⟨len, hl⟩ : ∃ l, H.length = l := ⟨_, rfl⟩
  have HLN := Lib.hid hl
  rw [hl] at hpos hlen
  rw [ey, ey0]
  have hz0 : w.heap.size = y0 := ey0
  clear hV hbV hl c0 c1 c2 ey
  refine wpIn_loop_ghost_k (fun gk act wr => ∃ (u5 u6 u7 u8 u9 u10 u11 u12 u13 u14 u15 u16 u17 u18 u19 u20 u21 u22 u23 u24 u25 u26 u27 u28 u29 u30 u31 u32 u33 u34 u35 u36 u37 u38 u39 u40 u41 u42 u43 u44 u45 u46 u47 u48 u49 : Value) (ds : List Deferred) (k : Nat) (ho : Option Addr) (hc a : Nat), (k ≤ len ∧ len - k ≤ gk ∧ (k = len → a = 0) ∧ (0 < k → k < len → a ≠ 0) ∧ Hid (a = gH H (k % len)) ∧ Hid (NL wr (y + 1) (.slice ho k hc) (H.take k)) ∧ Hid (Below w.heap.size w wr) ∧ Hid (Blk wr y0 #[ptr t 0] 25) ∧ Hid (Blk wr y #[.int .i64 (a : Nat)] 3) ∧ y + 1 ≤ wr.heap.size ∧ Hid (Marks y wr ds)) ∧ act = { tmps := #[ptr t 0, ptr y0 0, .slice none 0 0, .slice ho k hc, ptr y 0, u5, u6, u7, u8, u9, u10, u11, u12, u13, u14, u15, u16, u17, u18, u19, u20, u21, u22, u23, u24, u25, u26, u27, u28, u29, u30, u31, u32, u33, u34, u35, u36, u37, u38, u39, u40, u41, u42, u43, u44, u45, u46, u47, u48, u49], defers := ds }) len ⟨_, _, _, _, _, _, _, _, _, _, _, _, _, _, _, _, _, _, _, _, _, _, _, _, _, _, _, _, _, _, _, _, _, _, _, _, _, _, _, _, _, _, _, _, _, [], 0, none, 0, 0, ⟨Nat.zero_le _, Nat.le_refl _, fun _ => rfl, fun h => by omega, Lib.hid (by rw [Nat.zero_mod]; exact HH.out.zero.symm), Lib.hid NL.none, BV, K0, by rw [HH.out.zero] at K1; exact K1, by omega, Lib.hid trivial⟩, rfl⟩ ?_
  intro gk act wr hinv J K hJ hK
  obtain ⟨u5, u6, u7, u8, u9, u10, u11, u12, u13, u14, u15, u16, u17, u18, u19, u20, u21, u22, u23, u24, u25, u26, u27, u28, u29, u30, u31, u32, u33, u34, u35, u36, u37, u38, u39, u40, u41, u42, u43, u44, u45, u46, u47, u48, u49, ds, k, ho, hc, a, ⟨hk, hgk, ha0, han, HA, HNL, HB, HK0, HK1, hyw, HM⟩, rfl⟩ := hinv
  clear K0 K1 BV hVs
  have b0 := HK0.out.cell 0
  have b1 := HK1.out.cell 0
  simp only [List.getElem?_toArray, List.getElem?_cons_zero] at b0 b1
  obtain ⟨c0, c1, c2⟩ := (HS.out.of HB.out).c
  by_cases hlt : k < len
  · have haN : a < N := by rw [HA.out, Nat.mod_eq_of_lt hlt]; exact HH.out.lt k (by rw [HLN.out]; exact hlt)
    have hnx : nxtO O a = some (gH H ((k + 1) % len)) := by
      have := HH.out.nxt k (by rw [HLN.out]; exact hlt)
      rw [HLN.out] at this
      rw [HA.out, Nat.mod_eq_of_lt hlt]; exact this
    have HNX := Lib.hid hnx
    clear hnx
    have hzb := HB.out.size
    rcases Nat.eq_zero_or_pos k with hk0 | hk0
    · subst hk0
      have hq1 : (H.take 0).length < 100000 := by rw [List.length_take]; omega
      have hq2 : y + 1 ≤ (wr.alloc (.cells #[.int .i64 (a : Nat)] 3)).heap.size := by simp; omega
      gi_wp2_with (gi_at_builtin; go_loud (refine wpListIn_append_nl rfl _ _ rfl (y + 1) (.slice ho 0 hc) (H.take 0) a wr.heap.size rfl rfl (Blk.new wr _ _) (HNL.out.of (below_a1 _ _)) hq1 hq2 ?_))
      intro ho2 m2 hc2 V1 hm2 nl2 gr2
      have hva : (wr.alloc (.cells #[.int .i64 (a : Nat)] 3)).heap.size = wr.heap.size + 1 := by simp
      have hoy : ∀ g, (Value.slice ho 0 hc).ownBlock = some g → y + 1 ≤ g := fun g hg => (HNL.out.own hg).1
      have hV1 : ∀ g, g < wr.heap.size → (Value.slice ho 0 hc).ownBlock ≠ some g → V1.heap[g]? = wr.heap[g]? := fun g h1 h2 => (gr2.block g (by omega) (fun e => h2 e.symm)).trans ((below_a1 wr _).block g h1)
      have hss : wr.heap.size + 1 ≤ V1.heap.size := by have := gr2.size; omega
      have B1 : Below w.heap.size w V1 := HB.out.trans ⟨gr2.os, gr2.tape, gr2.output, by omega, fun g hg => hV1 g (by omega) (fun e => by have := hoy g e; omega)⟩
      have k0 : Blk V1 y0 #[ptr t 0] 25 := (hV1 y0 (by omega) (fun e => by have := hoy _ e; omega)).trans HK0.out
      have k1 : Blk V1 y #[.int .i64 (a : Nat)] 3 := (hV1 y (by omega) (fun e => by have := hoy _ e; omega)).trans HK1.out
      have hM1 : Marks y V1 ds := ((HM.out.keep fun r _ h2 => (below_a1 wr (.cells #[.int .i64 (a : Nat)] 3)).block r h2).grown (HNL.out.of (below_a1 wr _)) gr2)
      have hm3 : m2 = 0 + 1 := by first | (rw [hm2, List.length_take]; omega) | (have := HLN.out; omega)
      have nl3 : NL V1 (y + 1) (.slice ho2 (0 + 1) hc2) (H.take (0 + 1)) := by
        rw [gH_take (by rw [HLN.out]; exact hlt), ← hm3]
        have e : gH H 0 = a := by rw [HA.out, Nat.mod_eq_of_lt hlt]
        rw [e]; exact nl2
      subst hm3
      have BB := Lib.hid B1
      have K0 := Lib.hid k0
      have K1 := Lib.hid k1
      have HM1 := Lib.hid hM1
      have NL3 := Lib.hid nl3
      have hy1 : y + 1 ≤ V1.heap.size := by omega
      have d0 := k0.cell 0
      have d1 := k1.cell 0
      simp only [List.getElem?_toArray, List.getElem?_cons_zero] at d0 d1
      clear hva hoy hV1 hss B1 k0 k1 hM1 hm2 nl2 nl3 gr2 HNL HK0 HK1 HB HM b0 b1 c0 c1 c2 hq1 hq2
      gi_wp2_with fail
      refine ⟨trivial, callsIn_wide.2 ?_⟩
      refine (Around_is t a V1).mono ?_
      rintro e V2 ⟨rfl, kcs, kca, hb2⟩
      obtain ⟨cs, ecs⟩ : ∃ b, V1.heap.size = b := ⟨_, rfl⟩
      obtain ⟨ca, eca⟩ : ∃ b, V1.heap.size + 1 = b := ⟨_, rfl⟩
      have o3 : cs < ca := by omega
      have o4 : ca < V2.heap.size := by have := kca.lt; omega
      have o5 : y < cs := by omega
      have SM2 := Lib.hid (HS.out.of (BB.out.trans (hb2.mono BB.out.size)))
      have BB2 := Lib.hid (BB.out.trans (hb2.mono BB.out.size))
      have KS2 := Lib.hid (K0.out.of hb2)
      have KA2 := Lib.hid (K1.out.of hb2)
      have NL2 := Lib.hid (NL3.out.of hb2)
      have HM2 : Hid (Marks y V2 ds) := Lib.hid (HM1.out.keep fun r _ h2 => hb2.block r h2)
      have hy0w : y0 < V2.heap.size := by omega
      rw [eca] at kca ⊢
      rw [ecs] at kcs ⊢
      have KC := Lib.hid (And.intro kcs kca)
      clear kcs kca hb2 BB K0 K1 NL3 HM1 d0 d1 ecs eca
      gi_wp2_with fail
      obtain ⟨z, hz⟩ : ∃ z, gH H ((0 + 1) % len) = z := ⟨_, rfl⟩
      have HZ := Lib.hid hz
      rw [hz] at HNX
      obtain ⟨lr, hlr⟩ : ∃ l, (O a).length = l := ⟨_, rfl⟩
      have HLR := Lib.hid hlr
      have hrow : rowO N O (a : Int) = O a := by unfold rowO; rw [if_pos (by omega)]; rfl
      have hT := Around1_tells cs ca t D N X Y O n a (O a) hrow (V2.heap.size + 2)
      rw [hlr] at hT
      clear hlr hrow hz
      refine wpIn_rangeX (m := 1) (gf := 67) (lb := #[ptr cs 0, ptr ca 0]) (N := lr) (encs := arE (O a)) (Kp := fun W => Blk W cs #[ptr t 0] 25 ∧ Blk W ca #[.int .i64 (a : Nat)] 3 ∧ SM W t D N X Y O n) rfl (fun args w => by go_simp) hT (fun _ => rfl)
        (fun G j W => (∀ g, ¬ G g) ∧ Below V2.heap.size V2 W ∧ ∀ i x, i < j → (O a)[i]? = some x → lookH (O x.1) (a : Nat) ≠ none)
        (fun c j W => c = .exit 1 ∧ Fr V2 W (fun b => b = y) ∧ Blk W y #[.int .i64 (z : Nat)] 3) ?hg ?stable ?xstable ?keeps ?start ?round ?done ?stop
      case hg => rintro G j W ⟨j1, _⟩ g hg; exact absurd hg (j1 g)
      case stable => rintro G j W W' ⟨j1, j2, j3⟩ ⟨hbl, _⟩; exact ⟨j1, j2.trans hbl, j3⟩
      case xstable =>
        rintro c j W W' ⟨j1, j2, j3⟩ hbl
        exact ⟨j1, j2.trans (S' := fun b => V2.heap.size ≤ b) ⟨hbl.os, hbl.tape, hbl.output, hbl.size, fun k _ hk => hbl.block k (by omega)⟩ (fun _ h => .inr h), j3.below hbl (by omega)⟩
      case keeps =>
        rintro G j W ⟨j1, j2, j3⟩
        exact ⟨KC.out.1.of j2, KC.out.2.of j2, SM2.out.of j2⟩
      case start => exact ⟨fun g h => h, Below.refl _ _, fun i x hi => by omega⟩
      case round =>
        rintro l2 D2 j G W2 hj ⟨j1, j2, j3⟩ g1 g2 g3 g4
        obtain ⟨x, hx⟩ : ∃ x, (O a)[j]? = some x := ⟨_, List.getElem?_eq_getElem (show j < (O a).length by rw [HLR.out]; exact hj)⟩
        have hE : arE (O a) j = #[.int .i64 x.1, .int .i64 x.2] := by unfold arE; rw [List.getD_eq_getElem?_getD, hx]; rfl
        rw [hE]
        obtain ⟨xb, xc⟩ := x
        have HX := Lib.hid hx
        have J1 := Lib.hid j1
        have J2 := Lib.hid j2
        have J3 := Lib.hid j3
        clear j1 j2 j3 hx hE hT
        gi_wp2_with fail
        refine ⟨⟨Fix2.of (OutL.refl [] _) g3 g4 (by simp) (by simp), AboveX.refl _ _ _⟩, ?_⟩
        intro W3 hW3
        have hs3 := hW3.size
        have B3 := Lib.hid (J2.out.trans (hW3.below (B := V2.heap.size) (by omega) (by simp; omega)))
        have q0 := (KS2.out.of B3.out).cell 0
        have q1 := (KA2.out.of B3.out).cell 0
        simp only [List.getElem?_toArray, List.getElem?_cons_zero] at q0 q1
        gi_wp2_with fail
        refine ⟨trivial, CallsIn.inRound l2 (callsIn_wide.2 ?_)⟩
        have hxd := (HS.out.dom a haN _ (List.mem_iff_getElem?.2 ⟨j, HX.out⟩)).1
        have hlo : leftO N O (xb : Int) (a : Int) = lookH (O xb) (a : Nat) := by unfold leftO; rw [if_pos (by simp only [] at hxd; omega)]; rfl
        obtain ⟨R, hR⟩ : ∃ R, lookH (O xb) (a : Nat) = R := ⟨_, rfl⟩
        have HR := Lib.hid hR
        refine (Left_is t D N X Y O n xb a W3 (SM2.out.of B3.out) R (hlo.trans hR)).mono ?_
        rintro e W4 ⟨rfl, hb4⟩
        have hs4 := hb4.size
        have B4 := Lib.hid (B3.out.trans (hb4.mono B3.out.size))
        have X34 := Lib.hid hb4
        have k1 := KA2.out.of B4.out
        have r1 := k1.cell 0
        have f1 := k1.free 0
        have l1 := k1.lt
        simp only [List.getElem?_toArray, List.getElem?_cons_zero] at r1
        have K1 := Lib.hid k1
        have hsz3 : V2.heap.size ≤ W3.heap.size := B3.out.size
        clear hxd hlo hR q0 q1 k1 hb4 B3
        cases R with
        | some c =>
          have GG : Hid ((Fix2 l2 D2 W3 W4 ∧ ∃ G' : Nat → Prop, (∀ g, G' g → G g ∨ W3.heap.size ≤ g) ∧ (∀ g, ¬ G' g) ∧ Below V2.heap.size V2 W4 ∧ ∀ i x, i < j + 1 → (O a)[i]? = some x → lookH (O x.1) (a : Nat) ≠ none) ∧ AboveX (V2.heap.size + 2) G W3 W4) := by
            refine Lib.hid ⟨⟨⟨X34.out.block l2 (by omega), X34.out.block D2 (by omega)⟩, fun _ => False, fun g h => h.elim, fun g h => h, B4.out, fun i x hi hx => ?_⟩, ⟨hs4, fun k _ hk _ => X34.out.block k hk⟩⟩
            rcases Nat.lt_or_ge i j with h | h
            · exact J3.out i x h hx
            · have : i = j := by omega
              subst this
              rw [HX.out] at hx
              injection hx with hx
              subst hx
              intro e
              have := HR.out
              rw [e] at this; cases this
          clear r1 f1 l1 hs4
          gi_wp2
          exact GG.out
        | none =>
          have hzx : z = xb := by
            have := nxtO_at HX.out J3.out HR.out
            rw [HNX.out] at this
            injection this
          have GG : Hid ((Fix2 l2 D2 W3 (W4.setCell ⟨y, 0, none⟩ (.int .i64 (xb : Nat))) ∧ Fr V2 (W4.setCell ⟨y, 0, none⟩ (.int .i64 (xb : Nat))) (fun b => b = y) ∧ Blk (W4.setCell ⟨y, 0, none⟩ (.int .i64 (xb : Nat))) y #[.int .i64 (z : Nat)] 3) ∧ AboveX (V2.heap.size + 2) G W3 (W4.setCell ⟨y, 0, none⟩ (.int .i64 (xb : Nat)))) := by
            have hst : ∀ g, g ≠ y → (W4.setCell ⟨y, 0, none⟩ (.int .i64 (xb : Nat))).heap[g]? = W4.heap[g]? := fun g h => Below.heap_setCell W4 ⟨y, 0, none⟩ (.int .i64 (xb : Nat)) g h
            have hsf : (W4.setCell ⟨y, 0, none⟩ (.int .i64 (xb : Nat))).heap.size = W4.heap.size := by simp [World.setCell]
            refine Lib.hid ⟨⟨⟨(hst l2 (by omega)).trans (X34.out.block l2 (by omega)), (hst D2 (by omega)).trans (X34.out.block D2 (by omega))⟩, ⟨B4.out.os, B4.out.tape, B4.out.output, by rw [hsf]; exact B4.out.size, fun k hk hn => (hst k hn).trans (B4.out.block k hk)⟩, ?_⟩, ⟨by rw [hsf]; exact hs4, fun k h1 hk _ => (hst k (by omega)).trans (X34.out.block k hk)⟩⟩
            rw [hzx]; exact K1.out.put 0 (.int .i64 (xb : Nat))
          clear hs4 hzx
          gi_wp2
          exact ⟨⟨GG.out.1.1, rfl, GG.out.1.2⟩, GG.out.2⟩
      case done =>
        rintro Dd G V5 g1 ⟨j1, j2, j3⟩ hD
        have := nxtO_end (a := a) (O := O) (fun i y hi => j3 i y (by rw [← HLR.out]; exact hi))
        rw [HNX.out] at this
        cases this
      case stop =>
        rintro Dd c k' V5 g1 ⟨rfl, j2, j3⟩ hD
        have hst : Hid (0 + 1 ≤ len ∧ (0 + 1 = len → z = 0) ∧ (0 < 0 + 1 → 0 + 1 < len → z ≠ 0) ∧ z = gH H ((0 + 1) % len)) := by
          refine Lib.hid ⟨hlt, fun h => ?_, fun _ h => ?_, HZ.out.symm⟩
          · rw [← HZ.out, h, Nat.mod_self]; exact HH.out.zero
          · rw [← HZ.out, Nat.mod_eq_of_lt h]; exact HH.out.nz _ (by omega) (by rw [HLN.out]; exact h)
        have F1 := Lib.hid (BB2.out.trans (j2.below (B := w.heap.size) BB2.out.size (fun k h => by omega)))
        have F2 := Lib.hid (j2.blk KS2.out (by omega))
        have F3 := Lib.hid j3
        have F4 : Hid (NL V5 (y + 1) (.slice ho2 (0 + 1) hc2) (H.take (0 + 1))) := Lib.hid (NL2.out.keep fun g hg => j2.block g (NL2.out.own hg).2 (by have := (NL2.out.own hg).1; omega))
        have F5 : Hid (Marks y V5 ({ target := .collected Dd, args := #[] } :: ds)) := Lib.hid ⟨⟨Dd, rfl, by omega, hD, fun d hd r hr => by have := HM2.out.lt d hd r hr; omega⟩, HM2.out.keep fun r h1 h2 => j2.block r h2 (by omega)⟩
        have hs5 := j2.size
        have hy5 : y + 1 ≤ V5.heap.size := by omega
        have hms : len - (0 + 1) < gk := by omega
        clear j2 j3 hD hT BB2 KS2 KA2 NL2 HM2 KC
        gi_wp2_with fail
        exact ⟨len - (0 + 1), hms, hJ _ _ _ ⟨_, _, _, _, _, _, _, _, _, _, _, _, _, _, _, _, _, _, _, _, _, _, _, _, _, _, _, _, _, _, _, _, _, _, _, _, _, _, _, _, _, _, _, _, _, _ , 0 + 1, ho2, hc2, z, ⟨hst.out.1, Nat.le_refl _, hst.out.2.1, hst.out.2.2.1, Lib.hid hst.out.2.2.2, F4, F1, F2, F3, hy5, F5⟩, rfl⟩⟩
    · have hk1 : ¬ k = 0 := by omega
      have hk2 : ¬ a = 0 := han hk0 hlt
      have hk4 : ((k : Int) == 0) = false := by simp; omega
      have hk5 : ((a : Int) != 0) = true := by simp; omega
      have hk3 : (k : Int) < (N : Int) := by omega
      clear hk0
      have hq1 : (H.take k).length < 100000 := by rw [List.length_take]; omega
      have hq2 : y + 1 ≤ (wr.alloc (.cells #[.int .i64 (a : Nat)] 3)).heap.size := by simp; omega
      gi_wp2_with (gi_at_builtin; go_loud (refine wpListIn_append_nl rfl _ _ rfl (y + 1) (.slice ho k hc) (H.take k) a wr.heap.size rfl rfl (Blk.new wr _ _) (HNL.out.of (below_a1 _ _)) hq1 hq2 ?_))
      intro ho2 m2 hc2 V1 hm2 nl2 gr2
      have hva : (wr.alloc (.cells #[.int .i64 (a : Nat)] 3)).heap.size = wr.heap.size + 1 := by simp
      have hoy : ∀ g, (Value.slice ho k hc).ownBlock = some g → y + 1 ≤ g := fun g hg => (HNL.out.own hg).1
      have hV1 : ∀ g, g < wr.heap.size → (Value.slice ho k hc).ownBlock ≠ some g → V1.heap[g]? = wr.heap[g]? := fun g h1 h2 => (gr2.block g (by omega) (fun e => h2 e.symm)).trans ((below_a1 wr _).block g h1)
      have hss : wr.heap.size + 1 ≤ V1.heap.size := by have := gr2.size; omega
      have B1 : Below w.heap.size w V1 := HB.out.trans ⟨gr2.os, gr2.tape, gr2.output, by omega, fun g hg => hV1 g (by omega) (fun e => by have := hoy g e; omega)⟩
      have k0 : Blk V1 y0 #[ptr t 0] 25 := (hV1 y0 (by omega) (fun e => by have := hoy _ e; omega)).trans HK0.out
      have k1 : Blk V1 y #[.int .i64 (a : Nat)] 3 := (hV1 y (by omega) (fun e => by have := hoy _ e; omega)).trans HK1.out
      have hM1 : Marks y V1 ds := ((HM.out.keep fun r _ h2 => (below_a1 wr (.cells #[.int .i64 (a : Nat)] 3)).block r h2).grown (HNL.out.of (below_a1 wr _)) gr2)
      have hm3 : m2 = k + 1 := by first | (rw [hm2, List.length_take]; omega) | (have := HLN.out; omega)
      have nl3 : NL V1 (y + 1) (.slice ho2 (k + 1) hc2) (H.take (k + 1)) := by
        rw [gH_take (by rw [HLN.out]; exact hlt), ← hm3]
        have e : gH H k = a := by rw [HA.out, Nat.mod_eq_of_lt hlt]
        rw [e]; exact nl2
      subst hm3
      have BB := Lib.hid B1
      have K0 := Lib.hid k0
      have K1 := Lib.hid k1
      have HM1 := Lib.hid hM1
      have NL3 := Lib.hid nl3
      have hy1 : y + 1 ≤ V1.heap.size := by omega
      have d0 := k0.cell 0
      have d1 := k1.cell 0
      simp only [List.getElem?_toArray, List.getElem?_cons_zero] at d0 d1
      clear hva hoy hV1 hss B1 k0 k1 hM1 hm2 nl2 nl3 gr2 HNL HK0 HK1 HB HM b0 b1 c0 c1 c2 hq1 hq2
      gi_wp2_with fail
      refine ⟨trivial, callsIn_wide.2 ?_⟩
      refine (Around_is t a V1).mono ?_
      rintro e V2 ⟨rfl, kcs, kca, hb2⟩
      obtain ⟨cs, ecs⟩ : ∃ b, V1.heap.size = b := ⟨_, rfl⟩
      obtain ⟨ca, eca⟩ : ∃ b, V1.heap.size + 1 = b := ⟨_, rfl⟩
      have o3 : cs < ca := by omega
      have o4 : ca < V2.heap.size := by have := kca.lt; omega
      have o5 : y < cs := by omega
      have SM2 := Lib.hid (HS.out.of (BB.out.trans (hb2.mono BB.out.size)))
      have BB2 := Lib.hid (BB.out.trans (hb2.mono BB.out.size))
      have KS2 := Lib.hid (K0.out.of hb2)
      have KA2 := Lib.hid (K1.out.of hb2)
      have NL2 := Lib.hid (NL3.out.of hb2)
      have HM2 : Hid (Marks y V2 ds) := Lib.hid (HM1.out.keep fun r _ h2 => hb2.block r h2)
      have hy0w : y0 < V2.heap.size := by omega
      rw [eca] at kca ⊢
      rw [ecs] at kcs ⊢
      have KC := Lib.hid (And.intro kcs kca)
      clear kcs kca hb2 BB K0 K1 NL3 HM1 d0 d1 ecs eca
      gi_wp2_with fail
      obtain ⟨z, hz⟩ : ∃ z, gH H ((k + 1) % len) = z := ⟨_, rfl⟩
      have HZ := Lib.hid hz
      rw [hz] at HNX
      obtain ⟨lr, hlr⟩ : ∃ l, (O a).length = l := ⟨_, rfl⟩
      have HLR := Lib.hid hlr
      have hrow : rowO N O (a : Int) = O a := by unfold rowO; rw [if_pos (by omega)]; rfl
      have hT := Around1_tells cs ca t D N X Y O n a (O a) hrow (V2.heap.size + 2)
      rw [hlr] at hT
      clear hlr hrow hz
      refine wpIn_rangeX (m := 1) (gf := 67) (lb := #[ptr cs 0, ptr ca 0]) (N := lr) (encs := arE (O a)) (Kp := fun W => Blk W cs #[ptr t 0] 25 ∧ Blk W ca #[.int .i64 (a : Nat)] 3 ∧ SM W t D N X Y O n) rfl (fun args w => by go_simp) hT (fun _ => rfl)
        (fun G j W => (∀ g, ¬ G g) ∧ Below V2.heap.size V2 W ∧ ∀ i x, i < j → (O a)[i]? = some x → lookH (O x.1) (a : Nat) ≠ none)
        (fun c j W => c = .exit 1 ∧ Fr V2 W (fun b => b = y) ∧ Blk W y #[.int .i64 (z : Nat)] 3) ?hg ?stable ?xstable ?keeps ?start ?round ?done ?stop
      case hg => rintro G j W ⟨j1, _⟩ g hg; exact absurd hg (j1 g)
      case stable => rintro G j W W' ⟨j1, j2, j3⟩ ⟨hbl, _⟩; exact ⟨j1, j2.trans hbl, j3⟩
      case xstable =>
        rintro c j W W' ⟨j1, j2, j3⟩ hbl
        exact ⟨j1, j2.trans (S' := fun b => V2.heap.size ≤ b) ⟨hbl.os, hbl.tape, hbl.output, hbl.size, fun k _ hk => hbl.block k (by omega)⟩ (fun _ h => .inr h), j3.below hbl (by omega)⟩
      case keeps =>
        rintro G j W ⟨j1, j2, j3⟩
        exact ⟨KC.out.1.of j2, KC.out.2.of j2, SM2.out.of j2⟩
      case start => exact ⟨fun g h => h, Below.refl _ _, fun i x hi => by omega⟩
      case round =>
        rintro l2 D2 j G W2 hj ⟨j1, j2, j3⟩ g1 g2 g3 g4
        obtain ⟨x, hx⟩ : ∃ x, (O a)[j]? = some x := ⟨_, List.getElem?_eq_getElem (show j < (O a).length by rw [HLR.out]; exact hj)⟩
        have hE : arE (O a) j = #[.int .i64 x.1, .int .i64 x.2] := by unfold arE; rw [List.getD_eq_getElem?_getD, hx]; rfl
        rw [hE]
        obtain ⟨xb, xc⟩ := x
        have HX := Lib.hid hx
        have J1 := Lib.hid j1
        have J2 := Lib.hid j2
        have J3 := Lib.hid j3
        clear j1 j2 j3 hx hE hT
        gi_wp2_with fail
        refine ⟨⟨Fix2.of (OutL.refl [] _) g3 g4 (by simp) (by simp), AboveX.refl _ _ _⟩, ?_⟩
        intro W3 hW3
        have hs3 := hW3.size
        have B3 := Lib.hid (J2.out.trans (hW3.below (B := V2.heap.size) (by omega) (by simp; omega)))
        have q0 := (KS2.out.of B3.out).cell 0
        have q1 := (KA2.out.of B3.out).cell 0
        simp only [List.getElem?_toArray, List.getElem?_cons_zero] at q0 q1
        gi_wp2_with fail
        refine ⟨trivial, CallsIn.inRound l2 (callsIn_wide.2 ?_)⟩
        have hxd := (HS.out.dom a haN _ (List.mem_iff_getElem?.2 ⟨j, HX.out⟩)).1
        have hlo : leftO N O (xb : Int) (a : Int) = lookH (O xb) (a : Nat) := by unfold leftO; rw [if_pos (by simp only [] at hxd; omega)]; rfl
        obtain ⟨R, hR⟩ : ∃ R, lookH (O xb) (a : Nat) = R := ⟨_, rfl⟩
        have HR := Lib.hid hR
        refine (Left_is t D N X Y O n xb a W3 (SM2.out.of B3.out) R (hlo.trans hR)).mono ?_
        rintro e W4 ⟨rfl, hb4⟩
        have hs4 := hb4.size
        have B4 := Lib.hid (B3.out.trans (hb4.mono B3.out.size))
        have X34 := Lib.hid hb4
        have k1 := KA2.out.of B4.out
        have r1 := k1.cell 0
        have f1 := k1.free 0
        have l1 := k1.lt
        simp only [List.getElem?_toArray, List.getElem?_cons_zero] at r1
        have K1 := Lib.hid k1
        have hsz3 : V2.heap.size ≤ W3.heap.size := B3.out.size
        clear hxd hlo hR q0 q1 k1 hb4 B3
        cases R with
        | some c =>
          have GG : Hid ((Fix2 l2 D2 W3 W4 ∧ ∃ G' : Nat → Prop, (∀ g, G' g → G g ∨ W3.heap.size ≤ g) ∧ (∀ g, ¬ G' g) ∧ Below V2.heap.size V2 W4 ∧ ∀ i x, i < j + 1 → (O a)[i]? = some x → lookH (O x.1) (a : Nat) ≠ none) ∧ AboveX (V2.heap.size + 2) G W3 W4) := by
            refine Lib.hid ⟨⟨⟨X34.out.block l2 (by omega), X34.out.block D2 (by omega)⟩, fun _ => False, fun g h => h.elim, fun g h => h, B4.out, fun i x hi hx => ?_⟩, ⟨hs4, fun k _ hk _ => X34.out.block k hk⟩⟩
            rcases Nat.lt_or_ge i j with h | h
            · exact J3.out i x h hx
            · have : i = j := by omega
              subst this
              rw [HX.out] at hx
              injection hx with hx
              subst hx
              intro e
              have := HR.out
              rw [e] at this; cases this
          clear r1 f1 l1 hs4
          gi_wp2
          exact GG.out
        | none =>
          have hzx : z = xb := by
            have := nxtO_at HX.out J3.out HR.out
            rw [HNX.out] at this
            injection this
          have GG : Hid ((Fix2 l2 D2 W3 (W4.setCell ⟨y, 0, none⟩ (.int .i64 (xb : Nat))) ∧ Fr V2 (W4.setCell ⟨y, 0, none⟩ (.int .i64 (xb : Nat))) (fun b => b = y) ∧ Blk (W4.setCell ⟨y, 0, none⟩ (.int .i64 (xb : Nat))) y #[.int .i64 (z : Nat)] 3) ∧ AboveX (V2.heap.size + 2) G W3 (W4.setCell ⟨y, 0, none⟩ (.int .i64 (xb : Nat)))) := by
            have hst : ∀ g, g ≠ y → (W4.setCell ⟨y, 0, none⟩ (.int .i64 (xb : Nat))).heap[g]? = W4.heap[g]? := fun g h => Below.heap_setCell W4 ⟨y, 0, none⟩ (.int .i64 (xb : Nat)) g h
            have hsf : (W4.setCell ⟨y, 0, none⟩ (.int .i64 (xb : Nat))).heap.size = W4.heap.size := by simp [World.setCell]
            refine Lib.hid ⟨⟨⟨(hst l2 (by omega)).trans (X34.out.block l2 (by omega)), (hst D2 (by omega)).trans (X34.out.block D2 (by omega))⟩, ⟨B4.out.os, B4.out.tape, B4.out.output, by rw [hsf]; exact B4.out.size, fun k hk hn => (hst k hn).trans (B4.out.block k hk)⟩, ?_⟩, ⟨by rw [hsf]; exact hs4, fun k h1 hk _ => (hst k (by omega)).trans (X34.out.block k hk)⟩⟩
            rw [hzx]; exact K1.out.put 0 (.int .i64 (xb : Nat))
          clear hs4 hzx
          gi_wp2
          exact ⟨⟨GG.out.1.1, rfl, GG.out.1.2⟩, GG.out.2⟩
      case done =>
        rintro Dd G V5 g1 ⟨j1, j2, j3⟩ hD
        have := nxtO_end (a := a) (O := O) (fun i y hi => j3 i y (by rw [← HLR.out]; exact hi))
        rw [HNX.out] at this
        cases this
      case stop =>
        rintro Dd c k' V5 g1 ⟨rfl, j2, j3⟩ hD
        have hst : Hid (k + 1 ≤ len ∧ (k + 1 = len → z = 0) ∧ (0 < k + 1 → k + 1 < len → z ≠ 0) ∧ z = gH H ((k + 1) % len)) := by
          refine Lib.hid ⟨hlt, fun h => ?_, fun _ h => ?_, HZ.out.symm⟩
          · rw [← HZ.out, h, Nat.mod_self]; exact HH.out.zero
          · rw [← HZ.out, Nat.mod_eq_of_lt h]; exact HH.out.nz _ (by omega) (by rw [HLN.out]; exact h)
        have F1 := Lib.hid (BB2.out.trans (j2.below (B := w.heap.size) BB2.out.size (fun k h => by omega)))
        have F2 := Lib.hid (j2.blk KS2.out (by omega))
        have F3 := Lib.hid j3
        have F4 : Hid (NL V5 (y + 1) (.slice ho2 (k + 1) hc2) (H.take (k + 1))) := Lib.hid (NL2.out.keep fun g hg => j2.block g (NL2.out.own hg).2 (by have := (NL2.out.own hg).1; omega))
        have F5 : Hid (Marks y V5 ({ target := .collected Dd, args := #[] } :: ds)) := Lib.hid ⟨⟨Dd, rfl, by omega, hD, fun d hd r hr => by have := HM2.out.lt d hd r hr; omega⟩, HM2.out.keep fun r h1 h2 => j2.block r h2 (by omega)⟩
        have hs5 := j2.size
        have hy5 : y + 1 ≤ V5.heap.size := by omega
        have hms : len - (k + 1) < gk := by omega
        clear j2 j3 hD hT BB2 KS2 KA2 NL2 HM2 KC
        gi_wp2_with fail
        exact ⟨len - (k + 1), hms, hJ _ _ _ ⟨_, _, _, _, _, _, _, _, _, _, _, _, _, _, _, _, _, _, _, _, _, _, _, _, _, _, _, _, _, _, _, _, _, _, _, _, _, _, _, _, _, _, _, _, _, _ , k + 1, ho2, hc2, z, ⟨hst.out.1, Nat.le_refl _, hst.out.2.1, hst.out.2.2.1, Lib.hid hst.out.2.2.2, F4, F1, F2, F3, hy5, F5⟩, rfl⟩⟩
  · have hke : k = len := by omega
    have haz := ha0 hke
    subst haz
    have hk1 : ¬ k = 0 := by omega
    have hk4 : ((k : Int) == 0) = false := by simp; omega
    have HF := Lib.hid (show NL wr (y + 1) (.slice ho k hc) H by
      have := HNL.out
      rw [List.take_of_length_le (by rw [HLN.out]; omega)] at this
      exact this)
    have hbs := HB.out.size
    clear HNL HK0 HK1 hke HA
    gi_wp2
    refine leaves_marks (B := w.heap.size) (by omega) (fun g => (Value.slice ho k hc).ownBlock = some g) ds wr (by omega) HM.out (fun d hd r hr => Marks.own HF.out HM.out d hd r hr) fun w' hb => ?_
    simp only [LeavesInM, LeavesIn]
    refine ⟨.slice ho k hc, by simp [results, Try.results13, go_sem], _, rfl, ?_, HB.out.trans hb.1⟩
    exact (HF.out.keep fun g hg => hb.2 g hg (HF.out.own hg).2).low2 (by omega)
end Go.Proofs.Ytdlpfiiakmhnlaa

namespace Go.Proofs.Ytdlpfiiakmhnlaa
open Go.RowKit

def fP (X Y : Nat → Int) (n : Nat) : List Value := (List.range n).flatMap fun i => [.int .i64 (X i), .int .i64 (Y i)]
theorem fP_succ (X Y : Nat → Int) (n : Nat) : fP X Y (n + 1) = fP X Y n ++ [.int .i64 (X n), .int .i64 (Y n)] := by unfold fP; rw [List.range_succ, List.flatMap_append]; rfl
end Go.Proofs.Ytdlpfiiakmhnlaa

namespace Go.Proofs.Ytdlpfiiakmhnlaa
open Go.RowKit

/-- reference points as points -/
theorem Pts.ofRow {w : World} {base n : Nat} {v : Value} {X Y : Nat → Int} (h : w.ownsRow base 51 2 v n (fP X Y n)) : ∃ ao cap, v = .slice ao n cap ∧ Pts w ao n cap X Y := by
  rcases h.2 with ⟨rfl, hn⟩ | ⟨g, cap, cur, rfl, hb, hg, h1, h2, h3, h4⟩
  · exact ⟨none, 0, by rw [hn], fun h0 => by omega, by omega, by omega⟩
  · refine ⟨_, cap, rfl, fun h0 => ⟨⟨g, 0, none⟩, rfl, (Array.getElem?_eq_some_iff.1 hg).1, fun i hi => ?_⟩, h1, by unfold maxLen at h2; omega⟩
    have hf : ∀ m i, i < m → (fP X Y m)[i * 2]? = some (.int .i64 (X i)) ∧ (fP X Y m)[i * 2 + 1]? = some (.int .i64 (Y i)) := by
      intro m
      induction m with
      | zero => intro i hi; omega
      | succ m ih =>
        intro i hi
        have hl : (fP X Y m).length = m * 2 := by
          clear ih hi h3 h4
          induction m with
          | zero => rfl
          | succ m ih => rw [fP_succ, List.length_append, ih]; show m * 2 + 2 = _; omega
        rw [fP_succ]
        rcases Nat.lt_or_ge i m with h5 | h5
        · rw [List.getElem?_append_left (by omega), List.getElem?_append_left (by omega)]
          exact ih i h5
        · obtain rfl : i = m := by omega
          rw [List.getElem?_append_right (by omega), List.getElem?_append_right (by omega), hl, Nat.sub_self, show i * 2 + 1 - i * 2 = 1 by omega]
          exact ⟨rfl, rfl⟩
    obtain ⟨f0, f1⟩ := hf n i hi
    have c : ∀ k u, k < n * 2 → (fP X Y n)[k]? = some u → w.cell? ⟨g, k, none⟩ = some u := fun k u hk hu => by
      rw [cell_row hg, ← Array.getElem?_toList]
      rw [← h4, List.getElem?_take_of_lt hk] at hu
      exact hu
    have e : (⟨g, 0, none⟩ : Addr).add (i * 2) = ⟨g, i * 2, none⟩ := by unfold Addr.add; split <;> simp_all
    rw [e]
    exact ⟨c (i * 2) _ (by omega) f0, c (i * 2 + 1) _ (by omega) f1⟩
end Go.Proofs.Ytdlpfiiakmhnlaa

namespace Go.Proofs.Ytdlpfiiakmhnlaa
open Go.RowKit

/-- what one point says to a way -/
def goodR (X Y : Nat → Int) (a i k : Nat) : Prop := ¬ wy X Y a i k < 0 ∧ (wy X Y a i k = 0 → k ≠ a → k ≠ i → onB (X a) (Y a) (X i) (Y i) (X k) (Y k) = false)
structure RC (N : Nat) (X Y : Nat → Int) (H : List Nat) : Prop where
  pos : 0 < H.length
  len : H.length ≤ N
  zero : gH H 0 = 0
  nz : ∀ i, 0 < i → i < H.length → gH H i ≠ 0
  lt : ∀ i, i < H.length → gH H i < N
  nxt : ∀ i, i < H.length → ∀ k, k < N → k ≠ gH H i → ((∀ j, j < N → goodR X Y (gH H i) k j) ↔ k = gH H ((i + 1) % H.length))
  ne : ∀ i, i < H.length → gH H ((i + 1) % H.length) ≠ gH H i
end Go.Proofs.Ytdlpfiiakmhnlaa

namespace Go.Proofs.Ytdlpfiiakmhnlaa
open Go.RowKit

theorem mul_le_pos {d x y : Int} (hd : 0 < d) (h : d * x ≤ d * y) : x ≤ y := by
  rcases Int.lt_or_le y x with h1 | h1
  · have := Int.mul_lt_mul_of_pos_left h1 hd; omega
  · exact h1
theorem mul_eq_pos {d x y : Int} (hd : 0 < d) (h : d * x = d * y) : x = y := Int.le_antisymm (mul_le_pos hd (by omega)) (mul_le_pos hd (by omega))
/-- on one line: in the box is between, left to right -/
theorem box_up {ax ay bx b_y px py : Int} (h1 : -2199023255552 ≤ ay) (h2 : ay ≤ 2199023255552) (h3 : -2199023255552 ≤ b_y) (h4 : b_y ≤ 2199023255552) (h5 : -2199023255552 ≤ py) (h6 : py ≤ 2199023255552) (hx : ax < bx)
    (ht : (bx - ax) * (py - ay) = (b_y - ay) * (px - ax)) :
    (btw ax bx px = true ∧ btw ay b_y py = true) ↔ 4398046511105 * ax + ay ≤ 4398046511105 * px + py ∧ 4398046511105 * px + py ≤ 4398046511105 * bx + b_y := by
  obtain ⟨d, hd⟩ : ∃ d, bx - ax = d := ⟨_, rfl⟩
  obtain ⟨e, he⟩ : ∃ e, b_y - ay = e := ⟨_, rfl⟩
  obtain ⟨u, hu⟩ : ∃ u, px - ax = u := ⟨_, rfl⟩
  obtain ⟨v, hv⟩ : ∃ v, py - ay = v := ⟨_, rfl⟩
  rw [hd, he, hu, hv] at ht
  have d0 : 0 < d := by omega
  unfold btw
  simp only [Bool.and_eq_true, decide_eq_true_eq]
  constructor
  · rintro ⟨⟨k1, k2⟩, k3, k4⟩
    have u0 : 0 ≤ u := by omega
    have u1 : u ≤ d := by omega
    constructor
    · rcases Int.lt_or_eq_of_le u0 with h | h
      · omega
      · rw [← h, Int.mul_zero] at ht
        have := g_zero_of (by omega) ht
        omega
    · rcases Int.lt_or_eq_of_le u1 with h | h
      · omega
      · rw [h, Int.mul_comm e d] at ht
        have := mul_eq_pos d0 ht
        omega
  · rintro ⟨k1, k2⟩
    have u0 : 0 ≤ u := by omega
    have u1 : u ≤ d := by omega
    refine ⟨⟨by omega, by omega⟩, ?_⟩
    rcases Int.lt_or_le e 0 with he0 | he0
    · have a1 : e * u ≤ 0 := by have := Int.mul_nonneg (show 0 ≤ -e by omega) u0; rw [Int.neg_mul] at this; omega
      have a2 : e * d ≤ e * u := by have := Int.mul_le_mul_of_nonneg_left u1 (show 0 ≤ -e by omega); rw [Int.neg_mul, Int.neg_mul] at this; omega
      have v0 : v ≤ 0 := mul_le_pos d0 (by omega)
      have v1 : e ≤ v := mul_le_pos d0 (by rw [Int.mul_comm d e]; omega)
      omega
    · have a1 : 0 ≤ e * u := Int.mul_nonneg he0 u0
      have a2 : e * u ≤ e * d := Int.mul_le_mul_of_nonneg_left u1 he0
      have v0 : 0 ≤ v := mul_le_pos d0 (by omega)
      have v1 : v ≤ e := mul_le_pos d0 (by rw [Int.mul_comm d e]; omega)
      omega
theorem btw_swap (a b n : Int) : btw a b n = btw b a n := by unfold btw; rw [Int.min_comm, Int.max_comm]
theorem box_lex {ax ay bx b_y px py : Int} (h1 : -2199023255552 ≤ ay) (h2 : ay ≤ 2199023255552) (h3 : -2199023255552 ≤ b_y) (h4 : b_y ≤ 2199023255552) (h5 : -2199023255552 ≤ py) (h6 : py ≤ 2199023255552) (hne : ¬ (ax = bx ∧ ay = b_y))
    (ht : trn ax ay bx b_y px py = 0) :
    (btw ax bx px = true ∧ btw ay b_y py = true) ↔ (4398046511105 * ax + ay ≤ 4398046511105 * px + py ∧ 4398046511105 * px + py ≤ 4398046511105 * bx + b_y) ∨ (4398046511105 * bx + b_y ≤ 4398046511105 * px + py ∧ 4398046511105 * px + py ≤ 4398046511105 * ax + ay) := by
  unfold trn at ht
  rcases Int.lt_trichotomy ax bx with h | h | h
  · rw [box_up h1 h2 h3 h4 h5 h6 h (by omega)]
    constructor
    · exact .inl
    · rintro (k | k)
      · exact k
      · omega
  · subst h
    rw [Int.sub_self, Int.zero_mul, Int.zero_sub] at ht
    have e0 : b_y - ay ≠ 0 := by omega
    have := g_zero_of e0 (show (b_y - ay) * (px - ax) = 0 by omega)
    have hp : px = ax := by omega
    subst hp
    unfold btw
    simp only [Bool.and_eq_true, decide_eq_true_eq]
    omega
  · have := box_up h3 h4 h1 h2 h5 h6 h (px := px) (by
      have e : (bx - ax) * (py - ay) - (b_y - ay) * (px - ax) = -((ax - bx) * (py - b_y) - (ay - b_y) * (px - bx)) := by grind
      omega)
    rw [btw_swap ax bx, btw_swap ay b_y, this]
    constructor
    · exact .inr
    · rintro (k | k)
      · omega
      · exact k
theorem allC_co {n : Nat} {X Y : Nat → Int} (h : allC n X Y = true) {i : Nat} (hi : i < n) : Co (X i) ∧ Co (Y i) := rp_co (allC_rpT h hi)
theorem sX_mono {N : Nat} {X Y : Nat → Int} (hR : gRis (sX X Y) N) {i j : Nat} (hi : i < N) (hj : j < N) : sX X Y i ≤ sX X Y j ↔ i ≤ j := by
  constructor
  · intro h
    rcases Nat.lt_or_ge j i with h1 | h1
    · have := hR j i h1 hi; omega
    · exact h1
  · intro h
    rcases Nat.lt_or_ge i j with h1 | h1
    · have := hR i j h1 hj; omega
    · rw [show i = j by omega]; exact Int.le_refl _
/-- lies on: on one line, between -/
theorem onB_iff {N : Nat} {X Y : Nat → Int} (hg : allC N X Y = true) (hr : risC N X Y) {a b k : Nat} (ha : a < N) (hb : b < N) (hk : k < N) (hne : a ≠ b) (ht : gT X Y a b k = 0) :
    onB (X a) (Y a) (X b) (Y b) (X k) (Y k) = true ↔ (a ≤ k ∧ k ≤ b) ∨ (b ≤ k ∧ k ≤ a) := by
  have hR := sX_ris hg hr
  obtain ⟨_, c1, c2⟩ := allC_co hg ha
  obtain ⟨_, c3, c4⟩ := allC_co hg hb
  obtain ⟨_, c5, c6⟩ := allC_co hg hk
  have hxy : ¬ (X a = X b ∧ Y a = Y b) := by
    rintro ⟨e1, e2⟩
    have e : sX X Y a = sX X Y b := by unfold sX; rw [e1, e2]
    have h1 := (sX_mono hR ha hb).1 (by omega)
    have h2 := (sX_mono hR hb ha).1 (by omega)
    omega
  have h := box_lex c1 c2 c3 c4 c5 c6 hxy (show trn (X a) (Y a) (X b) (Y b) (X k) (Y k) = 0 from ht)
  have m1 := sX_mono hR ha hk
  have m2 := sX_mono hR hk hb
  have m3 := sX_mono hR hb hk
  have m4 := sX_mono hR hk ha
  unfold sX at m1 m2 m3 m4
  rw [m1, m2, m3, m4] at h
  rw [← h]
  have g : rp3 (X a) (Y a) (X b) (Y b) (X k) (Y k) = true := by
    unfold rp3
    rw [allC_rpT hg ha, allC_rpT hg hb, allC_rpT hg hk]; rfl
  unfold onB
  rw [g, show trn (X a) (Y a) (X b) (Y b) (X k) (Y k) = 0 from ht]
  simp
theorem goodR_iff {N : Nat} {X Y : Nat → Int} (hg : allC N X Y = true) (hr : risC N X Y) {a b : Nat} (ha : a < N) (hb : b < N) (hne : a ≠ b) : (∀ k, k < N → goodR X Y a b k) ↔ gE (sX X Y) Y (N - 1) a b := by
  constructor
  · intro h k hk
    have hkN : k < N := by omega
    obtain ⟨h1, h2⟩ := h k hkN
    obtain ⟨s1, s2⟩ := wy_gT hg a b k ha hb hkN
    refine ⟨by have := mt s1.2 h1; omega, fun h0 => ?_⟩
    have h3 := h2 (s2.2 h0)
    have h0' : gT X Y a b k = 0 := by rw [sX_T] at h0; omega
    have ho := onB_iff hg hr ha hb hkN hne h0'
    constructor
    · rintro ⟨k1, k2⟩
      have := h3 (by omega) (by omega)
      rw [ho.2 (.inl ⟨by omega, by omega⟩)] at this; cases this
    · rintro ⟨k1, k2⟩
      have := h3 (by omega) (by omega)
      rw [ho.2 (.inr ⟨by omega, by omega⟩)] at this; cases this
  · intro h k hkN
    obtain ⟨h1, h2⟩ := h k (by omega)
    obtain ⟨s1, s2⟩ := wy_gT hg a b k ha hb hkN
    refine ⟨fun e => by have := s1.1 e; omega, fun h0 k1 k2 => ?_⟩
    have h3 := h2 (s2.1 h0)
    have h0' : gT X Y a b k = 0 := by have := s2.1 h0; rw [sX_T] at this; omega
    have ho := onB_iff hg hr ha hb hkN hne h0'
    cases hb' : onB (X a) (Y a) (X b) (Y b) (X k) (Y k) with
    | false => rfl
    | true => rcases ho.1 hb' with c | c <;> omega
/-- from one point on there is one way around alone -/
theorem gE_one {X Y : Nat → Int} {N a b c q : Nat} (hX : gRis X N) (hN : 1 < N) (ha : a < N) (hb : b < N) (hc : c < N) (hq : q < N) (nb : a ≠ b) (nc : a ≠ c) (hf : gT X Y 0 1 q ≠ 0) (h1 : gE X Y (N - 1) a b) (h2 : gE X Y (N - 1) a c) : b = c := by
  refine Classical.byContradiction fun hne => ?_
  have z0 : gT X Y a b c = 0 := by
    have k1 := (h1 c (by omega)).1
    have k2 := (h2 b (by omega)).1
    have e : gT X Y a c b = -gT X Y a b c := by unfold gT; grind
    omega
  have z1 : gT X Y a c b = 0 := by
    have e : gT X Y a c b = -gT X Y a b c := by unfold gT; grind
    omega
  have s1 := (h1 c (by omega)).2 z0
  have s2 := (h2 b (by omega)).2 z1
  have opp : (b < a ∧ a < c) ∨ (c < a ∧ a < b) := by omega
  have par : ∀ k, (X b - X a) * gT X Y a c k = (X c - X a) * gT X Y a b k := fun k => by
    have e := gT_xab (X := X) (Y := Y) a b c k
    have e2 : gT X Y a k b = -gT X Y a b k := by unfold gT; grind
    rw [z0, e2] at e
    have e3 : (X c - X a) * -gT X Y a b k = -((X c - X a) * gT X Y a b k) := Int.mul_neg _ _
    rw [e3, Int.mul_zero] at e
    omega
  have all0 : ∀ k, k < N → gT X Y a b k = 0 := fun k hk => by
    have k1 := (h1 k (by omega)).1
    have k2 := (h2 k (by omega)).1
    have p := par k
    rcases opp with ⟨o1, o2⟩ | ⟨o1, o2⟩
    · have x1 := hX b a o1 ha
      have x2 := hX a c o2 hc
      have l1 : (X b - X a) * gT X Y a c k ≤ 0 := by
        have := Int.mul_nonneg (show 0 ≤ X a - X b by omega) k2
        have e : (X b - X a) * gT X Y a c k = -((X a - X b) * gT X Y a c k) := by grind
        omega
      have l2 := Int.mul_nonneg (show 0 ≤ X c - X a by omega) k1
      exact g_zero_of (show X c - X a ≠ 0 by omega) (by omega)
    · have x1 := hX c a o1 ha
      have x2 := hX a b o2 hb
      have l1 := Int.mul_nonneg (show 0 ≤ X b - X a by omega) k2
      have l2 : (X c - X a) * gT X Y a b k ≤ 0 := by
        have := Int.mul_nonneg (show 0 ≤ X a - X c by omega) k1
        have e : (X c - X a) * gT X Y a b k = -((X a - X c) * gT X Y a b k) := by grind
        omega
      exact g_zero_of (show X c - X a ≠ 0 by omega) (by omega)
  have e := gT_line (X := X) (Y := Y) a b 0 1 q
  rw [all0 0 (by omega), all0 1 hN, all0 q hq] at e
  have xb : X b - X a ≠ 0 := by
    rcases Nat.lt_or_gt_of_ne nb with h | h
    · have := hX a b h hb; omega
    · have := hX b a h ha; omega
  refine hf (g_zero_of xb ?_)
  rw [Int.mul_comm]; rw [e]; simp
theorem rc_of {N q : Nat} {X Y : Nat → Int} (hg : allC N X Y = true) (hr : risC N X Y) (hl : isLn N X Y q) (hq : q < N) {h : List Nat} {z : Nat} (H : Hul (sX X Y) Y (N - 1) h) (hz : z < h.length) (hz0 : gH h z = 0) (hln : h.length ≤ N) : RC N X Y (rotH h z) := by
  have h3 := H.len
  have h2 : 2 ≤ q := by have := hl.1; omega
  have ml : ∀ k, k % h.length < h.length := fun k => Nat.mod_lt _ (by omega)
  have hlen := rotH_len h z
  have hX := sX_ris hg hr
  have hf : gT (sX X Y) Y 0 1 q ≠ 0 := fun e => hl.2.2.2 hq ((wy_gT hg 0 1 q (by omega) (by omega) hq).2.2 e)
  have hle : ∀ i, i < h.length → gH h i < N := fun i hi => by have := H.le i hi; omega
  have nx : ∀ i, i < h.length → gH (rotH h z) ((i + 1) % h.length) = gH h (((z + i) % h.length + 1) % h.length) := fun i hi => by
    rw [rotH_at (ml _), Nat.add_mod_mod, Nat.mod_add_mod, show z + (i + 1) = z + i + 1 by omega]
  have nne : ∀ i, i < h.length → gH h ((i + 1) % h.length) ≠ gH h i := fun i hi e => (pred_ne hi h3).2.1 (H.nd _ _ (ml _) hi e)
  refine ⟨by omega, by omega, ?_, fun i h0 hi => ?_, fun i hi => ?_, fun i hi k hk hne => ?_, fun i hi => ?_⟩
  · rw [rotH_at (by omega), Nat.add_zero, Nat.mod_eq_of_lt hz, hz0]
  · rw [hlen] at hi
    rw [rotH_at hi]
    intro e
    have := H.nd _ _ (ml _) hz (e.trans hz0.symm)
    have h5 : i = 0 := g_mod_inj (f := z) hi (by omega) (by rw [this, Nat.add_zero, Nat.mod_eq_of_lt hz])
    omega
  · rw [hlen] at hi
    rw [rotH_at hi]
    exact hle _ (ml _)
  · rw [hlen] at hi ⊢
    rw [nx i hi]
    rw [rotH_at hi] at hne ⊢
    have e0 := H.edge _ (ml (z + i))
    have n0 := nne _ (ml (z + i))
    have l0 := hle _ (ml (z + i))
    have l1 := hle _ (ml ((z + i) % h.length + 1))
    rw [goodR_iff hg hr l0 hk hne.symm]
    constructor
    · intro h5
      exact gE_one hX (by omega) l0 hk l1 hq hne.symm n0.symm hf h5 e0
    · intro h5; rw [h5]; exact e0
  · rw [hlen] at hi ⊢
    rw [nx i hi, rotH_at hi]
    exact nne _ (ml _)
end Go.Proofs.Ytdlpfiiakmhnlaa

namespace Go.Proofs.Ytdlpfiiakmhnlaa
open Go.RowKit

/-- what Build makes of points -/
structure Tri (N : Nat) (X Y : Nat → Int) (q : Nat) (T : List Tri3) (O : Nat → List (Nat × Nat)) : Prop where
  ln : isLn N X Y q
  none : q = N → T = []
  some : q < N → ∃ h z, T = (bld X Y q (N - 1 - q)).2 ∧ h = (bld X Y q (N - 1 - q)).1 ∧ Hul (sX X Y) Y (N - 1) h ∧ Bnd (N - 1) h T ∧ Brd h T ∧ z < h.length ∧ gH h z = 0 ∧ HC N O (rotH h z) ∧ RC N X Y (rotH h z)
  fresh : Fresh N (fun _ _ => False) T
  rep : RepS O (gSd T)
  all : O = putAll (fun _ => []) T
theorem Tri.of {N q : Nat} {X Y : Nat → Int} (hg : allC N X Y = true) (hr : risC N X Y) (hl : isLn N X Y q) : Tri N X Y q (bldT N X Y q) (putAll (fun _ => []) (bldT N X Y q)) := by
  have fr : Fresh N (fun _ _ => False) (bldT N X Y q) := by
    unfold bldT
    split
    · trivial
    · have := hl.2.1; exact (bld_st hg hr hl (by omega) _ (by omega)).2.2
  have rp : RepS (putAll (fun _ => []) (bldT N X Y q)) (gSd (bldT N X Y q)) := rep_cong (rep_all _ rep_none fr) fun a b => ⟨fun h => h.elim False.elim id, .inr⟩
  refine ⟨hl, fun e => ?_, fun hq => ?_, fr, rp, rfl⟩
  · unfold bldT; rw [if_pos e]
  · have e : bldT N X Y q = (bld X Y q (N - 1 - q)).2 := by unfold bldT; rw [if_neg (by omega)]
    have em : q + (N - 1 - q) = N - 1 := by omega
    obtain ⟨H, B, _⟩ := bld_st hg hr hl hq (N - 1 - q) (by omega)
    have R := bld_brd hg hr hl hq (N - 1 - q) (by omega)
    rw [em] at H B
    rw [← e] at B R
    obtain ⟨z, z1, z2, z3⟩ := hc_of (N := N) H B R rp (by omega)
    exact ⟨_, z, e, rfl, H, B, R, z1, z2, z3, rc_of hg hr hl hq H z1 z2 (by have := B.hln; omega)⟩
theorem Build_tri (ao : Option Addr) (N cap : Nat) (X Y : Nat → Int) (w : World) (h : Pts w ao N cap X Y) (hN : N ≤ 4096) (hg : allC N X Y = true) (hr : risC N X Y) :
    Calls Try.prog 12 #[.slice ao N cap] w fun e w' => ∃ (t : Nat) (D : SD) (q : Nat) (T : List Tri3) (O : Nat → List (Nat × Nat)), e = .returned (.tuple #[ptr t 0, .int .i64 0]) ∧ Tri N X Y q T O ∧
      SM w' t D N X Y O (T.length : Nat) ∧ (∀ g, D.has t N g → w.heap.size ≤ g) ∧ Below w.heap.size w w' := by
  refine (Build_is ao N cap X Y w h hN hg hr).mono ?_
  rintro e w' ⟨t, D, q, he, hl, hs, h1, h2⟩
  exact ⟨t, D, q, _, _, he, Tri.of hg hr hl, hs, h1, h2⟩
/-- a block of whole points -/
theorem Pts.ofBlk {w : World} {b n : Nat} {c : Array Value} {X Y : Nat → Int} {ty : TypeId} (h : Blk w b c ty) (hn : n ≤ 9223372036854775807) (hc : ∀ i, i < n → c[i * 2]? = some (.int .i64 (X i)) ∧ c[i * 2 + 1]? = some (.int .i64 (Y i))) : Pts w (some ⟨b, 0, none⟩) n n X Y := by
  refine ⟨fun h0 => ⟨_, rfl, h.lt, fun i hi => ?_⟩, Nat.le_refl _, hn⟩
  obtain ⟨h1, h2⟩ := hc i hi
  have e : (⟨b, 0, none⟩ : Addr).add (i * 2) = ⟨b, i * 2, none⟩ := by unfold Addr.add; split <;> simp_all
  rw [e]
  exact ⟨(h.cell (i * 2)).trans h1, (h.cell (i * 2 + 1)).trans h2⟩
def lX (l : List Int) : Nat → Int := fun i => l.getD i 0
theorem aw_q {q : Nat} (h : isLn 4 (lX [0, 0, 2, 2]) (lX [0, 2, 0, 2]) q) : q = 2 := by
  have h1 : 2 ≤ q := by have := h.1; omega
  rcases Nat.lt_or_ge 2 q with h2 | h2
  · have := h.2.2.1 2 (Nat.le_refl _) h2
    exact absurd this (by decide)
  · omega
theorem aw_q2 {q : Nat} (h : isLn 3 (lX [0, 1, 2]) (lX [0, 0, 0]) q) : q = 3 := by
  have h1 : 2 ≤ q := by have := h.1; omega
  have h3 := h.2.1
  rcases Nat.lt_or_ge q 3 with h2 | h2
  · obtain rfl : q = 2 := by omega
    exact absurd (by decide) (h.2.2.2 h2)
  · omega
theorem aw_len : (bldT 4 (lX [0, 0, 2, 2]) (lX [0, 2, 0, 2]) 2).length = 2 ∧ (bld (lX [0, 0, 2, 2]) (lX [0, 2, 0, 2]) 2 1).1.length = 4 := by decide +kernel
theorem aw_1 : allC 4 (lX [0, 0, 2, 2]) (lX [0, 2, 0, 2]) = true ∧ risC 4 (lX [0, 0, 2, 2]) (lX [0, 2, 0, 2]) := by
  refine ⟨by decide, fun i hi => ?_⟩
  rcases (show i = 0 ∨ i = 1 ∨ i = 2 by omega) with rfl | rfl | rfl <;> decide
theorem aw_2 : allC 3 (lX [0, 1, 2]) (lX [0, 0, 0]) = true ∧ risC 3 (lX [0, 1, 2]) (lX [0, 0, 0]) := by
  refine ⟨by decide, fun i hi => ?_⟩
  rcases (show i = 0 ∨ i = 1 by omega) with rfl | rfl <;> decide
theorem aw_3 : allC 2 (lX [1, 0]) (lX [0, 0]) = true ∧ ¬ risC 2 (lX [1, 0]) (lX [0, 0]) := by
  refine ⟨by decide, fun h => absurd (h 0 (by omega)) (by decide)⟩
end Go.Proofs.Ytdlpfiiakmhnlaa

namespace Go.Proofs.Ytdlpfiiakmhnlaa
open Go.RowKit

theorem Tri.cyc {N q : Nat} {X Y : Nat → Int} {T : List Tri3} {O : Nat → List (Nat × Nat)} (h : Tri N X Y q T O) : Cyc O ∧ DomO N O ∧ (preO O N).length = T.length := by
  have hp : PutOk N (fun _ => []) T := putok_fresh _ rep_none h.fresh
  rw [h.all]
  refine ⟨Cyc.nil.all T hp, dom_all T Cyc.nil (fun a b c h => by cases h) hp, ?_⟩
  rw [pre_all T hp, pre_nil]; simp
theorem lst_isRot (a b c : Nat) : isRot (lst a b c) a b c = true := by
  rw [isRot_iff]
  unfold lst
  split
  · exact .inl ⟨rfl, rfl, rfl⟩
  · split
    · exact .inr (.inl ⟨rfl, rfl, rfl⟩)
    · exact .inr (.inr ⟨rfl, rfl, rfl⟩)
theorem lst_least {a b c : Nat} (n1 : a ≠ b) (n2 : b ≠ c) (n3 : a ≠ c) : (lst a b c).1 < (lst a b c).2.1 ∧ (lst a b c).1 < (lst a b c).2.2 := by
  unfold lst
  split
  · assumption
  · split
    · rename_i h; exact ⟨h.2, h.1⟩
    · show c < a ∧ c < b; omega
theorem lst_of {u : Tri3} {a b c : Nat} (h : isRot u a b c = true) (h1 : u.1 < u.2.1) (h2 : u.1 < u.2.2) : lst a b c = u := by
  obtain ⟨x, y, z⟩ := u
  simp only [] at h1 h2
  unfold lst
  rcases isRot_iff.1 h with ⟨e1, e2, e3⟩ | ⟨e1, e2, e3⟩ | ⟨e1, e2, e3⟩ <;> simp only [] at e1 e2 e3
  · obtain rfl : x = a := by omega
    obtain rfl : y = b := by omega
    obtain rfl : z = c := by omega
    rw [if_pos ⟨h1, h2⟩]
  · obtain rfl : x = b := by omega
    obtain rfl : y = c := by omega
    obtain rfl : z = a := by omega
    rw [if_neg (by omega), if_pos ⟨h2, h1⟩]
  · obtain rfl : x = c := by omega
    obtain rfl : y = a := by omega
    obtain rfl : z = b := by omega
    rw [if_neg (by omega), if_neg (by omega)]
theorem bs_at {O : Nat → List (Nat × Nat)} {a b c : Nat} : (∀ d, lookH (O b) a = some d → (bsd O a b c)[0]? = some (lst b a d)) ∧ (∀ d, lookH (O c) b = some d → (bsd O a b c)[(bs1 O a b).length]? = some (lst c b d)) ∧ (∀ d, lookH (O a) c = some d → (bsd O a b c)[(bs1 O a b ++ bs1 O b c).length]? = some (lst a c d)) := by
  unfold bsd
  refine ⟨fun d h => ?_, fun d h => ?_, fun d h => ?_⟩
  · rw [bs1_some h]; rfl
  · rw [bs1_some h, List.append_assoc, List.getElem?_append_right (Nat.le_refl _), Nat.sub_self]; rfl
  · rw [bs1_some h, List.getElem?_append_right (Nat.le_refl _), Nat.sub_self]; rfl
theorem fR_one {x : Tri3} {t0 t1 t2 r : Int} (h : fR [x] t0 t1 t2 r) (hr : isRot x t0 t1 t2 = true) : r = 0 := by
  rcases h with ⟨_, h⟩ | ⟨i, y, rfl, hi, _⟩
  · rw [h x (List.mem_singleton.2 rfl)] at hr; cases hr
  · have := (List.getElem?_eq_some_iff.1 hi).1
    simp at this; subst this; rfl
/-- six numbers alike -/
@[go_sem] theorem run_eq6 (a b c d e f : Int) (w : World) :
    (Op.equalIn 10000 42 (.agg #[.int .i64 a, .int .i64 b, .int .i64 c, .int .i64 d, .int .i64 e, .int .i64 f]) (.agg #[.int .i64 a, .int .i64 b, .int .i64 c, .int .i64 d, .int .i64 e, .int .i64 f])).run Try.prog w = .ok true w := by
  have hu : Try.prog.underlying 42 = some (.array 3 41) := by kernel_rfl
  have hs : ∀ w, (sizeOf 41).run Try.prog w = .ok 2 w := fun w => by kernel_rfl
  have he : ∀ (a b : Int) w, (Op.equalIn 9999 41 (.agg #[.int .i64 a, .int .i64 b]) (.agg #[.int .i64 a, .int .i64 b])).run Try.prog w = .ok true w := fun a b w => by go_simp
  have hp0 : ∀ w, (part 41 #[.int .i64 a, .int .i64 b, .int .i64 c, .int .i64 d, .int .i64 e, .int .i64 f] 0).run Try.prog w = .ok (.agg #[.int .i64 a, .int .i64 b]) w := fun w => by kernel_rfl
  have hp2 : ∀ w, (part 41 #[.int .i64 a, .int .i64 b, .int .i64 c, .int .i64 d, .int .i64 e, .int .i64 f] 2).run Try.prog w = .ok (.agg #[.int .i64 c, .int .i64 d]) w := fun w => by kernel_rfl
  have hp4 : ∀ w, (part 41 #[.int .i64 a, .int .i64 b, .int .i64 c, .int .i64 d, .int .i64 e, .int .i64 f] 4).run Try.prog w = .ok (.agg #[.int .i64 e, .int .i64 f]) w := fun w => by kernel_rfl
  show (Op.equalIn (9999 + 1) _ _ _).run _ _ = _
  unfold Op.equalIn
  simp only [Sem.run_bind, run_underlying hu, Result.andThen_ok, hs]
  simp [List.range', he, hp0, hp2, hp4, Sem.run_bind]
end Go.Proofs.Ytdlpfiiakmhnlaa

namespace Go.Proofs.Ytdlpfiiakmhnlaa
open Go.RowKit
attribute [local go_sem] undef

set_option maxRecDepth 100000 in
set_option maxHeartbeats 2000000 in
theorem awake_is (w : World) : Calls Try.prog 11 #[] w fun e w' => e = .returned (.bool true) ∧ Below w.heap.size w w' := by
  go_enter Try.func11, Try.ntmps11
  go_wp2_with fail
  refine calls_w ?_
  intro V hV
  have bV : Below w.heap.size w V := by rw [hV]; exact below_a1 _ _
  have P1 : Pts V (some ⟨w.heap.size, 0, none⟩) 4 4 (lX [0, 0, 2, 2]) (lX [0, 2, 0, 2]) := by
    rw [hV]
    refine Pts.ofBlk (Blk.new w _ _) (by omega) fun i hi => ?_
    rcases (show i = 0 ∨ i = 1 ∨ i = 2 ∨ i = 3 by omega) with rfl | rfl | rfl | rfl <;> exact ⟨rfl, rfl⟩
  clear hV
  refine (Build_tri _ 4 4 _ _ V P1 (by omega) aw_1.1 aw_1.2).mono ?_
  rintro e V2 ⟨t, D, q, T, O, rfl, hT, hS, _, hb⟩
  obtain rfl := aw_q hT.ln
  obtain ⟨h, z, e1, e2, _, _, _, _, _, hH, _⟩ := hT.some (by omega)
  have hl : T.length = 2 := by
    rw [e1]; exact aw_len.1
  have hl2 : (rotH h z).length = 4 := by rw [rotH_len, e2]; exact aw_len.2
  rw [hl] at hS
  have HS := Lib.hid hS
  have HH := Lib.hid hH
  have HL := Lib.hid hl2
  have B2 := Lib.hid (bV.trans (hb.mono bV.size))
  clear P1 hT hS hH hl hl2 e1 e2 hb bV
  go_wp2_with fail
  refine (Len_is t D 4 _ _ O _ V2 HS.out).mono ?_
  rintro e V3 ⟨rfl, hb⟩
  have HS3 := Lib.hid (HS.out.of hb)
  have B3 := Lib.hid (B2.out.trans (hb.mono B2.out.size))
  clear hb HS B2
  go_wp2_with fail
  refine calls_w ?_
  intro V hV
  have bV : Below V3.heap.size V3 V := by rw [hV]; exact below_a1 _ _
  have P1 : Pts V (some ⟨V3.heap.size, 0, none⟩) 3 3 (lX [0, 1, 2]) (lX [0, 0, 0]) := by
    rw [hV]
    refine Pts.ofBlk (Blk.new V3 _ _) (by omega) fun i hi => ?_
    rcases (show i = 0 ∨ i = 1 ∨ i = 2 by omega) with rfl | rfl | rfl <;> exact ⟨rfl, rfl⟩
  clear hV
  refine (Build_tri _ 3 3 _ _ V P1 (by omega) aw_2.1 aw_2.2).mono ?_
  rintro e V4 ⟨t2, D2, q2, T2, O2, rfl, hT, hS, _, hb⟩
  obtain rfl := hT.none (aw_q2 hT.ln)
  have HA := Lib.hid hS
  have BB := bV.trans (hb.mono bV.size)
  have HS4 := Lib.hid (HS3.out.of BB)
  have B4 := Lib.hid (B3.out.trans (BB.mono B3.out.size))
  clear P1 hT hS hb BB bV HS3 B3
  go_wp2_with fail
  refine calls_w ?_
  intro V hV
  have bV : Below V4.heap.size V4 V := by rw [hV]; exact below_a1 _ _
  have P1 : Pts V (some ⟨V4.heap.size, 0, none⟩) 2 2 (lX [1, 0]) (lX [0, 0]) := by
    rw [hV]
    refine Pts.ofBlk (Blk.new V4 _ _) (by omega) fun i hi => ?_
    rcases (show i = 0 ∨ i = 1 by omega) with rfl | rfl <;> exact ⟨rfl, rfl⟩
  clear hV
  refine (Build_fall _ 2 2 _ _ V P1 (by omega) aw_3.1 aw_3.2).mono ?_
  rintro e V5 ⟨rfl, hb⟩
  have BB := bV.trans (hb.mono bV.size)
  have HS5 := Lib.hid (HS4.out.of BB)
  have HA5 := Lib.hid (HA.out.of BB)
  have B5 := Lib.hid (B4.out.trans (BB.mono B4.out.size))
  clear P1 hb BB bV HS4 B4 HA
  go_wp2_with fail
  refine (Len_is t2 D2 3 _ _ O2 _ V5 HA5.out).mono ?_
  rintro e V6 ⟨rfl, hb⟩
  have HS6 := Lib.hid (HS5.out.of hb)
  have B6 := Lib.hid (B5.out.trans (hb.mono B5.out.size))
  clear hb HS5 B5 HA5
  go_wp2_with fail
  refine (Hull_is t D 4 _ _ O _ _ HH.out (by decide) V6 HS6.out).mono ?_
  rintro e V7 ⟨v, rfl, hv, hb⟩
  obtain ⟨ao, cap, rfl, _⟩ := hv.val
  rw [HL.out]
  have B7 := Lib.hid (B6.out.trans (hb.mono B6.out.size))
  clear hb hv HS6 B6
  go_wp2
  go_ret
  exact ⟨rfl, B7.out⟩
end Go.Proofs.Ytdlpfiiakmhnlaa

namespace Go.Proofs.Ytdlpfiiakmhnlaa
open Go.RowKit
attribute [local go_sem] undef

theorem Trs.one {w : World} {b p0 p1 p2 : Nat} {ty : TypeId} (h : Blk w b #[.int .i64 (p0 : Nat), .int .i64 (p1 : Nat), .int .i64 (p2 : Nat)] ty) : Trs w (some ⟨b, 0, none⟩) 1 [(p0, p1, p2)] := by
  refine ⟨fun _ => ⟨b, rfl, h.lt, fun j x hx => ?_⟩, Nat.le_refl _, by omega⟩
  match j, hx with
  | 0, hx => simp at hx; subst hx; exact ⟨h.cell 0, h.cell 1, h.cell 2⟩
  | j + 1, hx => simp at hx
theorem bsd_len (O : Nat → List (Nat × Nat)) (a b c : Nat) : (bsd O a b c).length ≤ 3 := by
  unfold bsd
  have h1 := bs1_len O a b
  have h2 := bs1_len O b c
  have h3 := bs1_len O c a
  rw [List.length_append, List.length_append]; omega
theorem pre_len (O : Nat → List (Nat × Nat)) {N M : Nat} (h : ∀ a, a < N → (O a).length ≤ M) : (preO O N).length ≤ N * M := by
  induction N with
  | zero => show 0 ≤ _; omega
  | succ N ih =>
    show (preO O N ++ told N (O N)).length ≤ _
    have h1 := ih fun a ha => h a (by omega)
    have h2 := h N (by omega)
    have h3 : (told N (O N)).length ≤ (O N).length := by unfold told; rw [List.length_map]; exact List.length_filter_le _ _
    rw [List.length_append, Nat.succ_mul]; omega
theorem SM.preL {w : World} {t : Nat} {D : SD} {N : Nat} {X Y : Nat → Int} {O : Nat → List (Nat × Nat)} {n : Int} (h : SM w t D N X Y O n) : (preO O N).length < 100000000 := by
  have h1 := pre_len O (N := N) (M := N) fun a ha => sort_len (h.sort a ha) fun x hx => (h.dom a ha x hx).1
  have h2 := h.small
  have : N * N ≤ 4096 * 4096 := Nat.mul_le_mul h2 h2
  omega
set_option maxRecDepth 100000 in
set_option maxHeartbeats 8000000 in
theorem TriBeside_any (ao : Option Addr) (N cap : Nat) (X Y : Nat → Int) (t0 t1 t2 : Int) (w : World) (h : Pts w ao N cap X Y) :
    Calls Try.prog 4 #[.slice ao N cap, tI t0 t1 t2] w fun e w' => e = .returned (.bool true) ∧ Below w.heap.size w w' := by
  have HO := Lib.hid h
  have hcl := h.capl
  have hcb := h.capb
  clear h
  go_enter Try.func4, Try.ntmps4
  have bA := below_a1 w (.cells #[.int .i64 t0, .int .i64 t1, .int .i64 t2] 36)
  by_cases h24 : 20 < N
  · have h24' : (20 : Int) < (N : Int) := by omega
    go_wp2_with fail
    refine (awake_is _).mono ?_
    rintro e V ⟨rfl, hb⟩
    have b2 := bA.trans (hb.mono bA.size)
    clear hb
    go_wp2
    go_ret
    exact ⟨rfl, b2⟩
  · have h24' : ¬ (20 : Int) < (N : Int) := by omega
    go_wp2_with fail
    refine calls_w ?_
    intro V hV
    have kT : Hid (Blk V w.heap.size #[.int .i64 t0, .int .i64 t1, .int .i64 t2] 36) := by rw [hV]; exact Lib.hid (Blk.new w _ _)
    have bV : Hid (Below w.heap.size w V) := by rw [hV]; exact Lib.hid (below_a1 _ _)
    obtain ⟨tb, etb⟩ : ∃ b, w.heap.size = b := ⟨_, rfl⟩
    rw [etb] at kT ⊢
    clear hV etb bA
    refine (rising_is ao N cap X Y V (HO.out.of bV.out) (by omega)).mono ?_
    rintro e V2 ⟨b, rfl, hr, hb⟩
    rw [rsP_ris] at hr
    have HR := Lib.hid hr
    have kT2 := Lib.hid (kT.out.of hb)
    have B2 := Lib.hid (bV.out.trans (hb.mono bV.out.size))
    clear hr hb kT bV
    cases b with
    | false =>
      go_wp2_with fail
      refine (awake_is V2).mono ?_
      rintro e V3 ⟨rfl, hb⟩
      have B3 := B2.out.trans (hb.mono B2.out.size)
      clear hb
      go_wp2
      go_ret
      exact ⟨rfl, B3⟩
    | true =>
      obtain ⟨hg, hri⟩ := HR.out.1 rfl
      have HG := Lib.hid hg
      have HRI := Lib.hid hri
      clear hg hri
      go_wp2_with fail
      refine (Build_tri ao N cap X Y V2 (HO.out.of B2.out) (by omega) HG.out HRI.out).mono ?_
      rintro e V3 ⟨t, D, q, T, O, rfl, hT, hS, _, hb⟩
      obtain ⟨hcy, hdm, _⟩ := hT.cyc
      have CY := Lib.hid hcy
      have DM := Lib.hid hdm
      have HS := Lib.hid hS
      have kT3 := Lib.hid (kT2.out.of hb)
      have B3 := Lib.hid (B2.out.trans (hb.mono B2.out.size))
      obtain ⟨L, hL⟩ : ∃ L, preO O N = L := ⟨_, rfl⟩
      have HLL := Lib.hid hL
      have hlen : L.length < 100000000 := by rw [← hL]; exact hS.preL
      obtain ⟨nn, hnn⟩ : ∃ n : Int, ((T.length : Nat) : Int) = n := ⟨_, rfl⟩
      rw [hnn] at HS
      clear hT hS hb kT2 B2 hL hcy hdm hnn
      go_wp2_with fail
      have f0 := kT3.out.cell 0
      have f1 := kT3.out.cell 1
      have f2 := kT3.out.cell 2
      have lt := kT3.out.lt
      simp only [List.getElem?_toArray, List.getElem?_cons_zero, List.getElem?_cons_succ] at f0 f1 f2
      refine wp_region_up V3.heap.size 3 [(true, 0), (true, 2), (false, 1)] (by kernel_rfl) (by kernel_rfl) (fun _ _ d _ _ h => by cases d <;> exact h) ?_
      have hb : Below V3.heap.size V3 V3.drew := (Below.refl _ _).drew
      iterate 2
        refine wpS_takeL rfl rfl ?_
        go_big_quiet_step (rfl)
        refine wpQuiet_nil ?_
      refine wpS_doL rfl ?_
      intro K hK
      go_wp2_with (first | (go_at_call 18; (with_reducible refine (all_is t D N X Y O nn L HLL.out hlen _ (HS.out.of hb)).mono ?_); rintro e w2 ⟨v, rfl, htl, hn⟩; obtain ⟨ao4, cap4, rfl, P4⟩ := Trs.ofRow htl; clear htl) | (go_at_call 17; (with_reducible refine (find_is ao4 cap4 L t0 t1 t2 _ (P4.of hb) hlen).mono ?_); rintro e w2 ⟨r, rfl, hfr, hn⟩))
      replace hb := hb.trans (hn.mono hb.size)
      refine hK.out _ _ (up_iff.2 hb) ?_
      clear hK K
      clear hn
      refine wpS_nil ?_
      simp only [List.drop_succ_cons, List.drop_zero]
      have kT4 := Lib.hid (kT3.out.of hb)
      have HS4 := Lib.hid (HS.out.of hb)
      have B4 := Lib.hid (B3.out.trans (hb.mono B3.out.size))
      have PP4 := Lib.hid P4
      clear hb P4 f0 f1 f2 lt kT3 B3
      go_wp2_with fail
      refine (find_is ao4 cap4 L t0 t1 t2 w2 PP4.out hlen).mono ?_
      rintro e V5 ⟨r, rfl, hfr, hn⟩
      have kT5 := Lib.hid (kT4.out.of hn)
      have HS5 := Lib.hid (HS4.out.of hn)
      have B5 := Lib.hid (B4.out.trans (hn.mono B4.out.size))
      have FR := Lib.hid hfr
      clear hn hfr kT4 B4 PP4
      have f0 := kT5.out.cell 0
      have f1 := kT5.out.cell 1
      have f2 := kT5.out.cell 2
      have lt := kT5.out.lt
      simp only [List.getElem?_toArray, List.getElem?_cons_zero, List.getElem?_cons_succ] at f0 f1 f2
      by_cases hex : ∃ c : Nat, leftO N O t0 t1 = some c ∧ (c : Int) = t2
      · obtain ⟨c, hc, hct⟩ := hex
        obtain ⟨a, b, hta, htb, haN, hlk⟩ := leftO_nat hc
        subst hta
        subst htb
        subst hct
        obtain ⟨_, hbN, hcN⟩ := DM.out _ _ _ hlk
        have hxx : ∃ (i : Nat) (x : Tri3), r = i ∧ L[i]? = some x ∧ isRot x a b c = true := by
          rcases FR.out with ⟨_, h⟩ | h
          · obtain ⟨x, hx, hxr⟩ := (rot_left (N := N) CY.out DM.out).2 ⟨c, hc, rfl⟩
            rw [h x (by rw [← HLL.out]; exact hx)] at hxr; cases hxr
          · exact h
        obtain ⟨i, ⟨u0, u1, u2⟩, rfl, hi, hrot⟩ := hxx
        have hmem : (u0, u1, u2) ∈ preO O N := by rw [HLL.out]; exact List.mem_iff_getElem?.2 ⟨i, hi⟩
        obtain ⟨hu0, hul, hl1, hl2⟩ := mem_preO.1 hmem
        have hlst := lst_of hrot hl1 hl2
        simp only [] at hu0 hl1 hl2
        have hlu := (look_mem (CY.out.srt u0)).1 hul
        obtain ⟨_, hu1, hu2⟩ := DM.out _ _ _ hlu
        have HLK := Lib.hid hlk
        have HLS := Lib.hid hlst
        have HI := Lib.hid hi
        have hiL : i < L.length := (List.getElem?_eq_some_iff.1 hi).1
        clear hc hrot hmem hul hlst hlu hi hlk
        go_wp2_with fail
        refine (Corners_yes t D N X Y O nn a b c V5 HS5.out haN hbN hcN HLK.out).mono ?_
        rintro e V6 ⟨rfl, hb⟩
        have kT6 := Lib.hid (kT5.out.of hb)
        have HS6 := Lib.hid (HS5.out.of hb)
        have B6 := Lib.hid (B5.out.trans (hb.mono B5.out.size))
        obtain ⟨ax, hax⟩ : ∃ x, X a = x := ⟨_, rfl⟩
        obtain ⟨ay, hay⟩ : ∃ x, Y a = x := ⟨_, rfl⟩
        obtain ⟨bx, hbx⟩ : ∃ x, X b = x := ⟨_, rfl⟩
        obtain ⟨b_y, hby⟩ : ∃ x, Y b = x := ⟨_, rfl⟩
        obtain ⟨cx, hcx⟩ : ∃ x, X c = x := ⟨_, rfl⟩
        obtain ⟨cy, hcy⟩ : ∃ x, Y c = x := ⟨_, rfl⟩
        have HXX := Lib.hid (And.intro hax (And.intro hay (And.intro hbx (And.intro hby (And.intro hcx hcy)))))
        rw [hax, hay, hbx, hby, hcx, hcy]
        clear hb f0 f1 f2 lt kT5 B5 hax hay hbx hby hcx hcy HS5
        have f0 := kT6.out.cell 0
        have f1 := kT6.out.cell 1
        have f2 := kT6.out.cell 2
        have lt := kT6.out.lt
        simp only [List.getElem?_toArray, List.getElem?_cons_zero, List.getElem?_cons_succ] at f0 f1 f2
        go_wp2_with fail
        refine calls_w ?_
        intro V7 hV7
        have KC : Hid (Blk V7 V6.heap.size #[.int .i64 ax, .int .i64 ay, .int .i64 bx, .int .i64 b_y, .int .i64 cx, .int .i64 cy] 42) := by rw [hV7]; exact Lib.hid (Blk.new V6 _ _)
        have hb7 : Below V6.heap.size V6 V7 := by rw [hV7]; exact below_a1 _ _
        have HS7 := Lib.hid (HS6.out.of hb7)
        have kT7 := Lib.hid (kT6.out.of hb7)
        have B7 := Lib.hid (B6.out.trans (hb7.mono B6.out.size))
        obtain ⟨cb, ecb⟩ : ∃ b, V6.heap.size = b := ⟨_, rfl⟩
        rw [ecb] at KC ⊢
        clear hV7 hb7 f0 f1 f2 lt kT6 B6 ecb HS6
        refine (Beside_yes t D N X Y O nn a b c u0 u1 u2 V7 HS7.out CY.out DM.out HLK.out HLS.out).mono ?_
        rintro e V8 ⟨bv, rfl, hrow, hb⟩
        obtain ⟨ao8, cap8, rfl, P8⟩ := Trs.ofRow hrow
        have KC8 := Lib.hid (KC.out.of hb)
        have HS8 := Lib.hid (HS7.out.of hb)
        have kT8 := Lib.hid (kT7.out.of hb)
        have B8 := Lib.hid (B7.out.trans (hb.mono B7.out.size))
        have PB8 := Lib.hid P8
        obtain ⟨BS, hBS⟩ : ∃ l, bsd O u0 u1 u2 = l := ⟨_, rfl⟩
        have HBS := Lib.hid hBS
        rw [hBS] at PB8 ⊢
        have hln3 : BS.length ≤ 3 := by rw [← hBS]; exact bsd_len O u0 u1 u2
        obtain ⟨bl, hbl⟩ : ∃ l, BS.length = l := ⟨_, rfl⟩
        have HBL := Lib.hid hbl
        have hbc := PB8.out.capl
        have hbcb := PB8.out.capb
        rw [hbl] at hln3 hbc ⊢
        clear hb KC B7 HS7 kT7 hrow P8 hBS hbl
        have f0 := kT8.out.cell 0
        have f1 := kT8.out.cell 1
        have f2 := kT8.out.cell 2
        have lt := kT8.out.lt
        have z0 := KC8.out.cell 0
        have z1 := KC8.out.cell 1
        have z2 := KC8.out.cell 2
        have z3 := KC8.out.cell 3
        have z4 := KC8.out.cell 4
        have z5 := KC8.out.cell 5
        have lz := KC8.out.lt
        simp only [List.getElem?_toArray, List.getElem?_cons_zero, List.getElem?_cons_succ] at f0 f1 f2 z0 z1 z2 z3 z4 z5
        obtain ⟨pa, hpa, hpt⟩ := (HO.out.of B8.out).atP (by omega)
        subst hpa
        obtain ⟨e1, e2, e3, e4, e5, e6⟩ := HXX.out
        have qa := hpt a haN
        have qb := hpt b hbN
        have qc := hpt c hcN
        rw [e1, e2] at qa
        rw [e3, e4] at qb
        rw [e5, e6] at qc
        have qa0 := fun u => (qa u).1
        have qa1 := fun u => (qa u).2
        have qb0 := fun u => (qb u).1
        have qb1 := fun u => (qb u).2
        have qc0 := fun u => (qc u).1
        have qc1 := fun u => (qc u).2
        clear hpt qa qb qc e1 e2 e3 e4 e5 e6
        have hri : ¬ ((i : Int) < 0) := by omega
        go_wp2_with fail
        refine wp_region_up V8.heap.size 20 [(true, 0), (true, 1), (true, 2), (true, 3), (true, 4), (true, 5), (true, 6), (true, 7), (true, 8), (true, 9), (true, 10), (true, 11), (true, 12), (true, 13), (true, 14), (true, 15), (true, 16), (true, 17), (true, 18), (true, 19)] (by kernel_rfl) (by kernel_rfl) (fun _ _ d _ _ h => by cases d <;> exact h) ?_
        have hb : Below V8.heap.size V8 V8.drew := (Below.refl _ _).drew
        iterate 20
          refine wpS_takeL rfl rfl ?_
          go_big_quiet_step (rfl)
          refine wpQuiet_nil ?_
        refine wpS_nil ?_
        simp only [List.drop_succ_cons, List.drop_zero]
        have HS9 := Lib.hid (HS8.out.of hb)
        have PB9 := Lib.hid (PB8.out.of hb)
        have B9 := Lib.hid (B8.out.trans (hb.mono B8.out.size))
        clear hb f0 f1 f2 lt z0 z1 z2 z3 z4 z5 lz qa0 qa1 qb0 qb1 qc0 qc1 kT8 KC8 HS8 PB8 B8
        go_wp2_with fail
        refine (all_is t D N X Y O nn L HLL.out hlen _ HS9.out).mono ?_
        rintro e V10 ⟨v, rfl, htl, hb⟩
        obtain ⟨ao10, cap10, rfl, P10⟩ := Trs.ofRow htl
        obtain ⟨g10, rfl, hg10, hc10⟩ := P10.ptr (by omega)
        obtain ⟨x0, x1, x2⟩ := hc10 i _ HI.out
        simp only [] at x0 x1 x2
        have hcap10 := P10.capl
        have hcap10b := P10.capb
        have HS10 := Lib.hid (HS9.out.of hb)
        have PB10 := Lib.hid (PB9.out.of hb)
        have B10 := Lib.hid (B9.out.trans (hb.mono B9.out.size))
        clear hb htl P10 hc10 HS9 PB9 B9
        go_wp2_with fail
        refine name_world ?_
        intro V11 hV11
        have KU : Hid (Blk V11 V10.heap.size #[.int .i64 (u0 : Nat), .int .i64 (u1 : Nat), .int .i64 (u2 : Nat)] 35) := by rw [hV11]; exact Lib.hid (Blk.new V10 _ _)
        have hb11 : Below V10.heap.size V10 V11 := by rw [hV11]; exact below_a1 _ _
        have HS11 := Lib.hid (HS10.out.of hb11)
        have PB11 := Lib.hid (PB10.out.of hb11)
        have B11 := Lib.hid (B10.out.trans (hb11.mono B10.out.size))
        obtain ⟨ub, eub⟩ : ∃ b, V10.heap.size = b := ⟨_, rfl⟩
        rw [eub] at KU ⊢
        clear hV11 hb11 x0 x1 x2 hg10 HS10 PB10 B10 eub
        go_wp2_with fail
        go_loopg [12, 93] 3 (fun gk s12 s93 wr => ∃ k m : Nat, s12 = .int .i64 (m : Nat) ∧ s93 = .int .i64 (k : Nat) ∧ k ≤ 3 ∧ 3 - k ≤ gk ∧ m ≤ 3 ∧ Hid (m = (bsTo O u0 u1 u2 k).length) ∧ Hid (Below V11.heap.size V11 wr))
        case atStart => exact ⟨0, 0, rfl, rfl, by omega, by omega, by omega, Lib.hid rfl, Lib.hid (Below.refl _ _)⟩
        case round =>
          obtain ⟨k, m, rfl, rfl, hk, hgk, hm3, HM, HW⟩ := hrel
          have HSw := Lib.hid (HS11.out.of HW.out)
          have KUw := Lib.hid (KU.out.of HW.out)
          rcases (show k = 0 ∨ k = 1 ∨ k = 2 ∨ k = 3 by omega) with rfl | rfl | rfl | rfl
          · have f0 := KUw.out.cell 0
            have f1 := KUw.out.cell 1
            have f2 := KUw.out.cell 2
            have lu := KUw.out.lt
            simp only [List.getElem?_toArray, List.getElem?_cons_zero, List.getElem?_cons_succ] at f0 f1 f2
            obtain ⟨R, hR⟩ : ∃ R, lookH (O u1) u0 = R := ⟨_, rfl⟩
            have HRR := Lib.hid hR
            have HLO := Lib.hid ((leftO_of hu1).trans hR)
            clear hR
            go_wp2_with fail
            refine wp_region_up wr.heap.size 14 [(true, 0), (true, 1), (true, 2), (true, 3), (true, 4), (true, 5), (true, 6), (true, 7), (true, 8), (false, 9), (true, 10), (true, 11), (true, 12), (true, 13)] (by kernel_rfl) (by kernel_rfl) (fun _ _ d _ _ h => by cases d <;> exact h) ?_
            have hb : Below wr.heap.size wr wr.drew := (Below.refl _ _).drew
            iterate 9
              refine wpS_takeL rfl rfl ?_
              go_big_quiet_step (rfl)
              refine wpQuiet_nil ?_
            refine wpS_doL rfl ?_
            intro K hK
            go_wp2_with ((go_at_call 21; (with_reducible refine (Left_is t D N X Y O nn u1 u0 _ (HSw.out.of hb) R HLO.out).mono ?_); rintro e w2 ⟨rfl, hn⟩))
            replace hb := hb.trans (hn.mono hb.size)
            refine hK.out _ _ (up_iff.2 hb) ?_
            clear hK K
            clear hn
            iterate 4
              refine wpS_takeL rfl rfl ?_
              go_big_quiet_step (rfl)
              refine wpQuiet_nil ?_
            refine wpS_nil ?_
            simp only [List.drop_succ_cons, List.drop_zero]
            have HS12 := Lib.hid (HSw.out.of hb)
            have KU12 := Lib.hid (KUw.out.of hb)
            have HW12 := Lib.hid (HW.out.trans (hb.mono HW.out.size))
            clear hb f0 f1 f2 lu HSw KUw HW HLO
            cases R with
            | none =>
              have HM2 : Hid (m = (bsTo O u0 u1 u2 (0 + 1)).length) := by
                have e := HM.out
                have e2 := bs1_none HRR.out
                refine Lib.hid (e.trans ?_)
                first | (show _ = (bs1 O u0 u1).length; rw [e2]; rfl) | (show (bs1 O u0 u1).length = (bs1 O u0 u1 ++ bs1 O u1 u2).length; rw [e2, List.append_nil]) | (show (bs1 O u0 u1 ++ bs1 O u1 u2).length = (bs1 O u0 u1 ++ bs1 O u1 u2 ++ bs1 O u2 u0).length; rw [e2, List.append_nil])
              go_wp2_with fail
              go_roundg (3 - (0 + 1))
              case measure => omega
              case rel => exact ⟨0 + 1, m, rfl, by rfl, by omega, Nat.le_refl _, hm3, HM2, HW12⟩
            | some d =>
              have hel : BS[m]? = some (lst u1 u0 d) := by
                have e := HM.out
                rw [e, ← HBS.out]
                first | exact (bs_at (a := u0) (b := u1) (c := u2)).1 d HRR.out | exact (bs_at (a := u0) (b := u1) (c := u2)).2.1 d HRR.out | exact (bs_at (a := u0) (b := u1) (c := u2)).2.2 d HRR.out
              have m1 := CY.out.ne _ _ _ HRR.out
              have m2 := CY.out.ne _ _ _ (CY.out.rot _ _ _ HRR.out)
              have m3 := CY.out.ne _ _ _ (CY.out.rot _ _ _ (CY.out.rot _ _ _ HRR.out))
              have hle := lst_least m1 m2 m3.symm
              have hro := lst_isRot u1 u0 d
              have HM2 : Hid (m + 1 = (bsTo O u0 u1 u2 (0 + 1)).length) := by
                have e := HM.out
                have e2 := bs1_some HRR.out
                refine Lib.hid ((congrArg (· + 1) e).trans ?_)
                first | (show _ = (bs1 O u0 u1).length; rw [e2]; rfl) | (show (bs1 O u0 u1).length + 1 = (bs1 O u0 u1 ++ bs1 O u1 u2).length; rw [List.length_append, e2]; rfl) | (show (bs1 O u0 u1 ++ bs1 O u1 u2).length + 1 = (bs1 O u0 u1 ++ bs1 O u1 u2 ++ bs1 O u2 u0).length; simp [e2]; omega)
              have hmb : m < bl := by have := (List.getElem?_eq_some_iff.1 hel).1; rw [HBL.out] at this; exact this
              obtain ⟨g8, hao8, hg8, hc8⟩ := (PB11.out.of HW12.out).ptr (by rw [HBL.out]; omega)
              subst hao8
              obtain ⟨⟨p0, p1, p2⟩, hp⟩ : ∃ p, lst u1 u0 d = p := ⟨_, rfl⟩
              rw [hp] at hel hle hro
              obtain ⟨cw0, cw1, cw2⟩ := hc8 m _ hel
              simp only [] at cw0 cw1 cw2 hle
              have hq1 : ¬ ((p1 : Int) ≤ (p0 : Int)) := by omega
              have hq2 : ¬ ((p2 : Int) ≤ (p0 : Int)) := by omega
              have hq3 : ¬ ((bl : Int) ≤ (m : Int)) := by omega
              have hq4 : ¬ (p1 ≤ p0) := by omega
              have hq5 : ¬ (p2 ≤ p0) := by omega
              have hq6 : ¬ (bl ≤ m) := by omega
              have HRO := Lib.hid hro
              clear hel hc8 hle hro hp m1 m2 m3
              have f0 := KU12.out.cell 0
              have f1 := KU12.out.cell 1
              have f2 := KU12.out.cell 2
              have lu := KU12.out.lt
              simp only [List.getElem?_toArray, List.getElem?_cons_zero, List.getElem?_cons_succ] at f0 f1 f2
              go_wp2_with fail
              refine wp_region_up w2.heap.size 46 [(true, 0), (true, 1), (false, 2), (true, 3), (true, 4), (true, 5), (true, 6), (true, 7), (true, 8), (true, 9), (true, 10), (true, 11), (true, 12), (true, 13), (true, 14), (true, 15), (true, 16), (true, 17), (true, 18), (true, 19), (true, 20), (true, 21), (true, 22), (true, 23), (true, 24), (true, 25), (true, 26), (true, 27), (true, 28), (true, 29), (true, 30), (true, 31), (true, 32), (true, 33), (true, 34), (true, 36), (true, 37), (true, 38), (true, 39), (true, 40), (true, 41), (true, 42), (true, 43), (true, 44), (true, 45), (false, 35)] (by kernel_rfl) (by kernel_rfl) (fun _ _ d _ _ h => by cases d <;> exact h) ?_
              have hb : Below w2.heap.size w2 w2.drew := (Below.refl _ _).drew
              iterate 2
                refine wpS_takeL rfl rfl ?_
                go_big_quiet_step (rfl)
                refine wpQuiet_nil ?_
              refine wpS_doL rfl ?_
              intro K hK
              go_wp2_with ((go_at_call 17; (refine (find_is _ 1 [(p0, p1, p2)] u1 u0 d _ ?tt (by simp)).mono ?_); rintro e w3 ⟨r, rfl, hfr, hn⟩))
              try replace hb := hb.trans (hn.mono hb.size)
              refine hK.out _ _ (up_iff.2 hb) ?_
              clear hK K
              try clear hn
              iterate 42
                refine wpS_takeL rfl rfl ?_
                go_big_quiet_step (rfl)
                refine wpQuiet_nil ?_
              refine wpS_doL rfl ?_
              intro K hK
              go_wp2_with ((go_at_call 17; (refine (find_is _ 1 [(p0, p1, p2)] u1 u0 d _ ?tt (by simp)).mono ?_); rintro e w3 ⟨r, rfl, hfr, hn⟩))
              try (replace hb : Below w2.heap.size w2 (w2.alloc (.cells #[.int .i64 (p0 : Nat), .int .i64 (p1 : Nat), .int .i64 (p2 : Nat)] 35)).drew := (below_a1 w2 _).drew)
              try replace hb := hb.trans (hn.mono hb.size)
              refine hK.out _ _ (up_iff.2 hb) ?_
              clear hK K
              try clear hn
              refine wpS_nil ?_
              simp only [List.drop_succ_cons, List.drop_zero]
              have TT := Trs.one ((Blk.new w2 #[.int .i64 (p0 : Nat), .int .i64 (p1 : Nat), .int .i64 (p2 : Nat)] 35).drewc)
              have HW13 := Lib.hid (HW12.out.trans (hb.mono HW12.out.size))
              clear hb f0 f1 f2 lu cw0 cw1 cw2 hg8
              go_wp2_with fail
              refine (find_is (some ⟨w2.heap.size, 0, none⟩) 1 [(p0, p1, p2)] u1 u0 d _ TT (by simp)).mono ?_
              rintro e w3 ⟨r, rfl, hfr, hn⟩
              obtain rfl := fR_one hfr HRO.out
              have HW14 := Lib.hid (HW13.out.trans (hn.mono HW13.out.size))
              clear hfr hn TT HW13
              have hm4 : m + 1 ≤ 3 := by omega
              go_wp2_with fail
              go_roundg (3 - (0 + 1))
              case measure => omega
              case rel => exact ⟨0 + 1, m + 1, by norm_cast, by rfl, by omega, Nat.le_refl _, hm4, HM2, HW14⟩
          · have f0 := KUw.out.cell 0
            have f1 := KUw.out.cell 1
            have f2 := KUw.out.cell 2
            have lu := KUw.out.lt
            simp only [List.getElem?_toArray, List.getElem?_cons_zero, List.getElem?_cons_succ] at f0 f1 f2
            obtain ⟨R, hR⟩ : ∃ R, lookH (O u2) u1 = R := ⟨_, rfl⟩
            have HRR := Lib.hid hR
            have HLO := Lib.hid ((leftO_of hu2).trans hR)
            clear hR
            go_wp2_with fail
            refine wp_region_up wr.heap.size 14 [(true, 0), (true, 1), (true, 2), (true, 3), (true, 4), (true, 5), (true, 6), (true, 7), (true, 8), (false, 9), (true, 10), (true, 11), (true, 12), (true, 13)] (by kernel_rfl) (by kernel_rfl) (fun _ _ d _ _ h => by cases d <;> exact h) ?_
            have hb : Below wr.heap.size wr wr.drew := (Below.refl _ _).drew
            iterate 9
              refine wpS_takeL rfl rfl ?_
              go_big_quiet_step (rfl)
              refine wpQuiet_nil ?_
            refine wpS_doL rfl ?_
            intro K hK
            go_wp2_with ((go_at_call 21; (with_reducible refine (Left_is t D N X Y O nn u2 u1 _ (HSw.out.of hb) R HLO.out).mono ?_); rintro e w2 ⟨rfl, hn⟩))
            replace hb := hb.trans (hn.mono hb.size)
            refine hK.out _ _ (up_iff.2 hb) ?_
            clear hK K
            clear hn
            iterate 4
              refine wpS_takeL rfl rfl ?_
              go_big_quiet_step (rfl)
              refine wpQuiet_nil ?_
            refine wpS_nil ?_
            simp only [List.drop_succ_cons, List.drop_zero]
            have HS12 := Lib.hid (HSw.out.of hb)
            have KU12 := Lib.hid (KUw.out.of hb)
            have HW12 := Lib.hid (HW.out.trans (hb.mono HW.out.size))
            clear hb f0 f1 f2 lu HSw KUw HW HLO
            cases R with
            | none =>
              have HM2 : Hid (m = (bsTo O u0 u1 u2 (1 + 1)).length) := by
                have e := HM.out
                have e2 := bs1_none HRR.out
                refine Lib.hid (e.trans ?_)
                first | (show _ = (bs1 O u0 u1).length; rw [e2]; rfl) | (show (bs1 O u0 u1).length = (bs1 O u0 u1 ++ bs1 O u1 u2).length; rw [e2, List.append_nil]) | (show (bs1 O u0 u1 ++ bs1 O u1 u2).length = (bs1 O u0 u1 ++ bs1 O u1 u2 ++ bs1 O u2 u0).length; rw [e2, List.append_nil])
              go_wp2_with fail
              go_roundg (3 - (1 + 1))
              case measure => omega
              case rel => exact ⟨1 + 1, m, rfl, by rfl, by omega, Nat.le_refl _, hm3, HM2, HW12⟩
            | some d =>
              have hel : BS[m]? = some (lst u2 u1 d) := by
                have e := HM.out
                rw [e, ← HBS.out]
                first | exact (bs_at (a := u0) (b := u1) (c := u2)).1 d HRR.out | exact (bs_at (a := u0) (b := u1) (c := u2)).2.1 d HRR.out | exact (bs_at (a := u0) (b := u1) (c := u2)).2.2 d HRR.out
              have m1 := CY.out.ne _ _ _ HRR.out
              have m2 := CY.out.ne _ _ _ (CY.out.rot _ _ _ HRR.out)
              have m3 := CY.out.ne _ _ _ (CY.out.rot _ _ _ (CY.out.rot _ _ _ HRR.out))
              have hle := lst_least m1 m2 m3.symm
              have hro := lst_isRot u2 u1 d
              have HM2 : Hid (m + 1 = (bsTo O u0 u1 u2 (1 + 1)).length) := by
                have e := HM.out
                have e2 := bs1_some HRR.out
                refine Lib.hid ((congrArg (· + 1) e).trans ?_)
                first | (show _ = (bs1 O u0 u1).length; rw [e2]; rfl) | (show (bs1 O u0 u1).length + 1 = (bs1 O u0 u1 ++ bs1 O u1 u2).length; rw [List.length_append, e2]; rfl) | (show (bs1 O u0 u1 ++ bs1 O u1 u2).length + 1 = (bs1 O u0 u1 ++ bs1 O u1 u2 ++ bs1 O u2 u0).length; simp [e2]; omega)
              have hmb : m < bl := by have := (List.getElem?_eq_some_iff.1 hel).1; rw [HBL.out] at this; exact this
              obtain ⟨g8, hao8, hg8, hc8⟩ := (PB11.out.of HW12.out).ptr (by rw [HBL.out]; omega)
              subst hao8
              obtain ⟨⟨p0, p1, p2⟩, hp⟩ : ∃ p, lst u2 u1 d = p := ⟨_, rfl⟩
              rw [hp] at hel hle hro
              obtain ⟨cw0, cw1, cw2⟩ := hc8 m _ hel
              simp only [] at cw0 cw1 cw2 hle
              have hq1 : ¬ ((p1 : Int) ≤ (p0 : Int)) := by omega
              have hq2 : ¬ ((p2 : Int) ≤ (p0 : Int)) := by omega
              have hq3 : ¬ ((bl : Int) ≤ (m : Int)) := by omega
              have hq4 : ¬ (p1 ≤ p0) := by omega
              have hq5 : ¬ (p2 ≤ p0) := by omega
              have hq6 : ¬ (bl ≤ m) := by omega
              have HRO := Lib.hid hro
              clear hel hc8 hle hro hp m1 m2 m3
              have f0 := KU12.out.cell 0
              have f1 := KU12.out.cell 1
              have f2 := KU12.out.cell 2
              have lu := KU12.out.lt
              simp only [List.getElem?_toArray, List.getElem?_cons_zero, List.getElem?_cons_succ] at f0 f1 f2
              go_wp2_with fail
              refine wp_region_up w2.heap.size 46 [(true, 0), (true, 1), (false, 2), (true, 3), (true, 4), (true, 5), (true, 6), (true, 7), (true, 8), (true, 9), (true, 10), (true, 11), (true, 12), (true, 13), (true, 14), (true, 15), (true, 16), (true, 17), (true, 18), (true, 19), (true, 20), (true, 21), (true, 22), (true, 23), (true, 24), (true, 25), (true, 26), (true, 27), (true, 28), (true, 29), (true, 30), (true, 31), (true, 32), (true, 33), (true, 34), (true, 36), (true, 37), (true, 38), (true, 39), (true, 40), (true, 41), (true, 42), (true, 43), (true, 44), (true, 45), (false, 35)] (by kernel_rfl) (by kernel_rfl) (fun _ _ d _ _ h => by cases d <;> exact h) ?_
              have hb : Below w2.heap.size w2 w2.drew := (Below.refl _ _).drew
              iterate 2
                refine wpS_takeL rfl rfl ?_
                go_big_quiet_step (rfl)
                refine wpQuiet_nil ?_
              refine wpS_doL rfl ?_
              intro K hK
              go_wp2_with ((go_at_call 17; (refine (find_is _ 1 [(p0, p1, p2)] u2 u1 d _ ?tt (by simp)).mono ?_); rintro e w3 ⟨r, rfl, hfr, hn⟩))
              try replace hb := hb.trans (hn.mono hb.size)
              refine hK.out _ _ (up_iff.2 hb) ?_
              clear hK K
              try clear hn
              iterate 42
                refine wpS_takeL rfl rfl ?_
                go_big_quiet_step (rfl)
                refine wpQuiet_nil ?_
              refine wpS_doL rfl ?_
              intro K hK
              go_wp2_with ((go_at_call 17; (refine (find_is _ 1 [(p0, p1, p2)] u2 u1 d _ ?tt (by simp)).mono ?_); rintro e w3 ⟨r, rfl, hfr, hn⟩))
              try (replace hb : Below w2.heap.size w2 (w2.alloc (.cells #[.int .i64 (p0 : Nat), .int .i64 (p1 : Nat), .int .i64 (p2 : Nat)] 35)).drew := (below_a1 w2 _).drew)
              try replace hb := hb.trans (hn.mono hb.size)
              refine hK.out _ _ (up_iff.2 hb) ?_
              clear hK K
              try clear hn
              refine wpS_nil ?_
              simp only [List.drop_succ_cons, List.drop_zero]
              have TT := Trs.one ((Blk.new w2 #[.int .i64 (p0 : Nat), .int .i64 (p1 : Nat), .int .i64 (p2 : Nat)] 35).drewc)
              have HW13 := Lib.hid (HW12.out.trans (hb.mono HW12.out.size))
              clear hb f0 f1 f2 lu cw0 cw1 cw2 hg8
              go_wp2_with fail
              refine (find_is (some ⟨w2.heap.size, 0, none⟩) 1 [(p0, p1, p2)] u2 u1 d _ TT (by simp)).mono ?_
              rintro e w3 ⟨r, rfl, hfr, hn⟩
              obtain rfl := fR_one hfr HRO.out
              have HW14 := Lib.hid (HW13.out.trans (hn.mono HW13.out.size))
              clear hfr hn TT HW13
              have hm4 : m + 1 ≤ 3 := by omega
              go_wp2_with fail
              go_roundg (3 - (1 + 1))
              case measure => omega
              case rel => exact ⟨1 + 1, m + 1, by norm_cast, by rfl, by omega, Nat.le_refl _, hm4, HM2, HW14⟩
          · have f0 := KUw.out.cell 0
            have f1 := KUw.out.cell 1
            have f2 := KUw.out.cell 2
            have lu := KUw.out.lt
            simp only [List.getElem?_toArray, List.getElem?_cons_zero, List.getElem?_cons_succ] at f0 f1 f2
            obtain ⟨R, hR⟩ : ∃ R, lookH (O u0) u2 = R := ⟨_, rfl⟩
            have HRR := Lib.hid hR
            have HLO := Lib.hid ((leftO_of hu0).trans hR)
            clear hR
            go_wp2_with fail
            refine wp_region_up wr.heap.size 14 [(true, 0), (true, 1), (true, 2), (true, 3), (true, 4), (true, 5), (true, 6), (true, 7), (true, 8), (false, 9), (true, 10), (true, 11), (true, 12), (true, 13)] (by kernel_rfl) (by kernel_rfl) (fun _ _ d _ _ h => by cases d <;> exact h) ?_
            have hb : Below wr.heap.size wr wr.drew := (Below.refl _ _).drew
            iterate 9
              refine wpS_takeL rfl rfl ?_
              go_big_quiet_step (rfl)
              refine wpQuiet_nil ?_
            refine wpS_doL rfl ?_
            intro K hK
            go_wp2_with ((go_at_call 21; (with_reducible refine (Left_is t D N X Y O nn u0 u2 _ (HSw.out.of hb) R HLO.out).mono ?_); rintro e w2 ⟨rfl, hn⟩))
            replace hb := hb.trans (hn.mono hb.size)
            refine hK.out _ _ (up_iff.2 hb) ?_
            clear hK K
            clear hn
            iterate 4
              refine wpS_takeL rfl rfl ?_
              go_big_quiet_step (rfl)
              refine wpQuiet_nil ?_
            refine wpS_nil ?_
            simp only [List.drop_succ_cons, List.drop_zero]
            have HS12 := Lib.hid (HSw.out.of hb)
            have KU12 := Lib.hid (KUw.out.of hb)
            have HW12 := Lib.hid (HW.out.trans (hb.mono HW.out.size))
            clear hb f0 f1 f2 lu HSw KUw HW HLO
            cases R with
            | none =>
              have HM2 : Hid (m = (bsTo O u0 u1 u2 (2 + 1)).length) := by
                have e := HM.out
                have e2 := bs1_none HRR.out
                refine Lib.hid (e.trans ?_)
                first | (show _ = (bs1 O u0 u1).length; rw [e2]; rfl) | (show (bs1 O u0 u1).length = (bs1 O u0 u1 ++ bs1 O u1 u2).length; rw [e2, List.append_nil]) | (show (bs1 O u0 u1 ++ bs1 O u1 u2).length = (bs1 O u0 u1 ++ bs1 O u1 u2 ++ bs1 O u2 u0).length; rw [e2, List.append_nil])
              go_wp2_with fail
              go_roundg (3 - (2 + 1))
              case measure => omega
              case rel => exact ⟨2 + 1, m, rfl, by rfl, by omega, Nat.le_refl _, hm3, HM2, HW12⟩
            | some d =>
              have hel : BS[m]? = some (lst u0 u2 d) := by
                have e := HM.out
                rw [e, ← HBS.out]
                first | exact (bs_at (a := u0) (b := u1) (c := u2)).1 d HRR.out | exact (bs_at (a := u0) (b := u1) (c := u2)).2.1 d HRR.out | exact (bs_at (a := u0) (b := u1) (c := u2)).2.2 d HRR.out
              have m1 := CY.out.ne _ _ _ HRR.out
              have m2 := CY.out.ne _ _ _ (CY.out.rot _ _ _ HRR.out)
              have m3 := CY.out.ne _ _ _ (CY.out.rot _ _ _ (CY.out.rot _ _ _ HRR.out))
              have hle := lst_least m1 m2 m3.symm
              have hro := lst_isRot u0 u2 d
              have HM2 : Hid (m + 1 = (bsTo O u0 u1 u2 (2 + 1)).length) := by
                have e := HM.out
                have e2 := bs1_some HRR.out
                refine Lib.hid ((congrArg (· + 1) e).trans ?_)
                first | (show _ = (bs1 O u0 u1).length; rw [e2]; rfl) | (show (bs1 O u0 u1).length + 1 = (bs1 O u0 u1 ++ bs1 O u1 u2).length; rw [List.length_append, e2]; rfl) | (show (bs1 O u0 u1 ++ bs1 O u1 u2).length + 1 = (bs1 O u0 u1 ++ bs1 O u1 u2 ++ bs1 O u2 u0).length; simp [e2]; omega)
              have hmb : m < bl := by have := (List.getElem?_eq_some_iff.1 hel).1; rw [HBL.out] at this; exact this
              obtain ⟨g8, hao8, hg8, hc8⟩ := (PB11.out.of HW12.out).ptr (by rw [HBL.out]; omega)
              subst hao8
              obtain ⟨⟨p0, p1, p2⟩, hp⟩ : ∃ p, lst u0 u2 d = p := ⟨_, rfl⟩
              rw [hp] at hel hle hro
              obtain ⟨cw0, cw1, cw2⟩ := hc8 m _ hel
              simp only [] at cw0 cw1 cw2 hle
              have hq1 : ¬ ((p1 : Int) ≤ (p0 : Int)) := by omega
              have hq2 : ¬ ((p2 : Int) ≤ (p0 : Int)) := by omega
              have hq3 : ¬ ((bl : Int) ≤ (m : Int)) := by omega
              have hq4 : ¬ (p1 ≤ p0) := by omega
              have hq5 : ¬ (p2 ≤ p0) := by omega
              have hq6 : ¬ (bl ≤ m) := by omega
              have HRO := Lib.hid hro
              clear hel hc8 hle hro hp m1 m2 m3
              have f0 := KU12.out.cell 0
              have f1 := KU12.out.cell 1
              have f2 := KU12.out.cell 2
              have lu := KU12.out.lt
              simp only [List.getElem?_toArray, List.getElem?_cons_zero, List.getElem?_cons_succ] at f0 f1 f2
              go_wp2_with fail
              refine wp_region_up w2.heap.size 46 [(true, 0), (true, 1), (false, 2), (true, 3), (true, 4), (true, 5), (true, 6), (true, 7), (true, 8), (true, 9), (true, 10), (true, 11), (true, 12), (true, 13), (true, 14), (true, 15), (true, 16), (true, 17), (true, 18), (true, 19), (true, 20), (true, 21), (true, 22), (true, 23), (true, 24), (true, 25), (true, 26), (true, 27), (true, 28), (true, 29), (true, 30), (true, 31), (true, 32), (true, 33), (true, 34), (true, 36), (true, 37), (true, 38), (true, 39), (true, 40), (true, 41), (true, 42), (true, 43), (true, 44), (true, 45), (false, 35)] (by kernel_rfl) (by kernel_rfl) (fun _ _ d _ _ h => by cases d <;> exact h) ?_
              have hb : Below w2.heap.size w2 w2.drew := (Below.refl _ _).drew
              iterate 2
                refine wpS_takeL rfl rfl ?_
                go_big_quiet_step (rfl)
                refine wpQuiet_nil ?_
              refine wpS_doL rfl ?_
              intro K hK
              go_wp2_with ((go_at_call 17; (refine (find_is _ 1 [(p0, p1, p2)] u0 u2 d _ ?tt (by simp)).mono ?_); rintro e w3 ⟨r, rfl, hfr, hn⟩))
              try replace hb := hb.trans (hn.mono hb.size)
              refine hK.out _ _ (up_iff.2 hb) ?_
              clear hK K
              try clear hn
              iterate 42
                refine wpS_takeL rfl rfl ?_
                go_big_quiet_step (rfl)
                refine wpQuiet_nil ?_
              refine wpS_doL rfl ?_
              intro K hK
              go_wp2_with ((go_at_call 17; (refine (find_is _ 1 [(p0, p1, p2)] u0 u2 d _ ?tt (by simp)).mono ?_); rintro e w3 ⟨r, rfl, hfr, hn⟩))
              try (replace hb : Below w2.heap.size w2 (w2.alloc (.cells #[.int .i64 (p0 : Nat), .int .i64 (p1 : Nat), .int .i64 (p2 : Nat)] 35)).drew := (below_a1 w2 _).drew)
              try replace hb := hb.trans (hn.mono hb.size)
              refine hK.out _ _ (up_iff.2 hb) ?_
              clear hK K
              try clear hn
              refine wpS_nil ?_
              simp only [List.drop_succ_cons, List.drop_zero]
              have TT := Trs.one ((Blk.new w2 #[.int .i64 (p0 : Nat), .int .i64 (p1 : Nat), .int .i64 (p2 : Nat)] 35).drewc)
              have HW13 := Lib.hid (HW12.out.trans (hb.mono HW12.out.size))
              clear hb f0 f1 f2 lu cw0 cw1 cw2 hg8
              go_wp2_with fail
              refine (find_is (some ⟨w2.heap.size, 0, none⟩) 1 [(p0, p1, p2)] u0 u2 d _ TT (by simp)).mono ?_
              rintro e w3 ⟨r, rfl, hfr, hn⟩
              obtain rfl := fR_one hfr HRO.out
              have HW14 := Lib.hid (HW13.out.trans (hn.mono HW13.out.size))
              clear hfr hn TT HW13
              have hm4 : m + 1 ≤ 3 := by omega
              go_wp2_with fail
              go_roundg (3 - (2 + 1))
              case measure => omega
              case rel => exact ⟨2 + 1, m + 1, by norm_cast, by rfl, by omega, Nat.le_refl _, hm4, HM2, HW14⟩
          · have HM3 : Hid (m = bl) := by
              refine Lib.hid (HM.out.trans ?_)
              rw [← HBL.out, ← HBS.out]; rfl
            have B12 := Lib.hid (B11.out.trans (HW.out.mono B11.out.size))
            have hmm := HM3.out
            subst hmm
            clear HSw KUw
            go_wp2_with fail
            refine (awake_is wr).mono ?_
            rintro e V13 ⟨rfl, hb⟩
            have B13 := B12.out.trans (hb.mono B12.out.size)
            clear hb
            go_wp2
            go_ret
            exact ⟨rfl, B13⟩
      · have hr1 : r = -1 := by
          rcases FR.out with ⟨h, _⟩ | ⟨i, x, _, h1, h2⟩
          · exact h
          · exact absurd ((rot_left (N := N) CY.out DM.out).1 ⟨x, by rw [HLL.out]; exact List.mem_iff_getElem?.2 ⟨i, h1⟩, h2⟩) hex
        have hno : ∀ c : Nat, leftO N O t0 t1 = some c → (c : Int) ≠ t2 := fun c h1 h2 => hex ⟨c, h1, h2⟩
        subst hr1
        have NO := Lib.hid hno
        clear hno hex
        go_wp2_with fail
        refine (Corners_no t D N X Y O nn t0 t1 t2 V5 (HS5.out) NO.out).mono ?_
        rintro e V6 ⟨rfl, hb⟩
        have kT6 := Lib.hid (kT5.out.of hb)
        have HS6 := Lib.hid (HS5.out.of hb)
        have B6 := Lib.hid (B5.out.trans (hb.mono B5.out.size))
        clear hb f0 f1 f2 lt kT5 B5
        have f0 := kT6.out.cell 0
        have f1 := kT6.out.cell 1
        have f2 := kT6.out.cell 2
        have lt := kT6.out.lt
        simp only [List.getElem?_toArray, List.getElem?_cons_zero, List.getElem?_cons_succ] at f0 f1 f2
        go_wp2_with fail
        refine calls_w ?_
        intro V7 hV7
        have KC : Hid (Blk V7 V6.heap.size #[.int .i64 0, .int .i64 0, .int .i64 0, .int .i64 0, .int .i64 0, .int .i64 0] 42) := by rw [hV7]; exact Lib.hid (Blk.new V6 _ _)
        have hb7 : Below V6.heap.size V6 V7 := by rw [hV7]; exact below_a1 _ _
        have HS7 := Lib.hid (HS6.out.of hb7)
        have B7 := Lib.hid (B6.out.trans (hb7.mono B6.out.size))
        obtain ⟨cb, ecb⟩ : ∃ b, V6.heap.size = b := ⟨_, rfl⟩
        rw [ecb] at KC ⊢
        clear hV7 hb7 f0 f1 f2 lt kT6 B6 ecb HS6
        refine (Beside_no t D N X Y O nn t0 t1 t2 V7 HS7.out NO.out).mono ?_
        rintro e V8 ⟨rfl, hb⟩
        have KC8 := Lib.hid (KC.out.of hb)
        have B8 := Lib.hid (B7.out.trans (hb.mono B7.out.size))
        clear hb KC B7 HS7
        have z0 := KC8.out.cell 0
        have z1 := KC8.out.cell 1
        have z2 := KC8.out.cell 2
        have z3 := KC8.out.cell 3
        have z4 := KC8.out.cell 4
        have z5 := KC8.out.cell 5
        simp only [List.getElem?_toArray, List.getElem?_cons_zero, List.getElem?_cons_succ] at z0 z1 z2 z3 z4 z5
        go_wp2_with fail
        refine (awake_is V8).mono ?_
        rintro e V9 ⟨rfl, hb⟩
        have B9 := B8.out.trans (hb.mono B8.out.size)
        clear hb
        go_wp2
        go_ret
        exact ⟨rfl, B9⟩
end Go.Proofs.Ytdlpfiiakmhnlaa

namespace Go.Proofs.Ytdlpfiiakmhnlaa
open Go.ChangeShapes Go.WideShapes Go.ChangeAt Go.RowKit

theorem blk_add (a : Addr) (n : Nat) : (a.add n).block = a.block := by unfold Addr.add; split <;> rfl
section
variable {H : Type} {enc : TypeId × Value → H} {w : World} {base : Nat} {held : Bool}
set_option maxRecDepth 100000 in
theorem open_pts {r : Reach} {b0 : Nat} {v : Value} {d : DataW H} {p : List MemPlace} (hv : Value.okWide Try.prog w r b0 22 v) (h : DataW.Trod enc Try.prog w base (fun _ => true) held 22 v d p) :
    ∃ ao n cap X Y, v = .slice ao n cap ∧ Pts w ao n cap X Y := by
  obtain ⟨ao, n, cap, rfl⟩ := okWide_slice Try.underlying22 hv
  obtain ⟨fuel, hf⟩ := h
  have hC : Try.prog.cellsOf 41 = 2 := by kernel_rfl
  have hC1 : Try.prog.cellsOf 3 = 1 := by kernel_rfl
  rcases Go.Deep.open_slice_pairs Try.underlying22 Try.underlying41 hC rfl rfl hC1 hC1 hf with ⟨hc, hx⟩ | ⟨a, len, c2, m, k, V0, V1, D0, D1, P0, P1, hc, _, hl, hm, hmm, hx, hall⟩
  · obtain ⟨rfl, rfl, rfl⟩ : ao = none ∧ n = 0 ∧ cap = 0 := by simpa [Value.cells] using hc
    exact ⟨none, 0, 0, fun _ => 0, fun _ => 0, rfl, fun h => absurd h (by omega), Nat.le_refl _, by omega⟩
  · obtain ⟨rfl, rfl, rfl⟩ : ao = some a ∧ n = len ∧ cap = c2 := by simpa [Value.cells] using hc
    have hmc : m = cap := by rw [hmm]; rfl
    have key : ∀ i, i < n → ∃ y : Int × Int, V0 i = .int .i64 y.1 ∧ V1 i = .int .i64 y.2 := by
      intro i hi
      obtain ⟨_, _, t0, t1⟩ := hall i (by omega)
      obtain ⟨a0, e0, _, g0⟩ := DataW.trod_int Try.underlying3 t0
      obtain ⟨a1, e1, _, g1⟩ := DataW.trod_int Try.underlying3 t1
      exact ⟨(a0, a1), by simpa using e0, by simpa using e1⟩
    refine ⟨some a, n, cap, fun i => if h : i < n then (key i h).choose.1 else 0, fun i => if h : i < n then (key i h).choose.2 else 0, rfl, fun h0 => ⟨a, rfl, ?_, fun i hi => ?_⟩, hl, hm⟩
    · have := (hall 0 (by omega)).1
      have := World.block_lt_of_cell? _ _ this
      rwa [blk_add] at this
    · have e0 := (hall i (by omega)).1
      have e1 := (hall i (by omega)).2.1
      rw [(key i hi).choose_spec.1] at e0
      rw [(key i hi).choose_spec.2] at e1
      simp only [dif_pos hi]
      exact ⟨e0, by rw [Go.Deep.add_add]; exact e1⟩
end
end Go.Proofs.Ytdlpfiiakmhnlaa

namespace Go.Proofs.Ytdlpfiiakmhnlaa
open Go.ChangeShapes Go.WideShapes Go.ChangeAt Go.RowKit

section
variable {H : Type} {enc : TypeId × Value → H} {w : World} {base : Nat} {spare : Nat → Bool} {held : Bool}
theorem okWide_arr {P : Program} {r : Reach} {b0 n : Nat} {t e : TypeId} {v : Value} (ht : P.underlying t = some (.array n e)) (h : Value.okWide P w r b0 t v) : ∃ cs, v = .agg cs ∧ cs.size = P.cellsOf t := by
  simp only [Value.okWide, ht] at h
  obtain ⟨cs, h1, h2, _⟩ := h
  exact ⟨cs, h1, h2⟩
set_option maxRecDepth 100000 in
theorem open_tri {r : Reach} {b0 : Nat} {v : Value} {d : DataW H} {p : List MemPlace} (hv : Value.okWide Try.prog w r b0 36 v) (h : DataW.Trod enc Try.prog w base spare held 36 v d p) :
    ∃ a b c, v = .agg #[.int .i64 a, .int .i64 b, .int .i64 c] ∧ In64 a ∧ In64 b ∧ In64 c := by
  have ht : Try.prog.underlying 36 = some (.array 3 3) := by kernel_rfl
  obtain ⟨cs, rfl, hsz⟩ := okWide_arr ht hv
  have hC : Try.prog.cellsOf 36 = 3 := by kernel_rfl
  have hC1 : Try.prog.cellsOf 3 = 1 := by kernel_rfl
  obtain ⟨l⟩ := cs
  match l, hsz.trans hC with
  | [c0, c1, c2], _ =>
    obtain ⟨fuel, hf⟩ := h
    obtain ⟨xs, k, _, hx, _, hlen, hg⟩ := DataW.trod_array ht hf
    match xs, hlen with
    | [y0, y1, y2], _ =>
      have g0 := hg 0 (by omega)
      have g1 := hg 1 (by omega)
      have g2 := hg 2 (by omega)
      simp [Value.cells, hC1] at g0 g1 g2
      obtain ⟨a0, e0, _, k0⟩ := DataW.trod_int Try.underlying3 g0
      obtain ⟨a1, e1, _, k1⟩ := DataW.trod_int Try.underlying3 g1
      obtain ⟨a2, e2, _, k2⟩ := DataW.trod_int Try.underlying3 g2
      simp at e0 e1 e2
      exact ⟨a0, a1, a2, by rw [e0, e1, e2], in64_wf k0, in64_wf k1, in64_wf k2⟩
end
end Go.Proofs.Ytdlpfiiakmhnlaa

namespace Go.Proofs.Ytdlpfiiakmhnlaa
open Go.ChangeShapes Go.WideShapes Go.ChangeAt Go.RowKit

set_option maxRecDepth 100000 in
set_option maxHeartbeats 1000000 in
theorem triBeside_lifted (os : Os) (started : os.Started) (H : Type) (enc : TypeId × Value → H) :
    ReturnsInHanded {} Try.checked os 4 .any (Rows.triBesideSpec.pre6 enc Try.prog Try.f4 Rows.triBesideRow.domain false) (Rows.triBesideSpec.post enc Try.prog Try.f4 false true false false) := by
  refine returnsInHanded_of_change (C := Try.checked) own started (by kernel_rfl) Try.func4
    (ChangeSpec.witness6 (enc := enc) (C := Try.checked) false ⟨#[], #[.slice none 0 0, .agg #[.int .i64 0, .int .i64 0, .int .i64 0]], []⟩ 8 (by kernel_rfl) (by kernel_rfl) (by kernel_rfl) (by kernel_rfl)) ?_
  intro W base args ds gs before hval0 hW hcnd _
  have hval : ∀ (j : Nat) t v, Try.f4.params[j]? = some t → args[j]? = some v → Value.okWide Try.prog W .any base t v := hval0
  have hW' := hW
  obtain ⟨p, q, hA0, hV, rfl, hfz, hnd⟩ := hW
  have hA : DataW.TrodAll enc Try.prog W 0 (fun _ => true) true Try.f4.params.toList args.toList ds p := hA0
  rw [Try.params4] at hA hval
  obtain ⟨v0, vs0, d0, ds0, p0, q0, hargs, rfl, rfl, h0, r0⟩ := trodAll_cons hA
  obtain ⟨v1, vs1, d1, ds1, p1, q1, rfl, rfl, rfl, h1, r1⟩ := trodAll_cons r0
  obtain ⟨rfl, rfl, rfl⟩ := trodAll_nil r1
  obtain rfl : args = #[v0, v1] := by cases args; simp_all
  obtain ⟨rfl, rfl⟩ := trodVars_none hV
  have k0 := h0
  have lt0 : ∀ x ∈ p0, x.block < W.heap.size := by obtain ⟨m, hm⟩ := k0; exact DataW.trod_lt m _ _ _ hm
  obtain ⟨ao0, n0, cap0, X0, Y0, rfl, io0⟩ := open_pts (hval 0 22 v0 rfl rfl) h0
  have k1 := h1
  have lt1 : ∀ x ∈ p1, x.block < W.heap.size := by obtain ⟨m, hm⟩ := k1; exact DataW.trod_lt m _ _ _ hm
  obtain ⟨a1, b1, c1, rfl, ia1, ib1, ic1⟩ := open_tri (hval 1 36 v1 rfl rfl) h1
  clear hA0 hval0
  refine (TriBeside_any ao0 n0 cap0 X0 Y0 a1 b1 c1 W io0).mono fun e W' ⟨he, bel⟩ => ?_
  subst he
  exact ⟨_, rfl, _, _, _, [], _, [], hW', trodAll_mk1 (shut_bool Try.underlying4 _), (trodAll_cons_mk (Below.trod laidOut (by kernel_rfl) (of_decide_eq_true (by kernel_rfl)) k0 bel lt0) (trodAll_cons_mk (Below.trod laidOut (by kernel_rfl) (of_decide_eq_true (by kernel_rfl)) k1 bel lt1) trodAll_mk0)), rfl, bel.frame _, fun h => by cases h⟩

theorem triBeside_holds : Rows.TriBesideSaid :=
  OpenClaim.holds_of_wide 4 Try.f4 rfl rfl rfl rfl rfl rfl rfl ⟨rfl, rfl, rfl, rfl, rfl⟩ rfl rfl rfl rfl rfl (by kernel_rfl) Try.func4 (by kernel_rfl)
    (of_decide_eq_true (by kernel_rfl)) (by unfold Func.isWrapper; rw [if_neg (by decide +kernel)]; exact ⟨rfl, rfl⟩)
    (fun os started H enc _ => triBeside_lifted os started H enc)
#print axioms triBeside_holds
end Go.Proofs.Ytdlpfiiakmhnlaa

